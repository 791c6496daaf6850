/- The walk of the law CodecKeeps. -/
import Derived.Test.YtfopfhdijdefiaaCodecS
import Derived.Deep.RegionLaw
import Derived.Deep.DeepCutAuto
namespace Go.Proofs.Ytfopfhdijdefiaa
open Go.RowKit

theorem own_new0 (w : World) (e : TypeId) (size : Nat) : (w.alloc (.cells #[] e)).ownsRow 0 e size (.slice (some ⟨w.heap.size, 0, none⟩) 0 0) 0 [] :=
  World.ownsRow_lit _ _ 0 (Nat.zero_le _) (by simp [maxLen]) (by simp)

/-- The list and the bytes of the law's first statement. -/
structure Keeps1 (w wx : World) (A1 : Option Addr) (n1 c1 : Nat) (A2 : Option Addr) (n2 c2 : Nat) (L : List VV) (b : List UInt8) : Prop where
  own1 : wx.ownsRow 0 47 5 (.slice A1 n1 c1) L.length (vcells L)
  own2 : OwnB wx (.slice A2 n2 c2) b
  new1 : ∀ k, Rows1 (.slice A1 n1 c1) k → w.heap.size ≤ k
  new2 : ∀ k, Rows1 (.slice A2 n2 c2) k → w.heap.size ≤ k
  fr : Fr Nothing w wx

theorem keeps1_of {w w0 w1 w1' w2 : World} {A1 : Option Addr} {n1 c1 g0 m' : Nat} {v2 : Value} {L : List VV} {b : List UInt8} (f0 : Fr Nothing w w0) (h1 : GrewV w0 (.slice none 0 0) w1 (.slice A1 n1 c1) L) (f1 : Fr Nothing w1 w1')
    (h2 : Grew 5 1 w1' (.slice (some ⟨g0, 0, none⟩) 0 0) w2 v2 (0 + m') ([] ++ b.map bv)) (hb : b.length = m') (hg0 : w.heap.size ≤ g0) (hne : ∀ k, Rows1 (.slice A1 n1 c1) k → k ≠ g0) :
    ∃ A2 n2 c2, v2 = .slice A2 n2 c2 ∧ Hid (n2 = b.length) ∧ Keeps1 w w2 A1 n1 c1 A2 n2 c2 L b := by
  obtain ⟨A2, n2, c2, rfl, H2, _⟩ := own_slice h2.own
  have hs : w.heap.size ≤ w1'.heap.size := Nat.le_trans (Nat.le_trans f0.size h1.fr.size) f1.size
  refine ⟨A2, n2, c2, rfl, by have := H2.out; simp only [Hid]; omega, ?_, ?_, ?_, ?_, ?_⟩
  · exact own_fr (own_fr h1.own f1 (fun _ _ x => x)) h2.fr (fun k hk e => by
      simp only [Rows1, Value.ownBlock, Option.some.injEq] at e
      exact hne k hk e.symm)
  · have := h2.own
    rw [List.nil_append, Nat.zero_add, ← hb] at this
    exact this
  · exact fun k hk => Nat.le_trans f0.size (h1.new k hk)
  · intro k hk
    rcases h2.lies k hk with h | h
    · simp only [Value.ownBlock, Option.some.injEq] at h
      omega
    · omega
  · exact ((f0.trans h1.fr0).trans f1).then_ h2.fr (fun i hi e => by
      simp only [Rows1, Value.ownBlock, Option.some.injEq] at e
      omega)

theorem BytesPost.one {w w' : World} {l : List UInt8} {f : Int} {e : Ending} (h : BytesPost w l f e w') : ∃ A n c, e = .returned (.tuple #[.slice A n c, .int .i64 f]) ∧ GrewB w (.slice none 0 0) w' (.slice A n c) (if f = 0 then l else []) ∧ Hid (n = (if f = 0 then l else []).length) := by
  by_cases hf : f = 0
  · obtain ⟨v, rfl, hg⟩ := h.2 hf
    obtain ⟨A, n, c, rfl, H, _⟩ := own_slice hg.own
    subst hf
    exact ⟨A, n, c, rfl, by simpa using hg, by simpa [Hid] using H.out⟩
  · obtain ⟨rfl, hg⟩ := h.1 hf
    refine ⟨none, 0, 0, rfl, ?_, by simp [Hid, hf]⟩
    rw [if_neg hf]
    exact ⟨World.ownsRow_nil _ _ _ _, hg.weak, fun k hk => by simp [Value.ownBlock] at hk⟩

/-- A loop's state: a row of bytes of one's own, of which nothing but the length is known. -/
structure Bumped (w0 w : World) (v : Value) (n : Nat) : Prop where
  own : ∃ l : List UInt8, l.length = n ∧ w.ownsRow 0 5 1 v n (l.map bv)
  fr : Fr (Rows1 v) w0 w

theorem Bumped.start {w : World} {v : Value} {l : List UInt8} {n : Nat} (h : OwnB w v l) (hn : n = l.length) : Bumped w w v n := by
  subst hn
  exact ⟨⟨l, rfl, h⟩, Fr.refl _ _⟩

theorem Bumped.at_ {w0 w : World} {A : Option Addr} {n c k : Nat} (h : Bumped w0 w (.slice A n c) n) (hk : k < n) : ∃ (g : Nat) (b : UInt8), A = some ⟨g, 0, none⟩ ∧ w.cell? ⟨g, k, none⟩ = some (.int .u8 (b.toNat : Int)) ∧ w.frozen? ⟨g, k, none⟩ = false ∧
    ∀ x : UInt8, Bumped w0 (w.setCell ⟨g, k, none⟩ (bv x)) (.slice A n c) n := by
  obtain ⟨⟨l, hl, ho⟩, hf⟩ := h
  obtain ⟨g, cap, hv, _, hlt⟩ := ho.form (by omega)
  simp only [Value.slice.injEq] at hv
  obtain ⟨rfl, _, rfl⟩ := hv
  have hc := ho.cellAt k (by omega)
  rw [List.getElem?_map, List.getElem?_eq_getElem (by omega)] at hc
  refine ⟨g, l[k], rfl, hc, ho.frozenAt k, fun x => ?_⟩
  obtain ⟨h1, h2⟩ := ho.stored k (bv x)
  exact ⟨⟨l.set k x, by simp [hl], by rw [List.map_set]; exact h1⟩, hf.setCell (p := ⟨g, k, none⟩) (fun _ => rfl) _⟩

theorem bv_wrap (b : UInt8) : ∃ x : UInt8, bv x = .int .u8 (((b.toNat : Int) + 1) % 256) := by
  refine ⟨b8 ((b.toNat + 1) % 256), ?_⟩
  unfold bv
  rw [b8_of _ (by omega)]
  congr 1

set_option maxRecDepth 100000 in
set_option maxHeartbeats 2000000 in
theorem CodecKeeps_any (A B : Option Addr) (n c m d : Nat) (b : List UInt8) (l : List VV) (w : World) (S : Nat → Prop) (hr : Rd w S 5 A n (vcells l)) (hb : Rd w S 1 B m (b.map bv)) (hok : ∀ v ∈ l, v.ok)
    (hn : n ≤ 9223372036854775807) (hm : m ≤ 9223372036854775807) (hmd : m ≤ d) :
    Calls Try.prog 5 #[.slice A n c, .slice B m d] w (TrueNew w) := by
  obtain ⟨i0, hi, hz0, hz1, hz2⟩ := info_parts info_u8
  have hmin1 : min (m : Int) 200 = ((min m 200 : Nat) : Int) := min_cast m 200
  have HA := Lib.hid (hb.upto 200)
  have h1 : min m 200 ≤ d := by omega
  have h3 : min m 200 ≤ 200 := by omega
  generalize min m 200 = m' at hmin1 HA h1 h3
  have HSM := Lib.hid (shortL_mem l hok)
  have hsl := shortL_len l
  have HC := Lib.hid (fun w' (h : Fr Nothing w w') => short_any A n c l w' S (hr.fr0 h) hok hn)
  clear hr hok hb
  generalize b.take 200 = b' at HA
  have hbl : b'.length = m' := by have := HA.out.1; simpa using this
  have HBL := Lib.hid hbl
  clear hbl
  go_enter Try.func5, Try.ntmps5
  go_upto_region 1 with fail
  go_cut [0, 1] (fun s0 s1 wx => ∃ A1 n1 c1 A2 n2 c2, s0 = .slice A1 n1 c1 ∧ s1 = .slice A2 n2 c2 ∧ Hid (n1 = (shortL l).length) ∧ Hid (n2 = b'.length) ∧ Keeps1 w wx A1 n1 c1 A2 n2 c2 (shortL l) b')
  case first =>
    go_region_law (first
      | (refine step_app _ rfl (.tmp 20) (.tmp 25) 22 rfl 5 i0 _ 1 1 Try.underlying22 hi hz0 hz1 hz2 rfl (by omega) (.slice (some ⟨_, 0, none⟩) 0 0) 0 [] rfl (by first | exact own_new0 _ _ _ | exact own_fr (own_new0 w.drew _ _) HG1.out.fr0 (fun _ _ x => x)) S B m' d (b'.map bv) rfl (by first | exact (HA.out.fr0 ((Fr.refl _ _).drew)).fr0 (HG1.out.fr0.alloc _) | exact (HA.out.fr0 ((Fr.refl _ _).drew.alloc _)).fr0 HG1.out.fr0) (oneCell_bv _) (by omega) (by omega) ?_; intro v2 w2 hg2; have HG2 := Lib.hid hg2; clear hg2)
      | (go_simp; go_at_call 15; refine (HC.out _ (by first | exact (Fr.refl _ _).drew | exact (Fr.refl _ _).drew.alloc _)).mono ?_; rintro e w1 ⟨v1, rfl, hg1⟩; obtain ⟨A1, n1, c1, rfl, H1, _⟩ := own_slice hg1.own; have HG1 := Lib.hid hg1; clear hg1))
    all_goals
      go_wp2_with fail
      go_meet
      have hk1 : ∃ A2 n2 c2, v2 = .slice A2 n2 c2 ∧ Hid (n2 = b'.length) ∧ Keeps1 w w2 A1 n1 c1 A2 n2 c2 (shortL l) b' := by
        first
          | exact keeps1_of (Fr.refl _ _).drew HG1.out ((Fr.refl _ _).alloc _) HG2.out HBL.out HG1.out.fr.size (fun k hk => by have := (HG1.out.own.lt k hk).2; omega)
          | exact keeps1_of ((Fr.refl _ _).alloc _).drew HG1.out (Fr.refl _ _) HG2.out HBL.out (Nat.le_refl _) (fun k hk => by have := HG1.out.new k hk; simp at this; omega)
      obtain ⟨A2, n2, c2, hv2, H2, hk⟩ := hk1
      exact ⟨A1, n1, c1, A2, n2, c2, rfl, hv2, H1, H2, hk⟩
  case rest =>
    obtain ⟨A1, n1, c1, A2, n2, c2, rfl, rfl, H1, H2, hk⟩ := hcut
    have HK := Lib.hid hk
    have hn1 : n1 ≤ 40 := by rw [H1.out]; exact hsl
    have hn2 : n2 ≤ 200 := by have := HBL.out; rw [H2.out]; omega
    have HR1 : Hid (Rd wc (Rows1 (.slice A1 n1 c1)) 5 A1 n1 (vcells (shortL l))) := by
      have := hk.own1
      rw [← H1.out] at this
      exact Rd.of_own this
    have HN1 : Hid (∀ k, Rows1 (.slice A1 n1 c1) k → k < wc.heap.size) := fun k hk' => (hk.own1.lt k hk').2
    have HN2 : Hid (∀ k, Rows1 (.slice A2 n2 c2) k → k < wc.heap.size) := fun k hk' => (hk.own2.lt k hk').2
    clear hk HC HA
    generalize shortL l = L at HSM hsl H1 HR1 HK
    go_wp2_with fail
    refine (NewWriter_any _).mono ?_
    rintro e w2 ⟨rfl, h2, hf2⟩
    have HW2 := Lib.hid h2
    have HF2 := Lib.hid hf2
    clear h2 hf2
    go_wp2_with fail
    refine (write_any wc.heap.size (.slice none 0 0) [] 0 A1 n1 c1 L w2 _ HW2.out (HR1.out.fr0 HF2.out) (fun k hk h => by
      have := HN1.out k hk
      rcases h with h | h
      · omega
      · simp [Value.ownBlock] at h) (fun v hv => (HSM.out v hv).1) (fun v hv => by have := (HSM.out v hv).2; omega) (by omega) (by simp)).mono ?_
    rintro e w3 ⟨rfl, v3, h3⟩
    have HS3 := Lib.hid h3
    have hlb : (writeL ([], 0) L).1.length ≤ 8400 := by
      have := writeK_length ([], 0) L 200 (fun v hv => (HSM.out v hv).2) L.length (Nat.le_refl _)
      simp only [writeK, List.take_length, List.length_nil] at this
      have h6 : L.length * (10 + 200) ≤ 40 * 210 := Nat.mul_le_mul_right _ hsl
      omega
    have HF3 : Hid (Fr Nothing w w3) := (HK.out.fr.trans HF2.out).then_ h3.fr (fun i hi h => by
      have := HK.out.fr.size
      rcases h with h | h
      · omega
      · simp [Value.ownBlock] at h)
    have HO3 : Hid (OwnB w3 (.slice A2 n2 c2) b') := own_fr (own_fr HK.out.own2 HF2.out (fun _ _ x => x)) h3.fr (fun k hk h => by
      have := HN2.out k hk
      rcases h with h | h
      · omega
      · simp [Value.ownBlock] at h)
    have hsz3 : wc.heap.size ≤ w3.heap.size := Nat.le_trans HF2.out.size h3.fr.size
    clear h3
    go_wp2_with fail
    refine (wBytes_any _ _ _ _ _ HS3.out.wr (by omega)).mono ?_
    rintro e w4 h4
    generalize writeL ([], 0) L = st at HS3 hlb h4
    obtain ⟨Bs, f⟩ := st
    simp only at hlb h4
    obtain ⟨A4, n4, c4, rfl, hg4, H4⟩ := h4.one
    have HXl : Hid ((if f = 0 then Bs else []).length ≤ 8400) := by
      simp only [Hid]
      split
      · exact hlb
      · simp
    have HW3 := Lib.hid HS3.out.wr
    have HL3 := Lib.hid HS3.out.lies
    have HB6 := Lib.hid (fun w' (h : Wr w' wc.heap.size v3 Bs f) => wBytes_any wc.heap.size v3 Bs f w' h (by omega))
    simp only at HW3
    clear h4 HS3 hlb
    generalize hXE : (if f = 0 then Bs else []) = X at hg4 H4 HXl
    have HXE := Lib.hid hXE
    clear hXE
    have HG4 := Lib.hid hg4
    have hn4 : n4 ≤ 8400 := by rw [H4.out]; exact HXl.out
    have hcv1 := run_strT w4 _ A4 n4 c4 _ (OwnB.rd hg4.own H4.out)
    clear hg4
    go_wp2
    clear hcv1
    go_loopw [9] (fun i wr => ∃ k : Nat, k ≤ n4 ∧ i = .int .i64 k ∧ Bumped w4 wr (.slice A4 n4 c4) n4) (fun i _ => n4 - (intOf i).toNat)
    case atStart => exact ⟨0, Nat.zero_le _, rfl, Bumped.start HG4.out.own H4.out⟩
    case round =>
      obtain ⟨k, hk, rfl, hbm⟩ := hrel
      have HBM := Lib.hid hbm
      by_cases hlt : k < n4
      · obtain ⟨gx, by_, rfl, hc, hfz, hnext⟩ := hbm.at_ hlt
        obtain ⟨x, hx⟩ := bv_wrap by_
        have HX := Lib.hid hx
        have HNX := Lib.hid (hnext x)
        have hby := by_.toNat_lt
        clear hbm hnext hx
        generalize by_.toNat = bb at hc hby HX
        go_wp2
        go_roundw
        case rel => exact ⟨k + 1, by omega, by go_num, by rw [← HX.out]; exact HNX.out⟩
        case measure => simp [intOf]; omega
      · clear hbm
        obtain ⟨wo, rfl⟩ : ∃ wo : World, wo = wr := ⟨_, rfl⟩
        have hs34 := HG4.out.fr0.size
        have hwlt := HW3.out.blk.lt
        -- the writer and the bytes are as they were
        have HW5 : Hid (Wr wo wc.heap.size v3 Bs f) := (HW3.out.far HG4.out.fr0 (fun _ _ x => x)).far HBM.out.fr (fun k hk h => by
          have h5 := HG4.out.new k h
          rcases hk with hk | hk
          · omega
          · have := (HW3.out.own.lt k hk).2; omega)
        have HO5 : Hid (OwnB wo (.slice A2 n2 c2) b') := own_fr (own_fr HO3.out HG4.out.fr0 (fun _ _ x => x)) HBM.out.fr (fun k hk h => by
          have h5 := HG4.out.new k h
          have := HN2.out k hk
          omega)
        have HF5 : Hid (Fr Nothing w wo) := (HF3.out.trans HG4.out.fr0).then_ HBM.out.fr (fun i hi h => by
          have h5 := HG4.out.new i h
          have := HF3.out.size
          omega)
        have hs5 : wc.heap.size ≤ wo.heap.size := Nat.le_trans (Nat.le_trans hsz3 hs34) HBM.out.fr.size
        clear HBM HO3 HW3
        go_wp2_with fail
        refine (HB6.out _ HW5.out).mono ?_
        clear HB6
        rintro e w6 h6
        obtain ⟨A6, n6, c6, rfl, hg6, H6⟩ := h6.one
        rw [HXE.out] at hg6 H6
        have HG6 := Lib.hid hg6
        have H6' := H6
        clear h6 hg6 H6
        go_wp2_with fail
        refine (NewReader_any A2 n2 c2 b' _ _ ((OwnB.rd HO5.out H2.out).fr0 HG6.out.fr0) (by omega)).mono ?_
        rintro e w7 ⟨g, SR, rfl, hrr, hf7, hg, hSR⟩
        have HRR := Lib.hid hrr
        have HF7 := Lib.hid hf7
        have HSR := Lib.hid hSR
        clear hrr hf7 hSR
        have hs6 := HG6.out.fr0.size
        go_wp2_with fail
        refine (One_signed A2 n2 c2 b' _ _ (((OwnB.rd HO5.out H2.out).fr0 HG6.out.fr0).fr0 HF7.out) (by omega)).mono ?_
        rintro e w8 ⟨rfl, hf8⟩
        have HF8 := Lib.hid hf8
        clear hf8
        have HRS : Hid ((rStep 0 pSigned (b', 0, 0)).1 = if (pSigned b').2.2 = 0 then (pSigned b').1 else 0) := by
          simp only [Hid, rStep, ne_eq, not_true_eq_false, if_false]
          by_cases h5 : (pSigned b').2.2 = 0
          · simp [h5]
          · simp [h5]
        generalize (pSigned b').1 = q1 at HRS ⊢
        generalize (pSigned b').2.1 = q2 at ⊢
        generalize (pSigned b').2.2 = q3 at HRS ⊢
        go_wp2_with fail
        have HO9 : Hid (OwnB (w8.alloc (.cells #[.int .u8 1, .int .i64 q1, .bool false, .string ⟨#[]⟩, .int .i64 0] 47)) (.slice A2 n2 c2) b') := own_fr HO5.out (((HG6.out.fr0.trans HF7.out).trans HF8.out).alloc _) (fun _ _ x => x)
        have HBk : Hid (Blk (w8.alloc (.cells #[.int .u8 1, .int .i64 q1, .bool false, .string ⟨#[]⟩, .int .i64 0] 47)) w8.heap.size 47 #[.int .u8 1, .int .i64 q1, .bool false, .string ⟨#[]⟩, .int .i64 0]) := Blk.new _ _ _
        have HRR9 : Hid (Rr (w8.alloc (.cells #[.int .u8 1, .int .i64 q1, .bool false, .string ⟨#[]⟩, .int .i64 0] 47)) g SR b' 0 0) := HRR.out.keep0 (HF8.out.alloc _)
        have HR9 : Hid (Rd (w8.alloc (.cells #[.int .u8 1, .int .i64 q1, .bool false, .string ⟨#[]⟩, .int .i64 0] 47)) (Rows1 (.slice A6 n6 c6)) 1 A6 n6 (X.map bv)) := (OwnB.rd HG6.out.own H6'.out).fr0 ((HF7.out.trans HF8.out).alloc _)
        have HF9 : Hid (Fr Nothing w (w8.alloc (.cells #[.int .u8 1, .int .i64 q1, .bool false, .string ⟨#[]⟩, .int .i64 0] 47))) := (((HF5.out.trans HG6.out.fr0).trans HF7.out).trans HF8.out).alloc _
        have hs8 : w6.heap.size ≤ w8.heap.size := Nat.le_trans HF7.out.size HF8.out.size
        go_wp2
        generalize w8.alloc (.cells #[.int .u8 1, .int .i64 q1, .bool false, .string ⟨#[]⟩, .int .i64 0] 47) = w9 at HO9 HBk HRR9 HR9 HF9 ⊢
        go_loopw [16] (fun i wq => ∃ k : Nat, k ≤ n2 ∧ i = .int .i64 k ∧ Bumped w9 wq (.slice A2 n2 c2) n2) (fun i _ => n2 - (intOf i).toNat)
        case atStart => exact ⟨0, Nat.zero_le _, rfl, Bumped.start HO9.out H2.out⟩
        case round =>
          obtain ⟨j, hj, rfl, hbm⟩ := hrel
          have HBM := Lib.hid hbm
          by_cases hlt2 : j < n2
          · obtain ⟨gx, by_, rfl, hc, hfz, hnext⟩ := hbm.at_ hlt2
            obtain ⟨x, hx⟩ := bv_wrap by_
            have HX := Lib.hid hx
            have HNX := Lib.hid (hnext x)
            have hby := by_.toNat_lt
            clear hbm hnext hx
            generalize by_.toNat = bb at hc hby HX
            go_wp2
            go_roundw
            case rel => exact ⟨j + 1, by omega, by go_num, by rw [← HX.out]; exact HNX.out⟩
            case measure => simp [intOf]; omega
          · clear hbm
            have HFq : Hid (Fr Nothing w wr) := HF9.out.then_ HBM.out.fr (fun i hi h => by have := HK.out.new2 i h; omega)
            have HRRq : Hid (Rr wr g SR b' 0 0) := HRR9.out.keep HBM.out.fr (fun h => by have := HN2.out _ h; omega) (fun k hk h => by have := HN2.out _ h; have := (HSR.out k hk).1; omega)
            have HBq : Hid (Blk wr w8.heap.size 47 #[.int .u8 1, .int .i64 q1, .bool false, .string ⟨#[]⟩, .int .i64 0]) := HBk.out.fr HBM.out.fr (fun h => by have := HN2.out _ h; omega)
            have HRq : Hid (Rd wr (Rows1 (.slice A6 n6 c6)) 1 A6 n6 (X.map bv)) := HR9.out.fr HBM.out.fr (fun k hk h => by have := HN2.out _ h; have := HG6.out.new k hk; omega)
            clear HBM HR9 HBk HRR9 HO9 HF9
            go_wp2_with fail
            refine (rSigned_any g SR b' 0 0 _ HRRq.out).mono ?_
            rintro e w11 ⟨rfl, h11⟩
            rw [HRS.out]
            have HF11 : Hid (Fr Nothing w w11) := HFq.out.then_ h11.fr (fun i hi h => by have := HF5.out.size; unfold Only at h; omega)
            have HB11 : Hid (Blk w11 w8.heap.size 47 #[.int .u8 1, .int .i64 q1, .bool false, .string ⟨#[]⟩, .int .i64 0]) := HBq.out.fr h11.fr (fun h => by unfold Only at h; have := HRR.out.lt; have := HF8.out.size; omega)
            have HR11 : Hid (Rd w11 (Rows1 (.slice A6 n6 c6)) 1 A6 n6 (X.map bv)) := HRq.out.fr h11.fr (fun k hk h => by unfold Only at h; have := (HG6.out.own.lt k hk).2; omega)
            clear h11 HRq HBq
            by_cases hq3 : q3 = 0
            · subst hq3
              rw [if_pos rfl]
              go_wp2_with fail
              refine (known_any _).mono ?_
              rintro e w12 ⟨rfl, hf12⟩
              have HF12 := Lib.hid hf12
              have hcv := run_strT w12 _ A6 n6 c6 _ (HR11.out.fr0 hf12)
              have hcN : w12.cell? ⟨w8.heap.size, 1, none⟩ = some (.int .i64 q1) := (HB11.out.fr hf12 (fun x => x)).cell 1
              clear hf12
              go_wp2
              go_ret
              exact ⟨rfl, HF11.out.trans HF12.out⟩
            · rw [if_neg hq3]
              have hq3b : (q3 != 0) = true := by rw [bne_iff_ne]; exact hq3
              go_wp2_with fail
              refine (known_any _).mono ?_
              rintro e w12 ⟨rfl, hf12⟩
              have HF12 := Lib.hid hf12
              have hcv := run_strT w12 _ A6 n6 c6 _ (HR11.out.fr0 hf12)
              clear hf12
              go_wp2
              go_ret
              exact ⟨rfl, HF11.out.trans HF12.out⟩
end Go.Proofs.Ytfopfhdijdefiaa
