/- The reference's Encode. -/
import Derived.Test.YtejajafbopabmaaDoorBlkV
import Derived.Test.YtejajafbopabmaaDoorText
import Derived.Test.YtejajafbopabmaaDoorBlkT
import Derived.Deep.RegionLaw
import Derived.Deep.DeepCutAuto
import Derived.StillTailTactics
namespace Go.Proofs.YtejajafbopabmaaDoor
open Go.RowKit

theorem byteAt_orB (L : List UInt8) (i j : Nat) : byteAt (orB L i) j = if i / 8 = j ∧ j < L.length then byteAt L j ||| 2 ^ (i % 8) else byteAt L j := by
  have h := or_256 L i
  unfold orB
  show ((L.set (i / 8) _)[j]?.getD 0).toNat = _
  rw [List.getElem?_set]
  by_cases e : i / 8 = j
  · subst e
    by_cases h2 : i / 8 < L.length
    · simp only [if_true, if_pos h2, Option.getD_some, true_and]
      unfold b8
      rw [UInt8.toNat_ofNat_of_lt' (by simpa using h)]
    · simp only [if_true, if_neg h2, true_and]
      unfold byteAt
      rw [List.getElem?_eq_none (by omega)]
  · rw [if_neg e, if_neg (fun x => e x.1)]
    rfl

theorem bits_low (q n : Nat) (l : List UInt8) : ∀ (k j : Nat), byteAt (bitsOf q (pickF l 1 2 n k)) j < 2 ^ (k - 8 * j)
  | 0, j => by
    have : byteAt (bitsOf q (pickF l 1 2 n 0)) j = 0 := by
      unfold byteAt
      simp only [bitsOf, pickF, List.foldl_nil, List.getElem?_replicate]
      split <;> rfl
    rw [this]
    exact Nat.two_pow_pos _
  | k + 1, j => by
    have ih := bits_low q n l k j
    have hm : 2 ^ (k - 8 * j) ≤ 2 ^ (k + 1 - 8 * j) := Nat.pow_le_pow_right (by omega) (by omega)
    by_cases hk : k < n
    · by_cases hh : hit l 1 2 k = true
      · rw [pickF_hit hk hh, bitsOf_snoc, byteAt_orB]
        split
        · rename_i e
          refine Nat.or_lt_two_pow (by omega) ?_
          exact Nat.pow_lt_pow_right (by omega) (by have e1 : k / 8 = j := e.1; show k % 8 < _; omega)
        · omega
      · rw [pickF_miss (by simpa using hh)]
        omega
    · rw [show pickF l 1 2 n (k + 1) = pickF l 1 2 n k by simp [pickF, hk]]
      omega

theorem low_add (q n : Nat) (l : List UInt8) (k : Nat) : byteAt (bitsOf q (pickF l 1 2 n k)) (k / 8) + 2 ^ (k % 8) = byteAt (bitsOf q (pickF l 1 2 n k)) (k / 8) ||| 2 ^ (k % 8) := by
  have h := bits_low q n l k (k / 8)
  rw [show k - 8 * (k / 8) = k % 8 by omega] at h
  have := Nat.two_pow_add_eq_or_of_lt h 1
  rw [Nat.mul_one] at this
  rw [Nat.add_comm, this, Nat.or_comm]

/-- Two numbers' encodings, one behind the other. -/
structure OutB (w wx : World) (A : Option Addr) (m c : Nat) (l : List UInt8) : Prop where
  grew : GrewB w (.slice none 0 0) wx (.slice A m c) l
  len : m = l.length

set_option maxRecDepth 100000 in
set_option maxHeartbeats 4000000 in
theorem rEncode_any (f b c n : Nat) (l : List UInt8) (w : World) (h : RM w b c n l) (hf : f ≤ 1073741824) :
    Calls Tryd.prog 37 #[mv f b c n] w (Gives w (.string ⟨(encB f n (bitsOf ((n + 7) / 8) (pickF l 1 2 n n))).toArray⟩)) := by
  obtain ⟨i0, hi, hz0, hz1, hz2⟩ := info_parts info_u8
  have hn := h.hn
  have h1 := h.h1
  have hB := Blk.new w 28 #[.int .i64 f, .slice (some ⟨b, 0, none⟩) n c]
  have HR := Lib.hid (h.fr0 ((Fr.refl _ w).alloc (.cells #[.int .i64 f, .slice (some ⟨b, 0, none⟩) n c] 28)))
  have HB := Lib.hid hB
  have HBB := Lib.hid h.lt
  clear h hB
  unfold mv
  go_enter Tryd.func37, Tryd.ntmps37
  go_upto_region 1 with fail
  have HF : Hid (Fr Nothing w (w.alloc (.cells #[.int .i64 f, .slice (some ⟨b, 0, none⟩) n c] 28))) := (Fr.refl _ _).alloc _
  generalize (w.alloc (.cells #[.int .i64 f, .slice (some ⟨b, 0, none⟩) n c] 28)) = W at *
  generalize hsz : w.heap.size = B at *
  have HSZ := Lib.hid hsz
  clear hsz
  obtain ⟨x0, x1, _, _⟩ := HB.out.drew.two
  have el := enc_length f
  have el2 := enc_length n
  have wf : IntKind.u64.wrap (f : Int) = (f : Int) := IntWalk.u64_in _ (by omega)
  have wn : IntKind.u64.wrap (n : Int) = (n : Int) := IntWalk.u64_in _ (by omega)
  go_cut [1, 3] (fun p v wx => ∃ A1 n1 c1, p = .pointer (some ⟨B, 0, none⟩) ∧ v = .slice A1 n1 c1 ∧ OutB W wx A1 n1 c1 (enc f ++ enc n))
  case first =>
    go_region_law (first
      | (refine step_app _ rfl (.tmp 9) (.tmp 14) 72 rfl 5 i0 _ 1 1 Tryd.underlying72 hi hz0 hz1 hz2 rfl (by omega) _ _ _ rfl (own_fr HG1.out.own HG2.out.fr0 (fun _ _ x => x)) _ A2 n2 c2 _ rfl (OwnB.rd HG2.out.own H2.out) (oneCell_bv _) (by omega) (by omega) ?_; intro v3 w3 hg3; have HG3 := Lib.hid hg3; clear hg3)
      | (go_simp; go_at_call_of 63 (Value.int IntKind.u64 (f : Int)); refine (Natural_any f _ (by omega)).mono ?_; rintro e w1 ⟨v1, rfl, hg1⟩; obtain ⟨A1, n1, c1, rfl, H1, _⟩ := own_slice hg1.own; have HG1 := Lib.hid hg1; obtain ⟨y0, y1, _, _⟩ := (HB.out.drew.fr hg1.fr0 (fun x => x)).two; clear hg1)
      | (go_simp; go_at_call_of 63 (Value.int IntKind.u64 (n : Int)); refine (Natural_any n _ (by omega)).mono ?_; rintro e w2 ⟨v2, rfl, hg2⟩; obtain ⟨A2, n2, c2, rfl, H2, _⟩ := own_slice hg2.own; have HG2 := Lib.hid hg2; have hn2 : n2 ≤ 10 := (by have := H2.out; omega); clear hg2))
    all_goals
      go_wp2_with fail
      go_meet
      have hg := GrewB.app ((Grew.ahead ((Fr.refl _ W).drew) HG1.out).behind HG2.out.fr0) HG3.out H2.out
      obtain ⟨A3, n3, c3, rfl, H3, _⟩ := own_slice hg.own
      exact ⟨A3, n3, c3, rfl, rfl, hg, H3.out⟩
  case rest =>
    obtain ⟨A1, n1, c1, rfl, rfl, hO⟩ := hcut
    have HO := Lib.hid hO
    have HBc := Lib.hid (HB.out.fr hO.grew.fr0 (fun x => x))
    have HRc := Lib.hid (HR.out.fr0 hO.grew.fr0)
    have hn1 : n1 ≤ 20 := by have := hO.len; simp only [List.length_append] at this; omega
    obtain ⟨y0, y1, _, _⟩ := HBc.out.two
    clear hO x0 x1 wf wn HB HR
    go_wp2_with (at_make; refine wpList_make_full _ rfl _ _ 72 rfl 0 5 i0 (.int .u8 0) 1 Tryd.underlying72 hi hz0 hz1 _ _ _ _ ((n + 7) / 8) rfl rfl ?c0 ?c0' ?c1 ?c2 (Nat.zero_le _) ?_)
    case c0 => omega
    case c0' => omega
    case c1 => rw [hz2]; omega
    case c2 => unfold maxLen; omega
    intro w1 hown hgr
    have hFr1 : Fr Nothing wc w1 := (Fr.grown hgr).mono (fun k _ hk => by cases hk)
    have hO1 : w1.ownsRow 0 5 1 (.slice (some ⟨wc.heap.size, 0, none⟩) ((n + 7) / 8) ((n + 7) / 8)) ((n + 7) / 8) ((List.replicate ((n + 7) / 8) (0 : UInt8)).map bv) := by
      rw [toList_madeCells_one] at hown
      simpa [bv] using hown
    have HB1 := Lib.hid (HBc.out.fr hFr1 (fun x => x))
    have HR1 := Lib.hid (HRc.out.fr0 hFr1)
    have HG1 := Lib.hid (HO.out.grew.behind hFr1)
    have HE1 : Hid (EncI w1 wc.heap.size ((n + 7) / 8) (bitsOf ((n + 7) / 8) (pickF l 1 2 n 0)) w1) := ⟨Fr.refl _ _, hO1⟩
    have HNE : Hid (B ≠ wc.heap.size ∧ b ≠ wc.heap.size ∧ W.heap.size ≤ wc.heap.size ∧ ∀ k, Rows1 (.slice A1 n1 c1) k → k ≠ wc.heap.size) := by
      have a1 := HBc.out.lt
      have a2 := HRc.out.lt
      have a3 := HO.out.grew.fr.size
      refine ⟨by omega, by omega, a3, fun k hk => ?_⟩
      have := (HO.out.grew.own.lt k hk).2
      omega
    generalize wc.heap.size = X at *
    clear hown hgr hFr1 hO1 HBc HRc y0 y1
    obtain ⟨y0, y1, _, _⟩ := HB1.out.two
    go_wp2
    go_loopw [5] (fun i wr => ∃ k : Nat, k ≤ n ∧ i = .int .i64 k ∧ EncI w1 X ((n + 7) / 8) (bitsOf ((n + 7) / 8) (pickF l 1 2 n k)) wr) (fun i _ => n - (intOf i).toNat)
    case atStart => exact ⟨0, Nat.zero_le _, rfl, HE1.out⟩
    case round =>
      obtain ⟨k, hk, rfl, hE⟩ := hrel
      have KE := Lib.hid hE
      have KB := Lib.hid (HB1.out.fr hE.fr (fun e => HNE.out.1 e))
      have KR := Lib.hid (HR1.out.fr hE.fr (fun e => HNE.out.2.1 e))
      clear hE y0 y1 HE1
      obtain ⟨c0, c1', _, _⟩ := KB.out.two
      by_cases hlt : k < n
      · have c2 := KR.out.at_ hlt
        by_cases hh : hit l 1 2 k = true
        · have hcase : (((byteAt l k : Nat) : Int) == 1) = true ∨ ((((byteAt l k : Nat) : Int) == 1) = false ∧ (((byteAt l k : Nat) : Int) == 2) = true) := by
            unfold hit at hh
            simp only [Bool.or_eq_true, beq_iff_eq] at hh
            by_cases e : byteAt l k = 1
            · exact .inl (beq_iff_eq.2 (by omega))
            · exact .inr ⟨beq_eq_false_iff_ne.2 (by omega), beq_iff_eq.2 (by have h2 : byteAt l k = 2 := hh.resolve_left e; omega)⟩
          have HH := Lib.hid (pickF_hit hlt hh)
          have HA := Lib.hid (low_add ((n + 7) / 8) n l k)
          have HS := Lib.hid (KE.out.set k)
          have H8 := Lib.hid (or_256 (bitsOf ((n + 7) / 8) (pickF l 1 2 n k)) k)
          have hi8 : k / 8 < (n + 7) / 8 := by omega
          have k4 : wr.drew.cell? ⟨X, k / 8, none⟩ = _ := KE.out.at_ hi8
          have k5 : wr.drew.frozen? ⟨X, k / 8, none⟩ = _ := KE.out.own.frozenAt (k / 8)
          have v1 : (k : Int).tdiv 8 = ((k / 8 : Nat) : Int) := by rw [Int.tdiv_eq_ediv_of_nonneg (by omega)]; omega
          have v2 : (k : Int).tmod 8 = ((k % 8 : Nat) : Int) := by rw [Int.tmod_eq_emod_of_nonneg (by omega)]; omega
          have u1 : (k : Int) / 8 = ((k / 8 : Nat) : Int) := by omega
          have u2 : (k : Int) % 8 = ((k % 8 : Nat) : Int) := by omega
          have v3 : IntKind.i64.wrap ((k / 8 : Nat) : Int) = ((k / 8 : Nat) : Int) := IntWalk.i64_in _ (by omega)
          have v4 : IntKind.i64.wrap ((k % 8 : Nat) : Int) = ((k % 8 : Nat) : Int) := IntWalk.i64_in _ (by omega)
          have v5 : ((k / 8 : Nat) : Int) < (((n + 7) / 8 : Nat) : Int) := by omega
          have v6 : (0 : Int) ≤ ((k % 8 : Nat) : Int) := by omega
          have v7 : ((k % 8 : Nat) : Int) < 8 := by omega
          have hp := pow8 k
          have hkn : (k : Int) < (n : Int) := by omega
          have hqq : 1 ≤ (n + 7) / 8 := by omega
          generalize hqd : (n + 7) / 8 = q at *
          generalize hBs : bitsOf q (pickF l 1 2 n k) = Bs at *
          have HBs := Lib.hid hBs
          clear hBs
          generalize hj : k / 8 = j at *
          generalize hr : k % 8 = r at *
          clear hj hr
          obtain ⟨p, hpe⟩ : ∃ p : Nat, p = 2 ^ r := ⟨_, rfl⟩
          have hA2 := HA.out
          have h82 := H8.out
          rw [← hpe] at hp hA2 h82
          have hSw := HS.out
          rw [← hpe] at hSw
          have v8 : IntKind.u8.wrap ((2 : Int) ^ r) = (p : Int) := by
            have e : (2 : Int) ^ r = (p : Int) := by rw [hpe]; simp
            rw [e]
            exact IntWalk.u8_in _ (by omega)
          generalize hz : byteAt Bs j = z at *
          obtain ⟨t, ht⟩ : ∃ t : Nat, t = z ||| p := ⟨_, rfl⟩
          rw [← ht] at hA2 h82 hSw
          have v9 : IntKind.u8.wrap ((z : Int) + (p : Int)) = (t : Int) := by
            rw [show (z : Int) + (p : Int) = (t : Int) by omega]
            exact IntWalk.u8_in _ (by omega)
          have KEY : Hid (EncI w1 X q (bitsOf q (pickF l 1 2 n (k + 1))) (wr.drew.setCell ⟨X, j, none⟩ (.int .u8 (t : Int)))) := by
            simp only [Hid]
            rw [HH.out, bitsOf_snoc, HBs.out]
            exact ⟨hSw.fr.drew, hSw.own⟩
          clear hh HH HA HS H8 hSw hA2 h82 ht hz hpe KE HBs hp hi8
          generalize byteAt l k = zz at *
          rcases hcase with t1 | ⟨t1, t2⟩
          all_goals
            go_wp2
            go_still_tail 13, (by kernel_rfl)
            change wpList _ _ _ _ _ wr.drew
            go_wp2
            go_roundw
            case rel => exact ⟨k + 1, by omega, by go_num, KEY.out⟩
            case measure => simp [intOf]; omega
        · have HH := Lib.hid (pickF_miss (n := n) (show hit l 1 2 k = false by simpa using hh))
          have t1 : (((byteAt l k : Nat) : Int) == 1) = false := by
            refine beq_eq_false_iff_ne.2 fun e => hh ?_
            unfold hit
            simp only [Bool.or_eq_true, beq_iff_eq]
            exact .inl (show byteAt l k = 1 by omega)
          have t2 : (((byteAt l k : Nat) : Int) == 2) = false := by
            refine beq_eq_false_iff_ne.2 fun e => hh ?_
            unfold hit
            simp only [Bool.or_eq_true, beq_iff_eq]
            exact .inr (show byteAt l k = 2 by omega)
          have hkn : (k : Int) < (n : Int) := by omega
          clear hh
          generalize byteAt l k = zz at *
          go_wp2
          go_roundw
          case rel => exact ⟨k + 1, by omega, by go_num, by rw [HH.out]; exact KE.out⟩
          case measure => simp [intOf]; omega
      · have hkn : decide (k < n) = false := by simpa using hlt
        have HG2 : Hid (GrewB W (.slice none 0 0) wr (.slice A1 n1 c1) (enc f ++ enc n)) :=
          ⟨own_fr HG1.out.own KE.out.fr (fun k hk e => HNE.out.2.2.2 k hk e), (HG1.out.fr0.then_ KE.out.fr (fun i hi e => by have e' : i = X := e; have := HNE.out.2.2.1; omega)).weak, HG1.out.lies⟩
        rw [show k = n by omega] at KE
        have HLB := Lib.hid (bitsOf_length ((n + 7) / 8) (pickF l 1 2 n n))
        have HRD := Lib.hid (Rd.of_own KE.out.own)
        generalize bitsOf ((n + 7) / 8) (pickF l 1 2 n n) = Bs at *
        have hbl := HLB.out
        have hcv := run_strT wr _ _ _ ((n + 7) / 8) Bs HRD.out
        have HEB : Hid ((enc f ++ enc n) ++ textL ⟨Bs.toArray⟩ = encB f n Bs) := by
          simp [Hid, textL, encB, strL, ByteArray.size]
        have el3 := enc_length Bs.length
        have elE : (enc f ++ enc n).length ≤ 20 := by rw [List.length_append]; omega
        clear HO HG1
        generalize enc f ++ enc n = E2 at *
        go_wp2_with fail
        refine (refText_any ⟨Bs.toArray⟩ _ (by simp [ByteArray.size]; omega)).mono ?_
        rintro e w2 ⟨v2, rfl, hg2⟩
        obtain ⟨A2, n2, c2, rfl, H2, _⟩ := own_slice hg2.own
        have HT := Lib.hid hg2
        have HO2 := Lib.hid (HG2.out.behind hg2.fr0)
        have hn2 : n2 ≤ 20000 := by have := H2.out; simp [textL, strL, ByteArray.size] at this; omega
        clear hg2 hcv
        go_wp2_with (at_builtin; refine wpList_app _ rfl _ _ 72 rfl 5 i0 _ 1 1 Tryd.underlying72 hi hz0 hz1 hz2 rfl (by omega) _ _ _ rfl HO2.out.own _ _ n2 c2 _ rfl (OwnB.rd HT.out.own H2.out) (oneCell_bv _) ?a1 (by omega) ?_)
        case a1 => omega
        intro v3 w3 hg3
        have hg := GrewB.app HO2.out hg3 H2.out
        rw [HEB.out] at hg
        obtain ⟨A3, n3, c3, rfl, H3, _⟩ := own_slice hg.own
        have hcv := run_strT w3 _ _ _ c3 _ (OwnB.rd hg.own H3.out)
        have HFF := Lib.hid (HF.out.trans hg.fr0)
        clear hg hg3
        go_wp2
        go_ret
        exact ⟨rfl, HFF.out⟩
end Go.Proofs.YtejajafbopabmaaDoor
