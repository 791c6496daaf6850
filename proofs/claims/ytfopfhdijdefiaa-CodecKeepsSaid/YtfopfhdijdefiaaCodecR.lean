/- The reference's Signed, Text, Write. -/
import Derived.Test.YtfopfhdijdefiaaCodecW
namespace Go.Proofs.Ytfopfhdijdefiaa
open Go.RowKit

set_option maxHeartbeats 400000 in
theorem refSigned_any (n : Int) (w : World) (h1 : -9223372036854775808 ≤ n) (h2 : n ≤ 9223372036854775807) :
    Calls Try.prog 42 #[.int .i64 n] w fun e w' => e = .returned (.int .u64 (zig n : Nat)) ∧ w = w' := by
  by_cases hn : 0 ≤ n
  · go_enter Try.func42, Try.ntmps42
    go_wp2
    go_ret
    exact ⟨ret_int (by unfold zig; rw [if_neg (by omega)]; omega), rfl⟩
  · go_enter Try.func42, Try.ntmps42
    go_wp2
    go_ret
    exact ⟨ret_int (by unfold zig; rw [if_pos (by omega)]; omega), rfl⟩

theorem strL_snoc (s : ByteArray) (k : Nat) (h : k < s.size) : (strL s).take (k + 1) = (strL s).take k ++ [s[k]] := by
  unfold strL
  rw [List.take_succ_eq_append_getElem (by simpa using h)]; rfl

def textK (s : ByteArray) (k : Nat) : List UInt8 := enc s.size ++ (strL s).take k
def textL (s : ByteArray) : List UInt8 := enc s.size ++ strL s

set_option maxRecDepth 100000 in
set_option maxHeartbeats 1000000 in
theorem refText_any (s : ByteArray) (w : World) (hs : s.size ≤ 1099511627776) :
    Calls Try.prog 43 #[.string s] w (SomeGrewB w (.slice none 0 0) (textL s)) := by
  obtain ⟨i0, hi, hz0, hz1, hz2⟩ := info_parts info_u8
  go_enter Try.func43, Try.ntmps43
  go_wp2_with fail
  refine (Natural_any s.size _ (by omega)).mono ?_
  rintro e w1 ⟨v1, rfl, hg1⟩
  have HG := Lib.hid hg1
  clear hg1
  go_wp2
  go_loopw [3, 4] (fun v' i wr => ∃ k : Nat, k ≤ s.size ∧ i = .int .i64 k ∧ GrewB w (.slice none 0 0) wr v' (textK s k)) (fun _ i _ => s.size - (intOf i).toNat)
  case atStart => exact ⟨0, Nat.zero_le _, rfl, by simpa [textK] using HG.out⟩
  case round =>
    obtain ⟨k, hk, rfl, hf⟩ := hrel
    have HF := Lib.hid hf
    clear hf HG
    by_cases hlt : k < s.size
    · have HT := Lib.hid (strL_snoc s k hlt)
      have hkl : (textK s k).length ≤ 10 + k := by have := enc_length s.size; simp [textK]; omega
      go_wp2_with (at_builtin; refine wpList_app1 _ rfl _ _ 22 rfl 5 i0 _ 1 1 Try.underlying22 hi hz0 hz1 hz2 rfl (by omega) _ _ _ rfl HF.out.own 1 _ _ rfl rfl rfl ?c1 ?c2 (by omega) ?_)
      case c1 => simp [Value.oneCell']
      case c2 => omega
      intro v2 w2 hg2
      have HG : Hid (GrewB w (.slice none 0 0) w2 v2 (textK s (k + 1))) := by
        have := HF.out.trans hg2
        simp only [Hid, textK]
        rw [HT.out, ← List.append_assoc]
        simp only [GrewB, List.length_append, List.map_append, List.length_singleton] at this ⊢
        simpa [textK, bv] using this
      clear hg2 HF
      go_wp2
      go_roundw
      case rel => exact ⟨k + 1, by omega, by go_num, HG.out⟩
      case measure => simp [intOf]; omega
    · have HE : Hid (textK s k = textL s) := by
        simp only [Hid, textK, textL]
        rw [List.take_of_length_le (by rw [strL_length]; omega)]
      go_wp2
      go_ret
      exact ⟨_, rfl, by rw [← HE.out]; exact HF.out⟩

theorem GrewB.app {w w3 w4 : World} {v v3 v4 : Value} {L R : List UInt8} {m : Nat} (h : GrewB w v w3 v3 L) (k : Grew 5 1 w3 v3 w4 v4 (L.length + m) (L.map bv ++ R.map bv)) (hm : m = R.length) : GrewB w v w4 v4 (L ++ R) := by
  subst hm
  have := h.trans k
  simpa [GrewB] using this

theorem wV_num (L : List UInt8) (v : VV) (x : Nat) (h : v.kind % 4 = 0) (hx : v.n = (x : Int)) : wV (L, 0) v = (L ++ enc x, 0) := by
  unfold wV
  rw [if_pos h, hx, wNumber_pos]
theorem wV_sig (L : List UInt8) (v : VV) (h : v.kind % 4 = 1) : wV (L, 0) v = (L ++ enc (zig v.n), 0) := by
  unfold wV
  rw [if_neg (by omega), if_pos h]
  rfl
theorem wV_flag (L : List UInt8) (v : VV) (h : v.kind % 4 = 2) : wV (L, 0) v = (L ++ [if v.is then 1 else 0], 0) := by
  unfold wV
  rw [if_neg (by omega), if_neg (by omega), if_pos h]
  rfl
theorem wV_text (L : List UInt8) (v : VV) (h : v.kind % 4 = 3) (hs : ¬ 16777216 < v.s.size) : wV (L, 0) v = (L ++ textL v.s, 0) := by
  unfold wV
  rw [if_neg (by omega), if_neg (by omega), if_neg (by omega), wText_small _ _ hs]
  rfl

theorem wV_keeps (st : List UInt8 × Int) (v : VV) (h : st.2 ≠ 0) : wV st v = st := by
  unfold wV wNumber wSigned wFlag wText
  simp [h]
theorem writeL_keeps (st : List UInt8 × Int) (l : List VV) (h : st.2 ≠ 0) : writeL st l = st := by
  induction l with
  | nil => rfl
  | cons v l ih => simp only [writeL, List.foldl_cons] at ih ⊢; rw [wV_keeps st v h]; exact ih
theorem writeL_take (st : List UInt8 × Int) (l : List VV) (k : Nat) (h : (writeK st l k).2 ≠ 0) : writeL st l = writeK st l k := by
  conv => lhs; rw [← List.take_append_drop k l]
  unfold writeL
  rw [List.foldl_append]
  exact writeL_keeps _ _ h

set_option maxRecDepth 100000 in
set_option maxHeartbeats 2000000 in
theorem refWrite_any (A : Option Addr) (n c : Nat) (l : List VV) (w : World) (S : Nat → Prop) (hr : Rd w S 5 A n (vcells l)) (hok : ∀ v ∈ l, v.ok) (hB : ∀ v ∈ l, v.s.size ≤ 16777226) (hn : n ≤ 1000) :
    Calls Try.prog 19 #[.slice A n c] w (BytesPost w (writeL ([], 0) l).1 (writeL ([], 0) l).2) := by
  obtain ⟨i0, hi, hz0, hz1, hz2⟩ := info_parts info_u8
  have hlen : l.length = n := by have := hr.1; rw [vcells_length] at this; omega
  have HL := Lib.hid hlen
  clear hlen
  have HR := Lib.hid hr
  have HK := Lib.hid hok
  have HB := Lib.hid (writeK_length ([], 0) l 16777226 hB)
  have HBB := Lib.hid hB
  clear hr hok hB
  go_enter Try.func19, Try.ntmps19
  go_wp2
  go_loopw [4, 5] (fun v' i wr => ∃ k : Nat, k ≤ n ∧ i = .int .i64 k ∧ Hid ((writeK ([], 0) l k).2 = 0) ∧ GrewB w (.slice none 0 0) wr v' (writeK ([], 0) l k).1) (fun _ i _ => n - (intOf i).toNat)
  case atStart => exact ⟨0, Nat.zero_le _, rfl, rfl, Grew.start (World.ownsRow_nil _ _ _ _)⟩
  case round =>
    obtain ⟨k, hk, rfl, H0, hs⟩ := hrel
    have HS := Lib.hid hs
    clear hs
    by_cases hlt : k < n
    · obtain ⟨v, hv⟩ : ∃ v, l[k]? = some v := ⟨_, List.getElem?_eq_getElem (by rw [HL.out]; exact hlt)⟩
      obtain ⟨ad, rfl, hsb, hc⟩ := HR.out.vat hv
      have HV := Lib.hid (writeK_snoc ([], 0) l k v hv)
      have HT := Lib.hid (writeL_take ([], 0) l (k + 1))
      have hvo := HK.out v (List.mem_of_getElem? hv)
      have hvb := HBB.out v (List.mem_of_getElem? hv)
      have hbl := HB.out k (by rw [HL.out]; omega)
      have hkb : (writeK ([], 0) l k).1.length ≤ 109951162777 := by
        have : k * (10 + 16777226) ≤ 1000 * (10 + 16777226) := Nat.mul_le_mul_right _ (by omega)
        simp at hbl
        omega
      have hw : ∀ j u, v.cells[j]? = some u → wr.cell? ((ad.add (k * 5)).add j) = some u := fun j u hu => HS.out.fr0.cellSome (hc j u hu) (fun x => x)
      have c0 : wr.cell? (ad.add (k * 5)) = _ := hw 0 _ rfl
      have c1 : wr.cell? ⟨(ad.add (k * 5)).block, (ad.add (k * 5)).off + 1, none⟩ = _ := hw 1 _ rfl
      have c2 : wr.cell? ⟨(ad.add (k * 5)).block, (ad.add (k * 5)).off + 2, none⟩ = _ := hw 2 _ rfl
      have c3 : wr.cell? ⟨(ad.add (k * 5)).block, (ad.add (k * 5)).off + 3, none⟩ = _ := hw 3 _ rfl
      have c4 : wr.cell? ⟨(ad.add (k * 5)).block, (ad.add (k * 5)).off + 4, none⟩ = _ := hw 4 _ rfl
      have hkind := hvo.kind
      have hn1 := hvo.n1
      have hn2 := hvo.n2
      have HO := Lib.hid hvo
      clear hc hw hv hbl hvo
      generalize hst : writeK ([], 0) l k = st at HS HV hkb H0
      clear hst
      obtain ⟨L, f⟩ := st
      obtain rfl : f = 0 := H0.out
      clear H0
      have hcase : v.kind % 4 = 0 ∨ v.kind % 4 = 1 ∨ v.kind % 4 = 2 ∨ v.kind % 4 = 3 := by omega
      rcases hcase with hm | hm | hm | hm
      · have t0 : ((v.kind : Int) % 4 == 0) = true := beq_iff_eq.2 (by omega)
        have HM := Lib.hid hm
        clear hm
        by_cases hneg : v.n < 0
        · have HE : Hid (writeL ([], 0) l = (L, 2)) := by
            have h5 : writeK ([], 0) l (k + 1) = (L, 2) := by rw [HV.out]; simp [wV, HM.out, wNumber, hneg]
            rw [← h5]
            exact HT.out (by rw [h5]; simp)
          go_wp2
          go_ret2
          refine ⟨fun _ => ?_, fun h => ?_⟩
          · rw [HE.out]; exact ⟨rfl, HS.out.fr0.alloc _⟩
          · rw [HE.out] at h; cases h
        · obtain ⟨x, hx⟩ := Int.eq_ofNat_of_zero_le (by omega : 0 ≤ v.n)
          have HX := Lib.hid hx
          go_wp2_with fail
          refine (Natural_any x _ (by omega)).mono ?_
          rintro e w3 ⟨v3, rfl, hg3⟩
          obtain ⟨A3, n3, c3, rfl, H3, _⟩ := own_slice hg3.own
          have HG3 := Lib.hid hg3
          have HS3 := Lib.hid ((HS.out.behind ((Fr.refl _ _).alloc _)).behind hg3.fr0)
          have hn3 : n3 ≤ 16777300 := by have := enc_length x; rw [H3.out]; omega
          clear hg3
          go_wp2_with (at_builtin; refine wpList_app _ rfl _ _ 22 rfl 5 i0 _ 1 1 Try.underlying22 hi hz0 hz1 hz2 rfl (by omega) _ _ _ rfl HS3.out.own _ _ n3 c3 _ rfl (OwnB.rd HG3.out.own H3.out) (oneCell_bv _) (by omega) (by omega) ?_)
          intro v4 w4 hg4
          have HG4 := Lib.hid (GrewB.app HS3.out hg4 H3.out)
          clear hg4 HS3 HG3
          have HE : Hid (writeK ([], 0) l (k + 1) = (L ++ enc x, 0)) := HV.out.trans (wV_num L v x HM.out HX.out)
          go_wp2
          go_roundw
          case rel => exact ⟨k + 1, by omega, by go_num, by rw [HE.out]; rfl, by rw [HE.out]; exact HG4.out⟩
          case measure => simp [intOf]; omega
      · have t0 : ((v.kind : Int) % 4 == 0) = false := beq_eq_false_iff_ne.2 (by omega)
        have t1 : ((v.kind : Int) % 4 == 1) = true := beq_iff_eq.2 (by omega)
        have HM := Lib.hid hm
        clear hm
        go_wp2_with fail
        refine (refSigned_any _ _ hn1 hn2).mono ?_
        rintro e w2 ⟨rfl, rfl⟩
        go_wp2_with fail
        refine (Natural_any (zig v.n) _ (zig_lt _ hn2 hn1)).mono ?_
        rintro e w3 ⟨v3, rfl, hg3⟩
        obtain ⟨A3, n3, c3, rfl, H3, _⟩ := own_slice hg3.own
        have HG3 := Lib.hid hg3
        have HS3 := Lib.hid ((HS.out.behind ((Fr.refl _ _).alloc _)).behind hg3.fr0)
        have hn3 : n3 ≤ 16777300 := by have := enc_length (zig v.n); rw [H3.out]; omega
        clear hg3
        go_wp2_with (at_builtin; refine wpList_app _ rfl _ _ 22 rfl 5 i0 _ 1 1 Try.underlying22 hi hz0 hz1 hz2 rfl (by omega) _ _ _ rfl HS3.out.own _ _ n3 c3 _ rfl (OwnB.rd HG3.out.own H3.out) (oneCell_bv _) (by omega) (by omega) ?_)
        intro v4 w4 hg4
        have HG4 := Lib.hid (GrewB.app HS3.out hg4 H3.out)
        clear hg4 HS3 HG3
        have HE : Hid (writeK ([], 0) l (k + 1) = (L ++ enc (zig v.n), 0)) := HV.out.trans (wV_sig L v HM.out)
        go_wp2
        go_roundw
        case rel => exact ⟨k + 1, by omega, by go_num, by rw [HE.out]; rfl, by rw [HE.out]; exact HG4.out⟩
        case measure => simp [intOf]; omega
      · have t0 : ((v.kind : Int) % 4 == 0) = false := beq_eq_false_iff_ne.2 (by omega)
        have t1 : ((v.kind : Int) % 4 == 1) = false := beq_eq_false_iff_ne.2 (by omega)
        have t2 : ((v.kind : Int) % 4 == 2) = true := beq_iff_eq.2 (by omega)
        have HM := Lib.hid hm
        clear hm
        cases hb : v.is
        · rw [hb] at c2
          have HE : Hid (writeK ([], 0) l (k + 1) = (L ++ [0], 0)) := HV.out.trans (by rw [wV_flag L v HM.out, hb]; rfl)
          go_wp2_with (at_builtin; refine wpList_app1 _ rfl _ _ 22 rfl 5 i0 _ 1 1 Try.underlying22 hi hz0 hz1 hz2 rfl (by omega) _ _ _ rfl (HS.out.behind ((Fr.refl _ _).alloc _)).own 1 _ _ (by simp) rfl rfl (by simp [Value.oneCell']) (by omega) (by omega) ?_)
          intro v4 w4 hg4
          have HG4 : Hid (GrewB w (.slice none 0 0) w4 v4 (L ++ [0])) := GrewB.app (HS.out.behind ((Fr.refl _ _).alloc _)) (by simpa [bv] using hg4) rfl
          clear hg4
          go_wp2
          go_roundw
          case rel => exact ⟨k + 1, by omega, by go_num, by rw [HE.out]; rfl, by rw [HE.out]; exact HG4.out⟩
          case measure => simp [intOf]; omega
        · rw [hb] at c2
          have HE : Hid (writeK ([], 0) l (k + 1) = (L ++ [1], 0)) := HV.out.trans (by rw [wV_flag L v HM.out, hb]; rfl)
          go_wp2_with (at_builtin; refine wpList_app1 _ rfl _ _ 22 rfl 5 i0 _ 1 1 Try.underlying22 hi hz0 hz1 hz2 rfl (by omega) _ _ _ rfl (HS.out.behind ((Fr.refl _ _).alloc _)).own 1 _ _ (by simp) rfl rfl (by simp [Value.oneCell']) (by omega) (by omega) ?_)
          intro v4 w4 hg4
          have HG4 : Hid (GrewB w (.slice none 0 0) w4 v4 (L ++ [1])) := GrewB.app (HS.out.behind ((Fr.refl _ _).alloc _)) (by simpa [bv] using hg4) rfl
          clear hg4
          go_wp2
          go_roundw
          case rel => exact ⟨k + 1, by omega, by go_num, by rw [HE.out]; rfl, by rw [HE.out]; exact HG4.out⟩
          case measure => simp [intOf]; omega
      · have t0 : ((v.kind : Int) % 4 == 0) = false := beq_eq_false_iff_ne.2 (by omega)
        have t1 : ((v.kind : Int) % 4 == 1) = false := beq_eq_false_iff_ne.2 (by omega)
        have t2 : ((v.kind : Int) % 4 == 2) = false := beq_eq_false_iff_ne.2 (by omega)
        have HM := Lib.hid hm
        clear hm
        by_cases hbig : 16777216 < v.s.size
        · have HE : Hid (writeL ([], 0) l = (L, 5)) := by
            have h5 : writeK ([], 0) l (k + 1) = (L, 5) := by rw [HV.out]; simp [wV, HM.out, wText_big _ _ hbig]
            rw [← h5]
            exact HT.out (by rw [h5]; simp)
          go_wp2
          go_ret2
          refine ⟨fun _ => ?_, fun h => ?_⟩
          · rw [HE.out]; exact ⟨rfl, HS.out.fr0.alloc _⟩
          · rw [HE.out] at h; cases h
        · go_wp2_with fail
          refine (refText_any v.s _ (by omega)).mono ?_
          rintro e w3 ⟨v3, rfl, hg3⟩
          obtain ⟨A3, n3, c3, rfl, H3, _⟩ := own_slice hg3.own
          have HG3 := Lib.hid hg3
          have HS3 := Lib.hid ((HS.out.behind ((Fr.refl _ _).alloc _)).behind hg3.fr0)
          have hn3 : n3 ≤ 16777300 := by have := enc_length v.s.size; rw [H3.out]; simp only [textL, List.length_append, strL_length]; omega
          clear hg3
          go_wp2_with (at_builtin; refine wpList_app _ rfl _ _ 22 rfl 5 i0 _ 1 1 Try.underlying22 hi hz0 hz1 hz2 rfl (by omega) _ _ _ rfl HS3.out.own _ _ n3 c3 _ rfl (OwnB.rd HG3.out.own H3.out) (oneCell_bv _) (by omega) (by omega) ?_)
          intro v4 w4 hg4
          have HG4 := Lib.hid (GrewB.app HS3.out hg4 H3.out)
          clear hg4 HS3 HG3
          have HE : Hid (writeK ([], 0) l (k + 1) = (L ++ textL v.s, 0)) := HV.out.trans (wV_text L v HM.out hbig)
          go_wp2
          go_roundw
          case rel => exact ⟨k + 1, by omega, by go_num, by rw [HE.out]; rfl, by rw [HE.out]; exact HG4.out⟩
          case measure => simp [intOf]; omega
    · have HE : Hid (writeK ([], 0) l k = writeL ([], 0) l) := by
        simp only [Hid, writeK]
        rw [List.take_of_length_le (by rw [HL.out]; omega)]
      go_wp2
      go_ret2
      refine ⟨fun h => ?_, fun _ => ?_⟩
      · rw [← HE.out] at h; exact absurd H0.out h
      · rw [← HE.out]; exact ⟨_, rfl, HS.out⟩
end Go.Proofs.Ytfopfhdijdefiaa
