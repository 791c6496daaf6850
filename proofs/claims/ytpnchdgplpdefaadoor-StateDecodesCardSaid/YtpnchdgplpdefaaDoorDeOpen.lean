/- State: StateDecodes (written by genScu.py). -/
import Derived.Test.YtpnchdgplpdefaaDoorDeGwX
import Derived.Test.YtpnchdgplpdefaaDoorDeGwA
import Derived.OpenShut
import Derived.Test.YtpnchdgplpdefaaDoorDeSct
import Derived.Test.YtpnchdgplpdefaaDoorDeSbM
import Derived.Test.YtpnchdgplpdefaaDoorDeSaF
namespace Go.Proofs.YtpnchdgplpdefaaDoor
open Go.RowKit
def IsRow (k : IntKind) (w : World) (a : Option Addr) (len cap : Nat) (zs : List Int) : Prop :=
 (a = none ∧ len = 0 ∧ cap = 0 ∧ zs = []) ∨
 ∃ x, a = some x ∧ len ≤ cap ∧ cap ≤ maxLen ∧ zs.length = cap ∧ (∀ i, i < zs.length → w.cell? (x.add i) = some (.int k (zs.getD i 0))) ∧ ∀ n ∈ zs, (Lit.int k n).wf = true
theorem IsRow.bytes {w : World} {a : Option Addr} {len cap : Nat} {zs : List Int} (h : IsRow .u8 w a len cap zs) :
  ∃ l : List UInt8, Rd w (Old w) 1 a len (l.map bv) ∧ len ≤ cap ∧ cap ≤ 9223372036854775807 := by
 rcases h with ⟨rfl, rfl, rfl, rfl⟩ | ⟨x, rfl, hl, hm, hz, hc, hw⟩
 ·exact ⟨[], Rd.none_, Nat.le_refl _, Nat.zero_le _⟩
 ·refine ⟨(zs.take len).map (fun z => b8 z.toNat), ⟨by simp; omega, fun hn => ⟨x, rfl, ?_, fun j u hu => ?_⟩⟩, hl, by unfold maxLen at hm; exact hm⟩
  ·have := World.block_lt_of_cell? w _ (hc 0 (by omega))
   rw [block_of_add] at this
   exact this
  ·rw [List.map_map] at hu
   rw [List.getElem?_map] at hu
   cases hj : (zs.take len)[j]? with
   | none => simp [hj] at hu
   | some z =>
    rw [hj] at hu
    simp only [Option.map_some, Function.comp, Option.some.injEq] at hu
    have hjl : j < (zs.take len).length := (List.getElem?_eq_some_iff.1 hj).1
    have hjz : j < zs.length := by simp at hjl; omega
    have hze : zs[j]? = some z := by rw [List.getElem?_take] at hj; split at hj; exact hj; cases hj
    have hmem : z ∈ zs := List.mem_of_getElem? hze
    have hb := bounds_u8 (hw z hmem)
    rw [hc j hjz, List.getD_eq_getElem?_getD, hze, Option.getD_some, ← hu]
    unfold bv b8
    rw [UInt8.toNat_ofNat_of_lt' (by simp; omega)]
    congr 2
    omega
end Go.Proofs.YtpnchdgplpdefaaDoor
namespace Go.Proofs.YtpnchdgplpdefaaDoor
open Go.RowKit Go.Shelf Go.ChangeShapes Go.WideShapes Go.ChangeAt
theorem open_bytes {H : Type} {enc : TypeId × Value → H} {w : World} {fuel : Nat} {a : Option Addr} {len cap : Nat} {x : DataW H × List MemPlace}
  (h : DataW.trod enc Tryd.prog w 0 (fun _ => true) true fuel 67 [.slice a len cap] = some x) :
  ∃ l : List UInt8, Rd w (Old w) 1 a len (l.map bv) ∧ True ∧ len ≤ cap ∧ cap ≤ 9223372036854775807 := by
 have h' : ∃ zs, IsRow .u8 w a len cap zs := by
  rcases open_ints Tryd.underlying67 Tryd.underlying5 (by kernel_rfl) h with ⟨hcs, _⟩ | ⟨x, l, c, zs, hcs, _, hl, hm, hz, _, hcell, hwz⟩
  ·simp at hcs
   obtain ⟨rfl, rfl, rfl⟩ := hcs
   exact ⟨[], .inl ⟨rfl, rfl, rfl, rfl⟩⟩
  ·simp at hcs
   obtain ⟨rfl, rfl, rfl⟩ := hcs
   exact ⟨zs, .inr ⟨_, rfl, hl, hm, by simpa using hz, hcell, hwz⟩⟩
 obtain ⟨zs, hz⟩ := h'
 obtain ⟨l, h1, h2, h3⟩ := hz.bytes
 exact ⟨l, h1, trivial, h2, h3⟩
set_option maxRecDepth 100000 in
set_option maxHeartbeats 4000000 in
theorem StateDecodes_cut (A : Option Addr) (n0 n c : Nat) (l : List UInt8) (S : Nat → Prop) (w : World) (hr : Rd w S 1 A n (l.map bv)) (hm : min (n0 : Int) 2000 = (n : Int)) (hn : n ≤ 2000) (hnc : n ≤ c) (hU : UsaT w) :
  Calls Tryd.prog 11 #[.slice A n0 c] w (TrueNew w) := by
 have hln : l.length = n := by simpa using hr.1
 have HU := Lib.hid hU
 have HR0 := Lib.hid hr
 have HLN : Hid (l.length ≤ 70000) := by simp only [Hid]; omega
 have CK : Hid (∀ w', Fr Nothing w w' → Calls Tryd.prog 12 #[] w' (Same' w' (.bool true))) := fun w' hf => known_any w' (HU.out.fr0 hf)
 have n1 : (n : Int) ≤ (c : Int) := by omega
 have n2 : (0 : Int) ≤ (n : Int) := by omega
 clear hr hU hln
 go_enter Tryd.func11, Tryd.ntmps11
 go_wp2_with fail
 refine (CK.out _ (Fr.refl _ _)).mono ?_
 rintro e w1 ⟨rfl, f1⟩
 have F1 := Lib.hid f1
 have R1 := Lib.hid (HR0.out.fr0 f1)
 clear f1 CK HR0
 have CD : Hid (Calls Tryd.prog 38 #[.slice A n c] w1 (SDecoded w1 (decS l))) := SDec_any A n c l S w1 R1.out HLN.out (HU.out.fr0 F1.out)
 obtain ⟨R, hR⟩ : ∃ R, decS l = R := ⟨_, rfl⟩
 rw [hR] at CD
 have HINV : Hid (R.1 = 0 → encS R.2 = l ∧ ∃ last, KInv R.2 last ([], 0, 0)) := fun h => by
  have := decS_inv HLN.out (by rw [hR]; exact h)
  rw [hR] at this
  exact this
 have CR : Hid (∀ w', Fr Nothing w1 w' → Calls Tryd.prog 39 #[.slice A n c] w' (RDecd w' R)) := fun w' f => by
  rw [← hR]
  exact rSDec_any A n c l S w' (R1.out.fr0 f) hnc HLN.out
 clear hR
 go_wp2_with fail
 refine CD.out.mono ?_
 rintro e w2 ⟨p, rfl, f2, hcase⟩
 have F2 := Lib.hid (F1.out.trans f2)
 have R2 := Lib.hid (R1.out.fr0 f2)
 have CR2 := Lib.hid (CR.out w2 f2)
 have HCS := Lib.hid hcase
 clear f2 hcase CD CR F1 R1
 go_wp2_with fail
 refine CR2.out.mono ?_
 rintro e w3 ⟨pv, rfl, f3, hcase⟩
 have F3 := Lib.hid (F2.out.trans f3)
 have HR := Lib.hid (R2.out.fr0 f3)
 have HCR := Lib.hid hcase
 have HS3 : Hid ((R.1 = 0 ∧ ∃ s, p = some ⟨s, 0, none⟩ ∧ StL w3 s R.2) ∨ (R.1 ≠ 0 ∧ p = none)) := by
  rcases HCS.out with ⟨h, s, e, hs⟩ | h
  ·exact .inl ⟨h, s, e, hs.fr0 f3⟩
  ·exact .inr h
 clear f3 hcase CR2 F2 R2 HCS
 generalize R.1 = ev at *
 by_cases h0 : ev = 0
 ·subst h0
  obtain ⟨s1, rfl, hs⟩ : ∃ s, p = some ⟨s, 0, none⟩ ∧ StL w3 s R.2 := by
   rcases HS3.out with ⟨_, h⟩ | ⟨h, _⟩
   ·exact h
   ·exact absurd rfl h
  have hrow : RowE w3 pv R.2 := by
   rcases HCR.out with ⟨_, h⟩ | ⟨h, _⟩
   ·exact h
   ·exact absurd rfl h
  obtain ⟨hel, last, hk⟩ := HINV.out rfl
  have CI : Hid (∀ w', Fr Nothing w3 w' → Calls Tryd.prog 16 #[.pointer (some ⟨s1, 0, none⟩), pv] w' (Same' w' (.bool true))) := fun w' f => Is_any R.2 s1 pv w' (hs.fr0 f) (hrow.fr0 f) hk.good hk.names hk.good.len
  have CE : Hid (∀ w', Fr Nothing w3 w' → Calls Tryd.prog 29 #[.pointer (some ⟨s1, 0, none⟩)] w' (Encoded w' l)) := fun w' f => by
   rw [← hel]
   exact SEnc_any R.2 s1 w' (hs.fr0 f) (HU.out.fr0 (F3.out.trans f)) hk.small
  obtain ⟨sl, hsl⟩ : ∃ sl : ByteArray, sl = ⟨l.toArray⟩ := ⟨_, rfl⟩
  have HSL := Lib.hid hsl
  clear hsl hs hrow hel hk HS3 HCR HINV
  clear HU
  generalize R.2 = LL at *
  go_upto_region 8 with fail
  refine wp_region_st 16 Nothing [Is (.pointer (some ⟨s1, 0, none⟩)), Is (.bool false), Is (.bool false), Is (.pointer (some ⟨s1, 0, none⟩)), Is (pv), Is (.bool true), Is (.bool true), Is (.pointer (some ⟨s1, 0, none⟩)), (fun zv zW => BytesV l zv zW), Is (.string sl), Is (.slice A n c), Is (.string sl), Is (.bool true), Is (.bool true), Is (.bool true), Is (.bool true)] [] (fun _ => True) (fun _ _ => false) (by kernel_rfl) (by kernel_rfl) (by kernel_rfl) (by kernel_rfl) ⟨Is.stable _, Is.stable _, Is.stable _, Is.stable _, Is.stable _, Is.stable _, Is.stable _, Is.stable _, fun _ _ _ _ f h => h.fr0 f, Is.stable _, Is.stable _, Is.stable _, Is.stable _, Is.stable _, Is.stable _, Is.stable _, trivial⟩ trivial (fun _ _ _ _ h => h) trivial ?_ ?_
  ·refine ⟨?a11_0, ?a11_1, ?a11_2, ?a11_3, ?a11_4, ?a11_5, ?a11_6, ?a11_7, ?a11_8, ?a11_9, ?a11_10, ?a11_11, ?a11_12, ?a11_13, ?a11_14, ?a11_15, trivial⟩
   all_goals intro u w' d hf hR k1 k0 kM
   all_goals simp only [List.take_succ_cons, List.take_zero, List.map_cons, List.map_nil, puts, Act.put, List.setIfInBounds_toArray, List.set_cons_zero, List.set_cons_succ, Nat.reduceAdd, Nat.zero_add]
   case' a11_1 => simp only [show u 0 = _ from hR 0 (by kernel_rfl)]
   case' a11_2 => simp only [show u 1 = _ from hR 1 (by kernel_rfl)]
   case' a11_3 => simp only [show u 2 = _ from hR 2 (by kernel_rfl)]
   case' a11_4 => simp only [show u 2 = _ from hR 2 (by kernel_rfl)]
   case a11_5 =>
    simp only [show u 3 = _ from hR 3 (by kernel_rfl), show u 4 = _ from hR 4 (by kernel_rfl), show u 2 = _ from hR 2 (by kernel_rfl)]
    clear hR k1 k0 kM
    refine .inl ⟨by kernel_rfl, ?_⟩
    go_simp
    refine (CI.out _ hf).mono ?_
    rintro e w4 ⟨rfl, f4⟩
    exact ⟨_, rfl, f4.weak, rfl, trivial⟩
   case' a11_6 => simp only [show u 5 = _ from hR 5 (by kernel_rfl), show u 2 = _ from hR 2 (by kernel_rfl)]
   case' a11_7 => simp only [show u 6 = _ from hR 6 (by kernel_rfl)]
   case a11_8 =>
    simp only [show u 7 = _ from hR 7 (by kernel_rfl), show u 6 = _ from hR 6 (by kernel_rfl)]
    clear hR k1 k0 kM
    refine .inl ⟨by kernel_rfl, ?_⟩
    go_simp
    refine (CE.out _ hf).mono ?_
    rintro e w5 he
    obtain ⟨v, rfl, hb, f5⟩ := he.bytes
    exact ⟨_, rfl, f5.weak, hb, trivial⟩
   case a11_9 =>
    obtain ⟨A8, n8, c8, e8, ho8, hn8⟩ := hR 8 (by kernel_rfl)
    simp only [e8, show u 6 = _ from hR 6 (by kernel_rfl)]
    clear hR k1 k0 kM
    refine .inl ⟨by kernel_rfl, ?_⟩
    subst hn8
    have hcv := run_strT w' _ _ _ c8 _ (OwnB.rd ho8 rfl)
    rw [← HSL.out] at hcv
    go_simp
    exact ⟨_, rfl, Fr.refl _ _, rfl, trivial⟩
   case' a11_10 => simp only [show u 6 = _ from hR 6 (by kernel_rfl)]
   case a11_11 =>
    simp only [show u 10 = _ from hR 10 (by kernel_rfl), show u 6 = _ from hR 6 (by kernel_rfl)]
    clear hR k1 k0 kM
    refine .inl ⟨by kernel_rfl, ?_⟩
    have hcv := run_strT w' _ A n c _ (HR.out.fr0 hf)
    rw [← HSL.out] at hcv
    go_simp
    exact ⟨_, rfl, Fr.refl _ _, rfl, trivial⟩
   case a11_12 =>
    simp only [show u 9 = _ from hR 9 (by kernel_rfl), show u 11 = _ from hR 11 (by kernel_rfl), show u 6 = _ from hR 6 (by kernel_rfl)]
    clear hR k1 k0 kM
    refine .inl ⟨by kernel_rfl, ?_⟩
    go_simp
    exact ⟨_, rfl, Fr.refl _ _, rfl, trivial⟩
   case' a11_13 => simp only [show u 6 = _ from hR 6 (by kernel_rfl), show u 12 = _ from hR 12 (by kernel_rfl), show u 2 = _ from hR 2 (by kernel_rfl)]
   case' a11_14 => simp only [show u 2 = _ from hR 2 (by kernel_rfl), show u 13 = _ from hR 13 (by kernel_rfl)]
   case' a11_15 => simp only [show u 14 = _ from hR 14 (by kernel_rfl)]
   all_goals
    clear hR k1 k0 kM
    refine .inl ⟨by kernel_rfl, ?_⟩
    go_simp
    exact ⟨_, rfl, Fr.refl _ _, rfl, trivial⟩
  ·intro u w' hf hR kM
   have kz : u 15 = _ := hR 15 (by omega)
   clear hR kM
   simp only [List.take_succ_cons, List.take_zero, List.map_cons, List.map_nil, puts, Act.put, List.setIfInBounds_toArray, List.set_cons_zero, List.set_cons_succ, List.drop_succ_cons, List.drop_zero, Nat.reduceAdd, Nat.zero_add, kz]
   have HF := Lib.hid (F3.out.trans hf)
   clear hf kz
   go_wp2
   go_ret
   exact ⟨rfl, HF.out⟩
 ·have h1 : p = none := by
   rcases HS3.out with ⟨h, _⟩ | ⟨_, h⟩
   ·exact absurd h h0
   ·exact h
  have h2 : pv = .slice none 0 0 := by
   rcases HCR.out with ⟨h, _⟩ | ⟨_, h⟩
   ·exact absurd h h0
   ·exact h
  subst h1
  subst h2
  have tb : (ev != 0) = true := by rw [bne_iff_ne]; exact h0
  clear HS3 HCR HINV h0
  go_upto_region 8 with fail
  refine wp_is 16 [.pointer none, .bool true, .bool true, undef, undef, undef, undef, undef, undef, undef, undef, undef, undef, undef, .bool true, .bool true] rfl (by kernel_rfl) (by kernel_rfl) (by kernel_rfl) ?_ ?_
  ·refine ⟨?xb0, ?xb1, ?xb2, ?xb3, ?xb4, ?xb5, ?xb6, ?xb7, ?xb8, ?xb9, ?xb10, ?xb11, ?xb12, ?xb13, ?xb14, ?xb15, trivial⟩
   all_goals intro u w' hf hR
   all_goals simp only [List.take_succ_cons, List.take_zero, List.map_cons, List.map_nil, puts, Act.put, List.setIfInBounds_toArray, List.set_cons_zero, List.set_cons_succ, Nat.reduceAdd, Nat.zero_add]
   case' xb1 => simp only [show u 0 = _ from hR 0 (by kernel_rfl)]
   case' xb2 => simp only [show u 1 = _ from hR 1 (by kernel_rfl)]
   case xb3 => simp only [show u 2 = _ from hR 2 (by kernel_rfl)]; exact skS (by kernel_rfl)
   case xb4 => simp only [show u 2 = _ from hR 2 (by kernel_rfl)]; exact skS (by kernel_rfl)
   case xb5 => simp only [show u 2 = _ from hR 2 (by kernel_rfl)]; exact skS (by kernel_rfl)
   case xb6 => simp only [show u 2 = _ from hR 2 (by kernel_rfl)]; exact skS (by kernel_rfl)
   case xb7 => simp only [show u 6 = _ from hR 6 (by kernel_rfl)]; exact skS (by kernel_rfl)
   case xb8 => simp only [show u 6 = _ from hR 6 (by kernel_rfl)]; exact skS (by kernel_rfl)
   case xb9 => simp only [show u 6 = _ from hR 6 (by kernel_rfl)]; exact skS (by kernel_rfl)
   case xb10 => simp only [show u 6 = _ from hR 6 (by kernel_rfl)]; exact skS (by kernel_rfl)
   case xb11 => simp only [show u 6 = _ from hR 6 (by kernel_rfl)]; exact skS (by kernel_rfl)
   case xb12 => simp only [show u 6 = _ from hR 6 (by kernel_rfl)]; exact skS (by kernel_rfl)
   case xb13 => simp only [show u 2 = _ from hR 2 (by kernel_rfl)]; exact skS (by kernel_rfl)
   case' xb14 => simp only [show u 2 = _ from hR 2 (by kernel_rfl), show u 13 = _ from hR 13 (by kernel_rfl)]
   case' xb15 => simp only [show u 14 = _ from hR 14 (by kernel_rfl)]
   all_goals
    refine .inl ⟨by kernel_rfl, ?_⟩
    go_simp
    exact ⟨rfl, Fr.refl _ _⟩
  ·intro w' hf
   simp only [List.take_succ_cons, List.take_zero, List.map_cons, List.map_nil, puts, Act.put, List.setIfInBounds_toArray, List.set_cons_zero, List.set_cons_succ, List.drop_succ_cons, List.drop_zero, Nat.reduceAdd, Nat.zero_add, List.getD_cons_zero, List.getD_cons_succ]
   have HF := Lib.hid (F3.out.trans hf)
   clear hf
   go_wp2
   go_ret
   exact ⟨rfl, HF.out⟩
theorem StateDecodes_any (A : Option Addr) (n c : Nat) (l : List UInt8) (S : Nat → Prop) (w : World) (hr : Rd w S 1 A n (l.map bv)) (hnc : n ≤ c) (hU : UsaT w) :
  Calls Tryd.prog 11 #[.slice A n c] w (TrueNew w) := by
 have h := hr.take (k := min n 2000) (by omega)
 rw [Nat.mul_one, ← List.map_take] at h
 exact StateDecodes_cut A n (min n 2000) c (l.take (min n 2000)) S w h (by omega) (by omega) (by omega) hU
end Go.Proofs.YtpnchdgplpdefaaDoor
