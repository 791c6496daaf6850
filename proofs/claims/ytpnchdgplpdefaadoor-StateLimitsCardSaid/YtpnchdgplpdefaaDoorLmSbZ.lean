/- State: Equal (written by genSbZ.py). -/
import Derived.Test.YtpnchdgplpdefaaDoorLmSbW
import Derived.Test.YtpnchdgplpdefaaDoorLmSbX
namespace Go.Proofs.YtpnchdgplpdefaaDoor
open Go.RowKit Go.Shelf
set_option maxRecDepth 100000 in
set_option maxHeartbeats 4000000 in
theorem Equal_any (LA LB : List Ent) (s1 s2 : Nat) (w : World) (hA : StL w s1 LA) (hB : StL w s2 LB) (gA : GoodL LA) (gB : GoodL LB) (E : Bool) (hE : E = true ↔ LA = LB) :
  Calls Tryd.prog 26 #[.pointer (some ⟨s1, 0, none⟩), .pointer (some ⟨s2, 0, none⟩)] w (Same' w (.bool E)) := by
 have CD : Hid (∀ w', Fr Nothing w w' → Calls Tryd.prog 23 #[.pointer (some ⟨s1, 0, none⟩), .pointer (some ⟨s2, 0, none⟩)] w' (Diffed w' (diffL LA LB))) := fun w' f => Diff_any LA LB s1 s2 w' (hA.fr0 f) (hB.fr0 f) gA.len gB.len gA.short gB.short
 have HNIL := Lib.hid (diff_nil gA.sort gB.sort)
 obtain ⟨tA, sA, eA⟩ := hA
 obtain ⟨tB, sB, eB⟩ := hB
 have CLA : Hid (Calls Tryd.prog 33 #[.pointer (some ⟨s1, 0, none⟩)] w (SameW w (.int .i64 (LA.length : Int)))) := by
  have h := Len_any w s1 tA sA
  rw [← tA.toL_length, eA] at h
  exact h
 have CLB : Hid (Calls Tryd.prog 33 #[.pointer (some ⟨s2, 0, none⟩)] w (SameW w (.int .i64 (LB.length : Int)))) := by
  have h := Len_any w s2 tB sB
  rw [← tB.toL_length, eB] at h
  exact h
 have CBA : Hid (Calls Tryd.prog 34 #[.pointer (some ⟨s1, 0, none⟩)] w (SameW w (.int .i64 (bytesL LA : Int)))) := by
  have h := Bytes_any w s1 tA sA
  rw [tA.bytes_toL, eA] at h
  exact h
 have CBB : Hid (Calls Tryd.prog 34 #[.pointer (some ⟨s2, 0, none⟩)] w (SameW w (.int .i64 (bytesL LB : Int)))) := by
  have h := Bytes_any w s2 tB sB
  rw [tB.bytes_toL, eB] at h
  exact h
 have HL : Hid (LA = LB → LA.length = LB.length) := fun h => by rw [h]
 have HB : Hid (LA = LB → bytesL LA = bytesL LB) := fun h => by rw [h]
 clear sA sB eA eB gA gB
 have HE := Lib.hid hE
 clear hE
 generalize LA.length = na at *
 generalize LB.length = nb at *
 generalize bytesL LA = ba at *
 generalize bytesL LB = bb at *
 generalize diffL LA LB = D at *
 go_enter Tryd.func26, Tryd.ntmps26
 go_wp2_with fail
 refine CLA.out.mono ?_
 rintro e w' ⟨rfl, rfl⟩
 go_wp2_with fail
 refine CLB.out.mono ?_
 rintro e w' ⟨rfl, rfl⟩
 by_cases h1 : na = nb
 ·subst h1
  clear HL
  go_wp2_with fail
  refine CBA.out.mono ?_
  rintro e w' ⟨rfl, rfl⟩
  go_wp2_with fail
  refine CBB.out.mono ?_
  rintro e w' ⟨rfl, rfl⟩
  by_cases h2 : ba = bb
  ·subst h2
   clear HB
   go_wp2_with fail
   refine (CD.out _ (Fr.refl _ _)).mono ?_
   rintro e w2 ⟨v, rfl, hG⟩
   obtain ⟨A9, n9, c9, rfl, H9, _⟩ := own_slice hG.own
   have F9 := Lib.hid hG.fr0
   have HN : Hid (n9 = D.length) := H9.out
   clear hG H9
   by_cases hd : D = []
   ·have hn : n9 = 0 := by rw [HN.out, hd]; rfl
    obtain rfl : E = true := HE.out.2 (HNIL.out.1 hd)
    subst hn
    go_wp2
    go_ret
    exact ⟨rfl, F9.out⟩
   ·have hn : n9 ≠ 0 := fun h => hd (List.length_eq_zero_iff.1 (by rw [← HN.out]; exact h))
    obtain rfl : E = false := Bool.eq_false_iff.2 (fun h => hd (HNIL.out.2 (HE.out.1 h)))
    have t9 : ((n9 : Int) == 0) = false := beq_eq_false_iff_ne.2 (by omega)
    go_wp2
    go_ret
    exact ⟨rfl, F9.out⟩
  ·obtain rfl : E = false := Bool.eq_false_iff.2 (fun h => h2 (HB.out (HE.out.1 h)))
   have t9 : ((ba : Int) == (bb : Int)) = false := beq_eq_false_iff_ne.2 (by omega)
   go_wp2
   go_ret
   exact ⟨rfl, Fr.refl _ _⟩
 ·obtain rfl : E = false := Bool.eq_false_iff.2 (fun h => h1 (HL.out (HE.out.1 h)))
  have t9 : ((na : Int) == (nb : Int)) = false := beq_eq_false_iff_ne.2 (by omega)
  go_wp2
  go_ret
  exact ⟨rfl, Fr.refl _ _⟩
end Go.Proofs.YtpnchdgplpdefaaDoor
