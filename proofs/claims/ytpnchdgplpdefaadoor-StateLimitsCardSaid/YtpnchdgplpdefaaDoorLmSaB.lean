/- State: comparisons; the clock's name: written by genSaB.py. -/
import Derived.Test.YtpnchdgplpdefaaDoorLmSaA
namespace Go.Proofs.YtpnchdgplpdefaaDoor
open Go.RowKit
theorem isNaN_int (a : Int) (w : World) : Calls Tryd.prog 103 #[.int .i64 a] w (SameW w (.bool false)) := by
 go_enter Tryd.func103, Tryd.ntmps103
 go_wp2
 go_ret
 exact ⟨rfl, rfl⟩
def cmpI (a b : Int) : Int := if a < b then -1 else if b < a then 1 else 0
set_option maxRecDepth 100000 in
theorem cmpInt_any (a b : Int) (w : World) : Calls Tryd.prog 74 #[.int .i64 a, .int .i64 b] w (SameW w (.int .i64 (cmpI a b))) := by
 have C1 := Lib.hid (fun w => isNaN_int a w)
 have C2 := Lib.hid (fun w => isNaN_int b w)
 unfold cmpI
 by_cases h1 : a < b
 ·rw [if_pos h1]
  have t1 : decide (a < b) = true := decide_eq_true h1
  clear h1
  go_enter Tryd.func74, Tryd.ntmps74
  go_wp2_with fail
  refine (C1.out _).mono ?_
  rintro e w' ⟨rfl, rfl⟩
  go_wp2_with fail
  refine (C2.out _).mono ?_
  rintro e w' ⟨rfl, rfl⟩
  go_wp2
  go_ret
  exact ⟨rfl, rfl⟩
 ·rw [if_neg h1]
  have t1 : decide (a < b) = false := decide_eq_false h1
  by_cases h2 : b < a
  ·rw [if_pos h2]
   have t2 : decide (b < a) = true := decide_eq_true h2
   clear h1 h2
   go_enter Tryd.func74, Tryd.ntmps74
   go_wp2_with fail
   refine (C1.out _).mono ?_
   rintro e w' ⟨rfl, rfl⟩
   go_wp2_with fail
   refine (C2.out _).mono ?_
   rintro e w' ⟨rfl, rfl⟩
   go_wp2
   go_ret
   exact ⟨rfl, rfl⟩
  ·rw [if_neg h2]
   have t2 : decide (b < a) = false := decide_eq_false h2
   go_enter Tryd.func74, Tryd.ntmps74
   go_wp2_with fail
   refine (C1.out _).mono ?_
   rintro e w' ⟨rfl, rfl⟩
   go_wp2_with fail
   refine (C2.out _).mono ?_
   rintro e w' ⟨rfl, rfl⟩
   go_wp2
   go_ret
   exact ⟨rfl, rfl⟩
theorem isNaN_str (a : ByteArray) (w : World) : Calls Tryd.prog 107 #[.string a] w (SameW w (.bool false)) := by
 go_enter Tryd.func107, Tryd.ntmps107
 go_wp2
 go_ret
 exact ⟨rfl, rfl⟩
set_option maxRecDepth 100000 in
theorem cmpStr_empty (w : World) : Calls Tryd.prog 77 #[.string ByteArray.empty, .string ByteArray.empty] w (SameW w (.int .i64 0)) := by
 have C1 := Lib.hid (fun w => isNaN_str ByteArray.empty w)
 go_enter Tryd.func77, Tryd.ntmps77
 go_wp2_with fail
 refine (C1.out _).mono ?_
 rintro e w' ⟨rfl, rfl⟩
 go_wp2_with fail
 refine (C1.out _).mono ?_
 rintro e w' ⟨rfl, rfl⟩
 go_wp2
 go_ret
 exact ⟨rfl, rfl⟩
theorem lineageCompare_same (a : ByteArray) (w : World) : Calls Tryd.prog 75 #[.string a, .string a] w (SameW w (.int .i64 0)) := by
 go_enter Tryd.func75, Tryd.ntmps75
 go_wp2
 go_ret
 exact ⟨rfl, rfl⟩
set_option maxRecDepth 100000 in
theorem cmpOr_zero (g : Nat) (w : World) (h : Blk w g 3 #[.int .i64 0, .int .i64 0, .int .i64 0]) : Calls Tryd.prog 76 #[.slice (some ⟨g, 0, none⟩) 3 3] w (SameW w (.int .i64 0)) := by
 have HB := Lib.hid h
 clear h
 go_enter Tryd.func76, Tryd.ntmps76
 go_wp2
 go_loopw [8] (fun i wr => ∃ k : Nat, k ≤ 3 ∧ i = .int .i64 k ∧ w = wr) (fun i _ => 3 - (intOf i).toNat)
 case atStart => exact ⟨0, by omega, rfl, rfl⟩
 case round =>
  obtain ⟨k, hk, rfl, rfl⟩ := hrel
  by_cases hlt : k < 3
  ·have hI : (k : Int) < 3 := by omega
   have hc : w.cell? ⟨g, k, none⟩ = some (.int .i64 0) := by
    rw [HB.out.cell]
    match k, hlt with
    | 0, _ => rfl
    | 1, _ => rfl
    | 2, _ => rfl
   go_wp2
   go_roundw
   case rel => exact ⟨k + 1, by omega, by go_num, trivial⟩
   case measure => simp [intOf]; omega
  ·obtain rfl : k = 3 := by omega
   go_wp2
   go_ret
   exact ⟨rfl, rfl⟩
def clockN : NameV := ⟨15, ByteArray.empty, 0, 0, ByteArray.empty⟩
def clockC : Array Value := #[.int .i64 15, .string ByteArray.empty, .int .i64 0, .int .i64 0, .string ByteArray.empty]
set_option maxRecDepth 100000 in
set_option maxHeartbeats 1000000 in
theorem compare_clock (w : World) : Calls Tryd.prog 45 #[.agg clockC, .agg clockC] w (Same' w (.int .i64 0)) := by
 have C1 := Lib.hid (fun w => cmpInt_any 15 15 w)
 have C2 := Lib.hid (fun w => lineageCompare_same ByteArray.empty w)
 go_enter Tryd.func45, Tryd.ntmps45
 go_wp2_with (refine wpList_boxBlk rfl 36 (.tmp 0) rfl clockC rfl ?_)
 intro w1 n1
 have N1 := Lib.hid n1
 clear n1
 generalize hga : w.heap.size = ga at *
 have HA0 : Hid (Blk w1 ga 36 clockC) := by have h := N1.out.blk; rw [hga] at h; exact h
 clear hga
 go_wp2_with (refine wpList_boxBlk rfl 36 (.tmp 1) rfl clockC rfl ?_)
 intro w2 n2
 have N2 := Lib.hid n2
 clear n2
 generalize hgb : w1.heap.size = gb at *
 have Hgb : Hid (Blk w2 gb 36 clockC) := by have h := N2.out.blk; rw [hgb] at h; exact h
 clear hgb
 have Hga := Lib.hid (HA0.out.fr N2.out.fr (fun x => x))
 have F2 := Lib.hid (N1.out.fr.trans N2.out.fr)
 have ca0 : w2.cell? ⟨ga, 0, none⟩ = some (.int .i64 15) := Hga.out.cell 0
 have cb0 : w2.cell? ⟨gb, 0, none⟩ = some (.int .i64 15) := Hgb.out.cell 0
 have ca1 : w2.cell? ⟨ga, 1, none⟩ = some (.string ByteArray.empty) := Hga.out.cell 1
 have cb1 : w2.cell? ⟨gb, 1, none⟩ = some (.string ByteArray.empty) := Hgb.out.cell 1
 clear N1 N2 HA0
 go_wp2_with fail
 refine (C1.out _).mono ?_
 rintro e w' ⟨rfl, rfl⟩
 rw [show cmpI 15 15 = 0 from rfl]
 go_wp2_with fail
 refine (C2.out _).mono ?_
 rintro e w' ⟨rfl, rfl⟩
 go_upto_region 7 with fail
 clear ca0 cb0 ca1 cb1
 refine wp_region_st 15 Nothing [Is (.pointer (some ⟨ga, 2, none⟩)), Is (.int .i64 0), Is (.pointer (some ⟨gb, 2, none⟩)), Is (.int .i64 0), Is (.int .i64 0), Is (.pointer (some ⟨ga, 3, none⟩)), Is (.int .i64 0), Is (.pointer (some ⟨gb, 3, none⟩)), Is (.int .i64 0), Is (.int .i64 0), Is (.pointer (some ⟨ga, 4, none⟩)), Is (.string ByteArray.empty), Is (.pointer (some ⟨gb, 4, none⟩)), Is (.string ByteArray.empty), Is (.int .i64 0)] [] (fun _ => True) (fun _ _ => false) (by kernel_rfl) (by kernel_rfl) (by kernel_rfl) (by kernel_rfl) ⟨Is.stable _, Is.stable _, Is.stable _, Is.stable _, Is.stable _, Is.stable _, Is.stable _, Is.stable _, Is.stable _, Is.stable _, Is.stable _, Is.stable _, Is.stable _, Is.stable _, Is.stable _, trivial⟩ trivial (fun _ _ _ _ h => h) trivial ?_ ?_
 ·refine ⟨fun u w' d hf hR k1 k0 kM => ?_, fun u w' d hf hR k1 k0 kM => ?_, fun u w' d hf hR k1 k0 kM => ?_, fun u w' d hf hR k1 k0 kM => ?_, fun u w' d hf hR k1 k0 kM => ?_, fun u w' d hf hR k1 k0 kM => ?_, fun u w' d hf hR k1 k0 kM => ?_, fun u w' d hf hR k1 k0 kM => ?_, fun u w' d hf hR k1 k0 kM => ?_, fun u w' d hf hR k1 k0 kM => ?_, fun u w' d hf hR k1 k0 kM => ?_, fun u w' d hf hR k1 k0 kM => ?_, fun u w' d hf hR k1 k0 kM => ?_, fun u w' d hf hR k1 k0 kM => ?_, fun u w' d hf hR k1 k0 kM => ?_, trivial⟩
  all_goals simp only [List.take_succ_cons, List.take_zero, List.map_cons, List.map_nil, puts, Act.put, List.setIfInBounds_toArray, List.set_cons_zero, List.set_cons_succ, Nat.reduceAdd, Nat.zero_add]
  ·clear hR k1 k0 kM
   refine .inl ⟨by kernel_rfl, ?_⟩
   go_simp
   exact ⟨_, rfl, Fr.refl _ _, rfl, trivial⟩
  ·have h0 : u 0 = _ := hR 0 (by kernel_rfl)
   clear hR k1 k0 kM
   simp only [h0]
   refine .inl ⟨by kernel_rfl, ?_⟩
   have hc : w'.cell? ⟨ga, 2, none⟩ = some (.int .i64 0) := (Hga.out.fr hf (fun x => x)).cell 2
   go_simp
   exact ⟨_, rfl, Fr.refl _ _, rfl, trivial⟩
  ·clear hR k1 k0 kM
   refine .inl ⟨by kernel_rfl, ?_⟩
   go_simp
   exact ⟨_, rfl, Fr.refl _ _, rfl, trivial⟩
  ·have h2 : u 2 = _ := hR 2 (by kernel_rfl)
   clear hR k1 k0 kM
   simp only [h2]
   refine .inl ⟨by kernel_rfl, ?_⟩
   have hc : w'.cell? ⟨gb, 2, none⟩ = some (.int .i64 0) := (Hgb.out.fr hf (fun x => x)).cell 2
   go_simp
   exact ⟨_, rfl, Fr.refl _ _, rfl, trivial⟩
  ·have h1 : u 1 = _ := hR 1 (by kernel_rfl)
   have h3 : u 3 = _ := hR 3 (by kernel_rfl)
   clear hR k1 k0 kM
   simp only [h1, h3]
   refine .inl ⟨by kernel_rfl, ?_⟩
   go_simp
   refine (cmpInt_any 0 0 _).mono ?_
   rintro e w4 ⟨rfl, rfl⟩
   exact ⟨_, rfl, Fr.refl _ _, rfl, trivial⟩
  ·clear hR k1 k0 kM
   refine .inl ⟨by kernel_rfl, ?_⟩
   go_simp
   exact ⟨_, rfl, Fr.refl _ _, rfl, trivial⟩
  ·have h5 : u 5 = _ := hR 5 (by kernel_rfl)
   clear hR k1 k0 kM
   simp only [h5]
   refine .inl ⟨by kernel_rfl, ?_⟩
   have hc : w'.cell? ⟨ga, 3, none⟩ = some (.int .i64 0) := (Hga.out.fr hf (fun x => x)).cell 3
   go_simp
   exact ⟨_, rfl, Fr.refl _ _, rfl, trivial⟩
  ·clear hR k1 k0 kM
   refine .inl ⟨by kernel_rfl, ?_⟩
   go_simp
   exact ⟨_, rfl, Fr.refl _ _, rfl, trivial⟩
  ·have h7 : u 7 = _ := hR 7 (by kernel_rfl)
   clear hR k1 k0 kM
   simp only [h7]
   refine .inl ⟨by kernel_rfl, ?_⟩
   have hc : w'.cell? ⟨gb, 3, none⟩ = some (.int .i64 0) := (Hgb.out.fr hf (fun x => x)).cell 3
   go_simp
   exact ⟨_, rfl, Fr.refl _ _, rfl, trivial⟩
  ·have h6 : u 6 = _ := hR 6 (by kernel_rfl)
   have h8 : u 8 = _ := hR 8 (by kernel_rfl)
   clear hR k1 k0 kM
   simp only [h6, h8]
   refine .inl ⟨by kernel_rfl, ?_⟩
   go_simp
   refine (cmpInt_any 0 0 _).mono ?_
   rintro e w4 ⟨rfl, rfl⟩
   exact ⟨_, rfl, Fr.refl _ _, rfl, trivial⟩
  ·clear hR k1 k0 kM
   refine .inl ⟨by kernel_rfl, ?_⟩
   go_simp
   exact ⟨_, rfl, Fr.refl _ _, rfl, trivial⟩
  ·have h10 : u 10 = _ := hR 10 (by kernel_rfl)
   clear hR k1 k0 kM
   simp only [h10]
   refine .inl ⟨by kernel_rfl, ?_⟩
   have hc : w'.cell? ⟨ga, 4, none⟩ = some (.string ByteArray.empty) := (Hga.out.fr hf (fun x => x)).cell 4
   go_simp
   exact ⟨_, rfl, Fr.refl _ _, rfl, trivial⟩
  ·clear hR k1 k0 kM
   refine .inl ⟨by kernel_rfl, ?_⟩
   go_simp
   exact ⟨_, rfl, Fr.refl _ _, rfl, trivial⟩
  ·have h12 : u 12 = _ := hR 12 (by kernel_rfl)
   clear hR k1 k0 kM
   simp only [h12]
   refine .inl ⟨by kernel_rfl, ?_⟩
   have hc : w'.cell? ⟨gb, 4, none⟩ = some (.string ByteArray.empty) := (Hgb.out.fr hf (fun x => x)).cell 4
   go_simp
   exact ⟨_, rfl, Fr.refl _ _, rfl, trivial⟩
  ·have h11 : u 11 = _ := hR 11 (by kernel_rfl)
   have h13 : u 13 = _ := hR 13 (by kernel_rfl)
   clear hR k1 k0 kM
   simp only [h11, h13]
   refine .inl ⟨by kernel_rfl, ?_⟩
   go_simp
   refine (cmpStr_empty _).mono ?_
   rintro e w4 ⟨rfl, rfl⟩
   exact ⟨_, rfl, Fr.refl _ _, rfl, trivial⟩
 ·intro u w' hf hR kM
  have k4 : u 4 = _ := hR 4 (by omega)
  have k9 : u 9 = _ := hR 9 (by omega)
  have k14 : u 14 = _ := hR 14 (by omega)
  clear hR kM
  simp only [List.take_succ_cons, List.take_zero, List.map_cons, List.map_nil, puts, Act.put, List.setIfInBounds_toArray, List.set_cons_zero, List.set_cons_succ, List.drop_succ_cons, List.drop_zero, Nat.reduceAdd, Nat.zero_add, k4, k9, k14]
  have F3 := Lib.hid (F2.out.trans hf)
  clear hf k4 k9 k14
  go_wp2_with fail
  have NW := NewBlk.alloc w' 3 #[.int .i64 0, .int .i64 0, .int .i64 0]
  generalize w'.alloc (.cells #[.int .i64 0, .int .i64 0, .int .i64 0] 3) = w5 at *
  have F5 := Lib.hid (F3.out.trans NW.fr)
  have CO := Lib.hid (cmpOr_zero _ w5 NW.blk)
  clear NW
  generalize w'.heap.size = gs at *
  refine CO.out.mono ?_
  rintro e w6 ⟨rfl, rfl⟩
  go_wp2
  go_ret
  exact ⟨rfl, F5.out⟩
end Go.Proofs.YtpnchdgplpdefaaDoor
