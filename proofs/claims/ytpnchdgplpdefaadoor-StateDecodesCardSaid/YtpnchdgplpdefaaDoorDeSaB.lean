/- State: OfClock; find, with, without at the smallest trees: written by genSaC.py. -/
import Derived.Test.YtpnchdgplpdefaaDoorDeSaA
namespace Go.Proofs.YtpnchdgplpdefaaDoor
open Go.RowKit
theorem isNaN_int (a : Int) (w : World) : Calls Tryd.prog 103 #[.int .i64 a] w (SameW w (.bool false)) := by
 go_enter Tryd.func103, Tryd.ntmps103
 go_wp2
 go_ret
 exact ⟨rfl, rfl⟩
def cmpI (a b : Int) : Int := if a < b then -1 else if b < a then 1 else 0
set_option maxRecDepth 100000 in
theorem cmpInt_any (a b : Int) (w : World) : Calls Tryd.prog 74 #[.int .i64 a, .int .i64 b] w (SameW w (.int .i64 (cmpI a b))) := by
 have C1 := Lib.hid (fun w => isNaN_int a w)
 have C2 := Lib.hid (fun w => isNaN_int b w)
 unfold cmpI
 by_cases h1 : a < b
 ·rw [if_pos h1]
  have t1 : decide (a < b) = true := decide_eq_true h1
  clear h1
  go_enter Tryd.func74, Tryd.ntmps74
  go_wp2_with fail
  refine (C1.out _).mono ?_
  rintro e w' ⟨rfl, rfl⟩
  go_wp2_with fail
  refine (C2.out _).mono ?_
  rintro e w' ⟨rfl, rfl⟩
  go_wp2
  go_ret
  exact ⟨rfl, rfl⟩
 ·rw [if_neg h1]
  have t1 : decide (a < b) = false := decide_eq_false h1
  by_cases h2 : b < a
  ·rw [if_pos h2]
   have t2 : decide (b < a) = true := decide_eq_true h2
   clear h1 h2
   go_enter Tryd.func74, Tryd.ntmps74
   go_wp2_with fail
   refine (C1.out _).mono ?_
   rintro e w' ⟨rfl, rfl⟩
   go_wp2_with fail
   refine (C2.out _).mono ?_
   rintro e w' ⟨rfl, rfl⟩
   go_wp2
   go_ret
   exact ⟨rfl, rfl⟩
  ·rw [if_neg h2]
   have t2 : decide (b < a) = false := decide_eq_false h2
   go_enter Tryd.func74, Tryd.ntmps74
   go_wp2_with fail
   refine (C1.out _).mono ?_
   rintro e w' ⟨rfl, rfl⟩
   go_wp2_with fail
   refine (C2.out _).mono ?_
   rintro e w' ⟨rfl, rfl⟩
   go_wp2
   go_ret
   exact ⟨rfl, rfl⟩
theorem isNaN_str (a : ByteArray) (w : World) : Calls Tryd.prog 107 #[.string a] w (SameW w (.bool false)) := by
 go_enter Tryd.func107, Tryd.ntmps107
 go_wp2
 go_ret
 exact ⟨rfl, rfl⟩
set_option maxRecDepth 100000 in
theorem cmpStr_empty (w : World) : Calls Tryd.prog 77 #[.string ByteArray.empty, .string ByteArray.empty] w (SameW w (.int .i64 0)) := by
 have C1 := Lib.hid (fun w => isNaN_str ByteArray.empty w)
 go_enter Tryd.func77, Tryd.ntmps77
 go_wp2_with fail
 refine (C1.out _).mono ?_
 rintro e w' ⟨rfl, rfl⟩
 go_wp2_with fail
 refine (C1.out _).mono ?_
 rintro e w' ⟨rfl, rfl⟩
 go_wp2
 go_ret
 exact ⟨rfl, rfl⟩
theorem lineageCompare_same (a : ByteArray) (w : World) : Calls Tryd.prog 75 #[.string a, .string a] w (SameW w (.int .i64 0)) := by
 go_enter Tryd.func75, Tryd.ntmps75
 go_wp2
 go_ret
 exact ⟨rfl, rfl⟩
set_option maxRecDepth 100000 in
theorem cmpOr_zero (g : Nat) (w : World) (h : Blk w g 3 #[.int .i64 0, .int .i64 0, .int .i64 0]) : Calls Tryd.prog 76 #[.slice (some ⟨g, 0, none⟩) 3 3] w (SameW w (.int .i64 0)) := by
 have HB := Lib.hid h
 clear h
 go_enter Tryd.func76, Tryd.ntmps76
 go_wp2
 go_loopw [8] (fun i wr => ∃ k : Nat, k ≤ 3 ∧ i = .int .i64 k ∧ w = wr) (fun i _ => 3 - (intOf i).toNat)
 case atStart => exact ⟨0, by omega, rfl, rfl⟩
 case round =>
  obtain ⟨k, hk, rfl, rfl⟩ := hrel
  by_cases hlt : k < 3
  ·have hI : (k : Int) < 3 := by omega
   have hc : w.cell? ⟨g, k, none⟩ = some (.int .i64 0) := by
    rw [HB.out.cell]
    match k, hlt with
    | 0, _ => rfl
    | 1, _ => rfl
    | 2, _ => rfl
   go_wp2
   go_roundw
   case rel => exact ⟨k + 1, by omega, by go_num, trivial⟩
   case measure => simp [intOf]; omega
  ·obtain rfl : k = 3 := by omega
   go_wp2
   go_ret
   exact ⟨rfl, rfl⟩
def clockN : NameV := ⟨15, ByteArray.empty, 0, 0, ByteArray.empty⟩
def clockC : Array Value := #[.int .i64 15, .string ByteArray.empty, .int .i64 0, .int .i64 0, .string ByteArray.empty]
set_option maxRecDepth 100000 in
set_option maxHeartbeats 1000000 in
theorem compare_clock (w : World) : Calls Tryd.prog 45 #[.agg clockC, .agg clockC] w (Same' w (.int .i64 0)) := by
 have C1 := Lib.hid (fun w => cmpInt_any 15 15 w)
 have C2 := Lib.hid (fun w => lineageCompare_same ByteArray.empty w)
 go_enter Tryd.func45, Tryd.ntmps45
 go_wp2_with (refine wpList_boxBlk rfl 36 (.tmp 0) rfl clockC rfl ?_)
 intro w1 n1
 have N1 := Lib.hid n1
 clear n1
 generalize hga : w.heap.size = ga at *
 have HA0 : Hid (Blk w1 ga 36 clockC) := by have h := N1.out.blk; rw [hga] at h; exact h
 clear hga
 go_wp2_with (refine wpList_boxBlk rfl 36 (.tmp 1) rfl clockC rfl ?_)
 intro w2 n2
 have N2 := Lib.hid n2
 clear n2
 generalize hgb : w1.heap.size = gb at *
 have Hgb : Hid (Blk w2 gb 36 clockC) := by have h := N2.out.blk; rw [hgb] at h; exact h
 clear hgb
 have Hga := Lib.hid (HA0.out.fr N2.out.fr (fun x => x))
 have F2 := Lib.hid (N1.out.fr.trans N2.out.fr)
 have ca0 : w2.cell? ⟨ga, 0, none⟩ = some (.int .i64 15) := Hga.out.cell 0
 have cb0 : w2.cell? ⟨gb, 0, none⟩ = some (.int .i64 15) := Hgb.out.cell 0
 have ca1 : w2.cell? ⟨ga, 1, none⟩ = some (.string ByteArray.empty) := Hga.out.cell 1
 have cb1 : w2.cell? ⟨gb, 1, none⟩ = some (.string ByteArray.empty) := Hgb.out.cell 1
 clear N1 N2 HA0
 go_wp2_with fail
 refine (C1.out _).mono ?_
 rintro e w' ⟨rfl, rfl⟩
 rw [show cmpI 15 15 = 0 from rfl]
 go_wp2_with fail
 refine (C2.out _).mono ?_
 rintro e w' ⟨rfl, rfl⟩
 go_upto_region 7 with fail
 clear ca0 cb0 ca1 cb1
 refine wp_region_st 15 Nothing [Is (.pointer (some ⟨ga, 2, none⟩)), Is (.int .i64 0), Is (.pointer (some ⟨gb, 2, none⟩)), Is (.int .i64 0), Is (.int .i64 0), Is (.pointer (some ⟨ga, 3, none⟩)), Is (.int .i64 0), Is (.pointer (some ⟨gb, 3, none⟩)), Is (.int .i64 0), Is (.int .i64 0), Is (.pointer (some ⟨ga, 4, none⟩)), Is (.string ByteArray.empty), Is (.pointer (some ⟨gb, 4, none⟩)), Is (.string ByteArray.empty), Is (.int .i64 0)] [] (fun _ => True) (fun _ _ => false) (by kernel_rfl) (by kernel_rfl) (by kernel_rfl) (by kernel_rfl) ⟨Is.stable _, Is.stable _, Is.stable _, Is.stable _, Is.stable _, Is.stable _, Is.stable _, Is.stable _, Is.stable _, Is.stable _, Is.stable _, Is.stable _, Is.stable _, Is.stable _, Is.stable _, trivial⟩ trivial (fun _ _ _ _ h => h) trivial ?_ ?_
 ·refine ⟨fun u w' d hf hR k1 k0 kM => ?_, fun u w' d hf hR k1 k0 kM => ?_, fun u w' d hf hR k1 k0 kM => ?_, fun u w' d hf hR k1 k0 kM => ?_, fun u w' d hf hR k1 k0 kM => ?_, fun u w' d hf hR k1 k0 kM => ?_, fun u w' d hf hR k1 k0 kM => ?_, fun u w' d hf hR k1 k0 kM => ?_, fun u w' d hf hR k1 k0 kM => ?_, fun u w' d hf hR k1 k0 kM => ?_, fun u w' d hf hR k1 k0 kM => ?_, fun u w' d hf hR k1 k0 kM => ?_, fun u w' d hf hR k1 k0 kM => ?_, fun u w' d hf hR k1 k0 kM => ?_, fun u w' d hf hR k1 k0 kM => ?_, trivial⟩
  all_goals simp only [List.take_succ_cons, List.take_zero, List.map_cons, List.map_nil, puts, Act.put, List.setIfInBounds_toArray, List.set_cons_zero, List.set_cons_succ, Nat.reduceAdd, Nat.zero_add]
  ·clear hR k1 k0 kM
   refine .inl ⟨by kernel_rfl, ?_⟩
   go_simp
   exact ⟨_, rfl, Fr.refl _ _, rfl, trivial⟩
  ·have h0 : u 0 = _ := hR 0 (by kernel_rfl)
   clear hR k1 k0 kM
   simp only [h0]
   refine .inl ⟨by kernel_rfl, ?_⟩
   have hc : w'.cell? ⟨ga, 2, none⟩ = some (.int .i64 0) := (Hga.out.fr hf (fun x => x)).cell 2
   go_simp
   exact ⟨_, rfl, Fr.refl _ _, rfl, trivial⟩
  ·clear hR k1 k0 kM
   refine .inl ⟨by kernel_rfl, ?_⟩
   go_simp
   exact ⟨_, rfl, Fr.refl _ _, rfl, trivial⟩
  ·have h2 : u 2 = _ := hR 2 (by kernel_rfl)
   clear hR k1 k0 kM
   simp only [h2]
   refine .inl ⟨by kernel_rfl, ?_⟩
   have hc : w'.cell? ⟨gb, 2, none⟩ = some (.int .i64 0) := (Hgb.out.fr hf (fun x => x)).cell 2
   go_simp
   exact ⟨_, rfl, Fr.refl _ _, rfl, trivial⟩
  ·have h1 : u 1 = _ := hR 1 (by kernel_rfl)
   have h3 : u 3 = _ := hR 3 (by kernel_rfl)
   clear hR k1 k0 kM
   simp only [h1, h3]
   refine .inl ⟨by kernel_rfl, ?_⟩
   go_simp
   refine (cmpInt_any 0 0 _).mono ?_
   rintro e w4 ⟨rfl, rfl⟩
   exact ⟨_, rfl, Fr.refl _ _, rfl, trivial⟩
  ·clear hR k1 k0 kM
   refine .inl ⟨by kernel_rfl, ?_⟩
   go_simp
   exact ⟨_, rfl, Fr.refl _ _, rfl, trivial⟩
  ·have h5 : u 5 = _ := hR 5 (by kernel_rfl)
   clear hR k1 k0 kM
   simp only [h5]
   refine .inl ⟨by kernel_rfl, ?_⟩
   have hc : w'.cell? ⟨ga, 3, none⟩ = some (.int .i64 0) := (Hga.out.fr hf (fun x => x)).cell 3
   go_simp
   exact ⟨_, rfl, Fr.refl _ _, rfl, trivial⟩
  ·clear hR k1 k0 kM
   refine .inl ⟨by kernel_rfl, ?_⟩
   go_simp
   exact ⟨_, rfl, Fr.refl _ _, rfl, trivial⟩
  ·have h7 : u 7 = _ := hR 7 (by kernel_rfl)
   clear hR k1 k0 kM
   simp only [h7]
   refine .inl ⟨by kernel_rfl, ?_⟩
   have hc : w'.cell? ⟨gb, 3, none⟩ = some (.int .i64 0) := (Hgb.out.fr hf (fun x => x)).cell 3
   go_simp
   exact ⟨_, rfl, Fr.refl _ _, rfl, trivial⟩
  ·have h6 : u 6 = _ := hR 6 (by kernel_rfl)
   have h8 : u 8 = _ := hR 8 (by kernel_rfl)
   clear hR k1 k0 kM
   simp only [h6, h8]
   refine .inl ⟨by kernel_rfl, ?_⟩
   go_simp
   refine (cmpInt_any 0 0 _).mono ?_
   rintro e w4 ⟨rfl, rfl⟩
   exact ⟨_, rfl, Fr.refl _ _, rfl, trivial⟩
  ·clear hR k1 k0 kM
   refine .inl ⟨by kernel_rfl, ?_⟩
   go_simp
   exact ⟨_, rfl, Fr.refl _ _, rfl, trivial⟩
  ·have h10 : u 10 = _ := hR 10 (by kernel_rfl)
   clear hR k1 k0 kM
   simp only [h10]
   refine .inl ⟨by kernel_rfl, ?_⟩
   have hc : w'.cell? ⟨ga, 4, none⟩ = some (.string ByteArray.empty) := (Hga.out.fr hf (fun x => x)).cell 4
   go_simp
   exact ⟨_, rfl, Fr.refl _ _, rfl, trivial⟩
  ·clear hR k1 k0 kM
   refine .inl ⟨by kernel_rfl, ?_⟩
   go_simp
   exact ⟨_, rfl, Fr.refl _ _, rfl, trivial⟩
  ·have h12 : u 12 = _ := hR 12 (by kernel_rfl)
   clear hR k1 k0 kM
   simp only [h12]
   refine .inl ⟨by kernel_rfl, ?_⟩
   have hc : w'.cell? ⟨gb, 4, none⟩ = some (.string ByteArray.empty) := (Hgb.out.fr hf (fun x => x)).cell 4
   go_simp
   exact ⟨_, rfl, Fr.refl _ _, rfl, trivial⟩
  ·have h11 : u 11 = _ := hR 11 (by kernel_rfl)
   have h13 : u 13 = _ := hR 13 (by kernel_rfl)
   clear hR k1 k0 kM
   simp only [h11, h13]
   refine .inl ⟨by kernel_rfl, ?_⟩
   go_simp
   refine (cmpStr_empty _).mono ?_
   rintro e w4 ⟨rfl, rfl⟩
   exact ⟨_, rfl, Fr.refl _ _, rfl, trivial⟩
 ·intro u w' hf hR kM
  have k4 : u 4 = _ := hR 4 (by omega)
  have k9 : u 9 = _ := hR 9 (by omega)
  have k14 : u 14 = _ := hR 14 (by omega)
  clear hR kM
  simp only [List.take_succ_cons, List.take_zero, List.map_cons, List.map_nil, puts, Act.put, List.setIfInBounds_toArray, List.set_cons_zero, List.set_cons_succ, List.drop_succ_cons, List.drop_zero, Nat.reduceAdd, Nat.zero_add, k4, k9, k14]
  have F3 := Lib.hid (F2.out.trans hf)
  clear hf k4 k9 k14
  go_wp2_with fail
  have NW := NewBlk.alloc w' 3 #[.int .i64 0, .int .i64 0, .int .i64 0]
  generalize w'.alloc (.cells #[.int .i64 0, .int .i64 0, .int .i64 0] 3) = w5 at *
  have F5 := Lib.hid (F3.out.trans NW.fr)
  have CO := Lib.hid (cmpOr_zero _ w5 NW.blk)
  clear NW
  generalize w'.heap.size = gs at *
  refine CO.out.mono ?_
  rintro e w6 ⟨rfl, rfl⟩
  go_wp2
  go_ret
  exact ⟨rfl, F5.out⟩
end Go.Proofs.YtpnchdgplpdefaaDoor
namespace Go.Proofs.YtpnchdgplpdefaaDoor
open Go.RowKit
def nameZ : Value := .agg #[.int .i64 0, .string ByteArray.empty, .int .i64 0, .int .i64 0, .string ByteArray.empty]
theorem zvName (w : World) : (zeroValue 36).run Tryd.prog w = .ok nameZ w := by kernel_rfl
theorem builtClock : Tryd.prog.built 36 [(0, .int .i64 15)] = some clockC := by kernel_rfl
theorem clock_one : clockC.all (·.oneCell') = true := by kernel_rfl
set_option maxRecDepth 100000 in
set_option maxHeartbeats 1000000 in
theorem OfClock_any (w : World) : Calls Tryd.prog 37 #[] w (Same' w (.agg clockC)) := by
 have B := Lib.hid builtClock
 have O := Lib.hid clock_one
 have I : Hid ((Tryd.prog.info? 36).map (·.size) = some clockC.size) := infoName
 have Z : Hid ((#[.int .i64 0, .string ByteArray.empty, .int .i64 0, .int .i64 0, .string ByteArray.empty] : Array Value).size = clockC.size) := rfl
 generalize clockC = CC at *
 go_enter Tryd.func37, Tryd.ntmps37
 go_wp2_with (refine wpList_allocBlk rfl 36 rfl nameZ zvName #[.int .i64 0, .string ByteArray.empty, .int .i64 0, .int .i64 0, .string ByteArray.empty] rfl ?_)
 intro w1 n1
 have N1 := Lib.hid n1
 clear n1
 go_wp2_with (refine wpList_built rfl 36 #[(0, .const (.int .i64 15))] rfl CC _ (by simp only [List.map_toArray, List.map_cons, List.map_nil]; rfl) B.out (Held.go ?hold))
 unfold Held
 refine wpList_storeBlk rfl 36 (.tmp 0) _ rfl w.heap.size CC rfl rfl _ _ N1.out.blk I.out Z.out O.out ?_
 intro wz b5 f5
 have J4 := Lib.hid b5
 have JF : Hid (Fr Nothing w wz) := N1.out.fr.then_ f5 (fun i hi e => by have e' : i = w.heap.size := e; omega)
 clear b5 f5
 go_wp2
 exact bodyPost_ret (results_cell_row (fn := Tryd.f37) (p := 0) (ty := 36) Tryd.results37 _ wz _ 36 CC (0, 0) _ rfl J4.out Tryd.underlying36 rfl I.out) rfl ⟨rfl, JF.out⟩
set_option maxRecDepth 100000 in
set_option maxHeartbeats 1000000 in
theorem find_none (n : NameV) (w : World) : Calls Tryd.prog 41 #[.pointer none, .agg n.cells.toArray] w (Same' w (.pointer none)) := by
 go_enter Tryd.func41, Tryd.ntmps41
 go_wp2_with (refine wpList_boxBlk rfl 36 (.tmp 1) rfl n.cells.toArray rfl ?_)
 intro w1 n1
 have F1 := Lib.hid n1.fr
 have NB0 := Lib.hid n1.blk
 clear n1
 generalize w.heap.size = gb at *
 have NB : Hid (Blk w1 gb 36 n.cells.toArray) := NB0.out
 clear NB0
 go_wp2
 refine wp_loop_rounds 1 ?_
 rw [rounds_succ]
 go_wp2
 go_ret
 exact ⟨rfl, F1.out⟩
set_option maxRecDepth 100000 in
set_option maxHeartbeats 1000000 in
theorem find_hit (n nm : NameV) (v : ByteArray) (l r : Tr) (g : Nat) (w : World) (hN : NodH w (some ⟨g, 0, none⟩) (.node l nm v r))
  (hC : ∀ w', Fr Nothing w w' → Calls Tryd.prog 45 #[.agg n.cells.toArray, .agg nm.cells.toArray] w' (Same' w' (.int .i64 0))) :
  Calls Tryd.prog 41 #[.pointer (some ⟨g, 0, none⟩), .agg n.cells.toArray] w (Same' w (.pointer (some ⟨g, 0, none⟩))) := by
 have CC := Lib.hid hC
 have HM0 := Lib.hid hN.mid
 clear hC hN
 go_enter Tryd.func41, Tryd.ntmps41
 go_wp2_with (refine wpList_boxBlk rfl 36 (.tmp 1) rfl n.cells.toArray rfl ?_)
 intro w1 n1
 have F1 := Lib.hid n1.fr
 have NB0 := Lib.hid n1.blk
 clear n1
 generalize w.heap.size = gb at *
 have NB : Hid (Blk w1 gb 36 n.cells.toArray) := NB0.out
 clear NB0
 have HM := Lib.hid (HM0.out.fr0 F1.out)
 go_wp2
 refine wp_loop_rounds 1 ?_
 rw [rounds_succ]
 go_upto_region 2 with fail
 refine wp_region_st 7 Nothing [Is (.agg n.cells.toArray), Is (.pointer (some ⟨g, 0, none⟩)), Is (.pointer (some ⟨g, 0, none⟩)), Is (.pointer (some ⟨g, 2, none⟩)), Is (.agg nm.cells.toArray), Is (.int .i64 0), Is (.int .i64 0)] [] (fun _ => True) (fun _ _ => false) (by kernel_rfl) (by kernel_rfl) (by kernel_rfl) (by kernel_rfl) ⟨Is.stable _, Is.stable _, Is.stable _, Is.stable _, Is.stable _, Is.stable _, Is.stable _, trivial⟩ trivial (fun _ _ _ _ h => h) trivial ?_ ?_
 ·refine ⟨fun u w' d hf hR k1 k0 kM => ?_, fun u w' d hf hR k1 k0 kM => ?_, fun u w' d hf hR k1 k0 kM => ?_, fun u w' d hf hR k1 k0 kM => ?_, fun u w' d hf hR k1 k0 kM => ?_, fun u w' d hf hR k1 k0 kM => ?_, fun u w' d hf hR k1 k0 kM => ?_, trivial⟩
  all_goals simp only [List.take_succ_cons, List.take_zero, List.map_cons, List.map_nil, puts, Act.put, List.setIfInBounds_toArray, List.set_cons_zero, List.set_cons_succ, Nat.reduceAdd, Nat.zero_add]
  ·clear hR k1 k0 kM
   refine .inl ⟨by kernel_rfl, ?_⟩
   exact wp_load_add _ _ rfl ⟨gb, 0, none⟩ rfl n.cells _ (fun j x hx => by rw [Addr.add_mid, Nat.zero_add]; exact (NB.out.fr hf (fun x => x)).cell j |>.trans (by rw [List.getElem?_toArray]; exact hx)) Tryd.underlying36 rfl infoName ⟨_, rfl, Fr.refl _ _, rfl, trivial⟩
  ·clear hR k1 k0 kM
   refine .inl ⟨by kernel_rfl, ?_⟩
   go_simp
   exact ⟨_, rfl, Fr.refl _ _, rfl, trivial⟩
  ·have h1 : u 1 = _ := hR 1 (by kernel_rfl)
   clear hR k1 k0 kM
   simp only [h1]
   refine .inl ⟨by kernel_rfl, ?_⟩
   go_simp
   exact ⟨_, rfl, Fr.refl _ _, rfl, trivial⟩
  ·have h2 : u 2 = _ := hR 2 (by kernel_rfl)
   clear hR k1 k0 kM
   simp only [h2]
   refine .inl ⟨by kernel_rfl, ?_⟩
   go_simp
   exact ⟨_, rfl, Fr.refl _ _, rfl, trivial⟩
  ·have h3 : u 3 = _ := hR 3 (by kernel_rfl)
   clear hR k1 k0 kM
   simp only [h3]
   refine .inl ⟨by kernel_rfl, ?_⟩
   exact wp_load_add _ _ rfl ⟨g, 2, none⟩ rfl nm.cells _ (fun j x hx => by rw [Addr.add_mid]; exact hf.cellSome (HM.out.name j x hx) (fun x => x)) Tryd.underlying36 rfl infoName ⟨_, rfl, Fr.refl _ _, rfl, trivial⟩
  ·have h0 : u 0 = _ := hR 0 (by kernel_rfl)
   have h4 : u 4 = _ := hR 4 (by kernel_rfl)
   clear hR k1 k0 kM
   simp only [h0, h4]
   refine .inl ⟨by kernel_rfl, ?_⟩
   go_simp
   refine (CC.out _ (F1.out.trans hf)).mono ?_
   rintro e w4 ⟨rfl, f4⟩
   exact ⟨_, rfl, f4.weak, rfl, trivial⟩
  ·have h5 : u 5 = _ := hR 5 (by kernel_rfl)
   clear hR k1 k0 kM
   simp only [h5]
   refine .inl ⟨by kernel_rfl, ?_⟩
   go_simp
   exact ⟨_, rfl, Fr.refl _ _, rfl, trivial⟩
 ·intro u w' hf hR kM
  have k6 : u 6 = _ := hR 6 (by omega)
  clear hR kM
  simp only [List.take_succ_cons, List.take_zero, List.map_cons, List.map_nil, puts, Act.put, List.setIfInBounds_toArray, List.set_cons_zero, List.set_cons_succ, List.drop_succ_cons, List.drop_zero, Nat.reduceAdd, Nat.zero_add, k6]
  have F2 := Lib.hid (F1.out.trans hf)
  clear hf k6
  go_wp2
  go_ret
  exact ⟨rfl, F2.out⟩
set_option maxRecDepth 100000 in
set_option maxHeartbeats 1000000 in
theorem with_leaf (nm : NameV) (v : ByteArray) (g : Nat) (w : World) (hM : Mid w g nm v) (hv : v.size ≤ 1099511627776) :
  Calls Tryd.prog 58 #[.pointer none, .pointer (some ⟨g, 0, none⟩)] w (fun e w' => ∃ a, e = .returned (.pointer a) ∧ NodH w' a (.node .leaf nm v .leaf) ∧ Fr Nothing w w') := by
 have CJ := Lib.hid (join_any w none none .leaf .leaf g nm v rfl rfl hM (by simp [Tr.size]) (by simp only [Tr.bytes]; omega))
 clear hM
 go_enter Tryd.func58, Tryd.ntmps58
 go_wp2_with fail
 refine CJ.out.mono ?_
 rintro e w1 ⟨a, rfl, h1, f1⟩
 have H1 := Lib.hid h1
 have F1 := Lib.hid f1
 clear h1 f1
 go_wp2
 go_ret
 exact ⟨_, rfl, H1.out, F1.out⟩
set_option maxRecDepth 100000 in
set_option maxHeartbeats 1000000 in
theorem without_hit (n nm : NameV) (v : ByteArray) (l : Tr) (g : Nat) (la : Option Addr) (w : World) (hB : Blk w g 89 (nodeC la none (.node l nm v .leaf)).toArray)
  (hC : ∀ w', Fr Nothing w w' → Calls Tryd.prog 45 #[.agg n.cells.toArray, .agg nm.cells.toArray] w' (Same' w' (.int .i64 0))) :
  Calls Tryd.prog 59 #[.pointer (some ⟨g, 0, none⟩), .agg n.cells.toArray] w (Same' w (.pointer la)) := by
 have CC := Lib.hid hC
 have HM0 : Hid (Mid w g nm v) := Mid.of hB
 have L0 : Hid (w.cell? ⟨g, 0, none⟩ = some (.pointer la)) := hB.cell 0
 have R0 : Hid (w.cell? ⟨g, 1, none⟩ = some (.pointer none)) := hB.cell 1
 clear hC hB
 go_enter Tryd.func59, Tryd.ntmps59
 go_wp2_with (refine wpList_boxBlk rfl 36 (.tmp 1) rfl n.cells.toArray rfl ?_)
 intro w1 n1
 have F1 := Lib.hid n1.fr
 have NB0 := Lib.hid n1.blk
 clear n1
 generalize w.heap.size = gb at *
 have NB : Hid (Blk w1 gb 36 n.cells.toArray) := NB0.out
 clear NB0
 have HM := Lib.hid (HM0.out.fr0 F1.out)
 go_upto_region 1 with fail
 refine wp_region_st 7 Nothing [Is (.agg n.cells.toArray), Is (.pointer (some ⟨g, 0, none⟩)), Is (.pointer (some ⟨g, 0, none⟩)), Is (.pointer (some ⟨g, 2, none⟩)), Is (.agg nm.cells.toArray), Is (.int .i64 0), Is (.int .i64 0)] [] (fun _ => True) (fun _ _ => false) (by kernel_rfl) (by kernel_rfl) (by kernel_rfl) (by kernel_rfl) ⟨Is.stable _, Is.stable _, Is.stable _, Is.stable _, Is.stable _, Is.stable _, Is.stable _, trivial⟩ trivial (fun _ _ _ _ h => h) trivial ?_ ?_
 ·refine ⟨fun u w' d hf hR k1 k0 kM => ?_, fun u w' d hf hR k1 k0 kM => ?_, fun u w' d hf hR k1 k0 kM => ?_, fun u w' d hf hR k1 k0 kM => ?_, fun u w' d hf hR k1 k0 kM => ?_, fun u w' d hf hR k1 k0 kM => ?_, fun u w' d hf hR k1 k0 kM => ?_, trivial⟩
  all_goals simp only [List.take_succ_cons, List.take_zero, List.map_cons, List.map_nil, puts, Act.put, List.setIfInBounds_toArray, List.set_cons_zero, List.set_cons_succ, Nat.reduceAdd, Nat.zero_add]
  ·clear hR k1 k0 kM
   refine .inl ⟨by kernel_rfl, ?_⟩
   exact wp_load_add _ _ rfl ⟨gb, 0, none⟩ rfl n.cells _ (fun j x hx => by rw [Addr.add_mid, Nat.zero_add]; exact (NB.out.fr hf (fun x => x)).cell j |>.trans (by rw [List.getElem?_toArray]; exact hx)) Tryd.underlying36 rfl infoName ⟨_, rfl, Fr.refl _ _, rfl, trivial⟩
  ·clear hR k1 k0 kM
   refine .inl ⟨by kernel_rfl, ?_⟩
   go_simp
   exact ⟨_, rfl, Fr.refl _ _, rfl, trivial⟩
  ·have h1 : u 1 = _ := hR 1 (by kernel_rfl)
   clear hR k1 k0 kM
   simp only [h1]
   refine .inl ⟨by kernel_rfl, ?_⟩
   go_simp
   exact ⟨_, rfl, Fr.refl _ _, rfl, trivial⟩
  ·have h2 : u 2 = _ := hR 2 (by kernel_rfl)
   clear hR k1 k0 kM
   simp only [h2]
   refine .inl ⟨by kernel_rfl, ?_⟩
   go_simp
   exact ⟨_, rfl, Fr.refl _ _, rfl, trivial⟩
  ·have h3 : u 3 = _ := hR 3 (by kernel_rfl)
   clear hR k1 k0 kM
   simp only [h3]
   refine .inl ⟨by kernel_rfl, ?_⟩
   exact wp_load_add _ _ rfl ⟨g, 2, none⟩ rfl nm.cells _ (fun j x hx => by rw [Addr.add_mid]; exact hf.cellSome (HM.out.name j x hx) (fun x => x)) Tryd.underlying36 rfl infoName ⟨_, rfl, Fr.refl _ _, rfl, trivial⟩
  ·have h0 : u 0 = _ := hR 0 (by kernel_rfl)
   have h4 : u 4 = _ := hR 4 (by kernel_rfl)
   clear hR k1 k0 kM
   simp only [h0, h4]
   refine .inl ⟨by kernel_rfl, ?_⟩
   go_simp
   refine (CC.out _ (F1.out.trans hf)).mono ?_
   rintro e w4 ⟨rfl, f4⟩
   exact ⟨_, rfl, f4.weak, rfl, trivial⟩
  ·have h5 : u 5 = _ := hR 5 (by kernel_rfl)
   clear hR k1 k0 kM
   simp only [h5]
   refine .inl ⟨by kernel_rfl, ?_⟩
   go_simp
   exact ⟨_, rfl, Fr.refl _ _, rfl, trivial⟩
 ·intro u w' hf hR kM
  have k6 : u 6 = _ := hR 6 (by omega)
  clear hR kM
  simp only [List.take_succ_cons, List.take_zero, List.map_cons, List.map_nil, puts, Act.put, List.setIfInBounds_toArray, List.set_cons_zero, List.set_cons_succ, List.drop_succ_cons, List.drop_zero, Nat.reduceAdd, Nat.zero_add, k6]
  have F2 := Lib.hid (F1.out.trans hf)
  have cl : w'.cell? ⟨g, 0, none⟩ = some (.pointer la) := F2.out.cellSome L0.out (fun x => x)
  have cr : w'.cell? ⟨g, 1, none⟩ = some (.pointer none) := F2.out.cellSome R0.out (fun x => x)
  clear hf k6
  go_wp2
  go_ret
  exact ⟨rfl, F2.out⟩
end Go.Proofs.YtpnchdgplpdefaaDoor
