/- State: OfClock; find, with, without at the smallest trees: written by genSaC.py. -/
import Derived.Test.YtpnchdgplpdefaaDoorLmSaB
namespace Go.Proofs.YtpnchdgplpdefaaDoor
open Go.RowKit
def nameZ : Value := .agg #[.int .i64 0, .string ByteArray.empty, .int .i64 0, .int .i64 0, .string ByteArray.empty]
theorem zvName (w : World) : (zeroValue 36).run Tryd.prog w = .ok nameZ w := by kernel_rfl
theorem builtClock : Tryd.prog.built 36 [(0, .int .i64 15)] = some clockC := by kernel_rfl
theorem clock_one : clockC.all (·.oneCell') = true := by kernel_rfl
set_option maxRecDepth 100000 in
set_option maxHeartbeats 1000000 in
theorem OfClock_any (w : World) : Calls Tryd.prog 37 #[] w (Same' w (.agg clockC)) := by
 have B := Lib.hid builtClock
 have O := Lib.hid clock_one
 have I : Hid ((Tryd.prog.info? 36).map (·.size) = some clockC.size) := infoName
 have Z : Hid ((#[.int .i64 0, .string ByteArray.empty, .int .i64 0, .int .i64 0, .string ByteArray.empty] : Array Value).size = clockC.size) := rfl
 generalize clockC = CC at *
 go_enter Tryd.func37, Tryd.ntmps37
 go_wp2_with (refine wpList_allocBlk rfl 36 rfl nameZ zvName #[.int .i64 0, .string ByteArray.empty, .int .i64 0, .int .i64 0, .string ByteArray.empty] rfl ?_)
 intro w1 n1
 have N1 := Lib.hid n1
 clear n1
 go_wp2_with (refine wpList_built rfl 36 #[(0, .const (.int .i64 15))] rfl CC _ (by simp only [List.map_toArray, List.map_cons, List.map_nil]; rfl) B.out (Held.go ?hold))
 unfold Held
 refine wpList_storeBlk rfl 36 (.tmp 0) _ rfl w.heap.size CC rfl rfl _ _ N1.out.blk I.out Z.out O.out ?_
 intro wz b5 f5
 have J4 := Lib.hid b5
 have JF : Hid (Fr Nothing w wz) := N1.out.fr.then_ f5 (fun i hi e => by have e' : i = w.heap.size := e; omega)
 clear b5 f5
 go_wp2
 exact bodyPost_ret (results_cell_row (fn := Tryd.f37) (p := 0) (ty := 36) Tryd.results37 _ wz _ 36 CC (0, 0) _ rfl J4.out Tryd.underlying36 rfl I.out) rfl ⟨rfl, JF.out⟩
set_option maxRecDepth 100000 in
set_option maxHeartbeats 1000000 in
theorem find_none (n : NameV) (w : World) : Calls Tryd.prog 41 #[.pointer none, .agg n.cells.toArray] w (Same' w (.pointer none)) := by
 go_enter Tryd.func41, Tryd.ntmps41
 go_wp2_with (refine wpList_boxBlk rfl 36 (.tmp 1) rfl n.cells.toArray rfl ?_)
 intro w1 n1
 have F1 := Lib.hid n1.fr
 have NB0 := Lib.hid n1.blk
 clear n1
 generalize w.heap.size = gb at *
 have NB : Hid (Blk w1 gb 36 n.cells.toArray) := NB0.out
 clear NB0
 go_wp2
 refine wp_loop_rounds 1 ?_
 rw [rounds_succ]
 go_wp2
 go_ret
 exact ⟨rfl, F1.out⟩
set_option maxRecDepth 100000 in
set_option maxHeartbeats 1000000 in
theorem find_hit (n nm : NameV) (v : ByteArray) (l r : Tr) (g : Nat) (w : World) (hN : NodH w (some ⟨g, 0, none⟩) (.node l nm v r))
  (hC : ∀ w', Fr Nothing w w' → Calls Tryd.prog 45 #[.agg n.cells.toArray, .agg nm.cells.toArray] w' (Same' w' (.int .i64 0))) :
  Calls Tryd.prog 41 #[.pointer (some ⟨g, 0, none⟩), .agg n.cells.toArray] w (Same' w (.pointer (some ⟨g, 0, none⟩))) := by
 have CC := Lib.hid hC
 have HM0 := Lib.hid hN.mid
 clear hC hN
 go_enter Tryd.func41, Tryd.ntmps41
 go_wp2_with (refine wpList_boxBlk rfl 36 (.tmp 1) rfl n.cells.toArray rfl ?_)
 intro w1 n1
 have F1 := Lib.hid n1.fr
 have NB0 := Lib.hid n1.blk
 clear n1
 generalize w.heap.size = gb at *
 have NB : Hid (Blk w1 gb 36 n.cells.toArray) := NB0.out
 clear NB0
 have HM := Lib.hid (HM0.out.fr0 F1.out)
 go_wp2
 refine wp_loop_rounds 1 ?_
 rw [rounds_succ]
 go_upto_region 2 with fail
 refine wp_region_st 7 Nothing [Is (.agg n.cells.toArray), Is (.pointer (some ⟨g, 0, none⟩)), Is (.pointer (some ⟨g, 0, none⟩)), Is (.pointer (some ⟨g, 2, none⟩)), Is (.agg nm.cells.toArray), Is (.int .i64 0), Is (.int .i64 0)] [] (fun _ => True) (fun _ _ => false) (by kernel_rfl) (by kernel_rfl) (by kernel_rfl) (by kernel_rfl) ⟨Is.stable _, Is.stable _, Is.stable _, Is.stable _, Is.stable _, Is.stable _, Is.stable _, trivial⟩ trivial (fun _ _ _ _ h => h) trivial ?_ ?_
 ·refine ⟨fun u w' d hf hR k1 k0 kM => ?_, fun u w' d hf hR k1 k0 kM => ?_, fun u w' d hf hR k1 k0 kM => ?_, fun u w' d hf hR k1 k0 kM => ?_, fun u w' d hf hR k1 k0 kM => ?_, fun u w' d hf hR k1 k0 kM => ?_, fun u w' d hf hR k1 k0 kM => ?_, trivial⟩
  all_goals simp only [List.take_succ_cons, List.take_zero, List.map_cons, List.map_nil, puts, Act.put, List.setIfInBounds_toArray, List.set_cons_zero, List.set_cons_succ, Nat.reduceAdd, Nat.zero_add]
  ·clear hR k1 k0 kM
   refine .inl ⟨by kernel_rfl, ?_⟩
   exact wp_load_add _ _ rfl ⟨gb, 0, none⟩ rfl n.cells _ (fun j x hx => by rw [Addr.add_mid, Nat.zero_add]; exact (NB.out.fr hf (fun x => x)).cell j |>.trans (by rw [List.getElem?_toArray]; exact hx)) Tryd.underlying36 rfl infoName ⟨_, rfl, Fr.refl _ _, rfl, trivial⟩
  ·clear hR k1 k0 kM
   refine .inl ⟨by kernel_rfl, ?_⟩
   go_simp
   exact ⟨_, rfl, Fr.refl _ _, rfl, trivial⟩
  ·have h1 : u 1 = _ := hR 1 (by kernel_rfl)
   clear hR k1 k0 kM
   simp only [h1]
   refine .inl ⟨by kernel_rfl, ?_⟩
   go_simp
   exact ⟨_, rfl, Fr.refl _ _, rfl, trivial⟩
  ·have h2 : u 2 = _ := hR 2 (by kernel_rfl)
   clear hR k1 k0 kM
   simp only [h2]
   refine .inl ⟨by kernel_rfl, ?_⟩
   go_simp
   exact ⟨_, rfl, Fr.refl _ _, rfl, trivial⟩
  ·have h3 : u 3 = _ := hR 3 (by kernel_rfl)
   clear hR k1 k0 kM
   simp only [h3]
   refine .inl ⟨by kernel_rfl, ?_⟩
   exact wp_load_add _ _ rfl ⟨g, 2, none⟩ rfl nm.cells _ (fun j x hx => by rw [Addr.add_mid]; exact hf.cellSome (HM.out.name j x hx) (fun x => x)) Tryd.underlying36 rfl infoName ⟨_, rfl, Fr.refl _ _, rfl, trivial⟩
  ·have h0 : u 0 = _ := hR 0 (by kernel_rfl)
   have h4 : u 4 = _ := hR 4 (by kernel_rfl)
   clear hR k1 k0 kM
   simp only [h0, h4]
   refine .inl ⟨by kernel_rfl, ?_⟩
   go_simp
   refine (CC.out _ (F1.out.trans hf)).mono ?_
   rintro e w4 ⟨rfl, f4⟩
   exact ⟨_, rfl, f4.weak, rfl, trivial⟩
  ·have h5 : u 5 = _ := hR 5 (by kernel_rfl)
   clear hR k1 k0 kM
   simp only [h5]
   refine .inl ⟨by kernel_rfl, ?_⟩
   go_simp
   exact ⟨_, rfl, Fr.refl _ _, rfl, trivial⟩
 ·intro u w' hf hR kM
  have k6 : u 6 = _ := hR 6 (by omega)
  clear hR kM
  simp only [List.take_succ_cons, List.take_zero, List.map_cons, List.map_nil, puts, Act.put, List.setIfInBounds_toArray, List.set_cons_zero, List.set_cons_succ, List.drop_succ_cons, List.drop_zero, Nat.reduceAdd, Nat.zero_add, k6]
  have F2 := Lib.hid (F1.out.trans hf)
  clear hf k6
  go_wp2
  go_ret
  exact ⟨rfl, F2.out⟩
set_option maxRecDepth 100000 in
set_option maxHeartbeats 1000000 in
theorem with_leaf (nm : NameV) (v : ByteArray) (g : Nat) (w : World) (hM : Mid w g nm v) (hv : v.size ≤ 1099511627776) :
  Calls Tryd.prog 58 #[.pointer none, .pointer (some ⟨g, 0, none⟩)] w (fun e w' => ∃ a, e = .returned (.pointer a) ∧ NodH w' a (.node .leaf nm v .leaf) ∧ Fr Nothing w w') := by
 have CJ := Lib.hid (join_any w none none .leaf .leaf g nm v rfl rfl hM (by simp [Tr.size]) (by simp only [Tr.bytes]; omega))
 clear hM
 go_enter Tryd.func58, Tryd.ntmps58
 go_wp2_with fail
 refine CJ.out.mono ?_
 rintro e w1 ⟨a, rfl, h1, f1⟩
 have H1 := Lib.hid h1
 have F1 := Lib.hid f1
 clear h1 f1
 go_wp2
 go_ret
 exact ⟨_, rfl, H1.out, F1.out⟩
set_option maxRecDepth 100000 in
set_option maxHeartbeats 1000000 in
theorem without_hit (n nm : NameV) (v : ByteArray) (l : Tr) (g : Nat) (la : Option Addr) (w : World) (hB : Blk w g 89 (nodeC la none (.node l nm v .leaf)).toArray)
  (hC : ∀ w', Fr Nothing w w' → Calls Tryd.prog 45 #[.agg n.cells.toArray, .agg nm.cells.toArray] w' (Same' w' (.int .i64 0))) :
  Calls Tryd.prog 59 #[.pointer (some ⟨g, 0, none⟩), .agg n.cells.toArray] w (Same' w (.pointer la)) := by
 have CC := Lib.hid hC
 have HM0 : Hid (Mid w g nm v) := Mid.of hB
 have L0 : Hid (w.cell? ⟨g, 0, none⟩ = some (.pointer la)) := hB.cell 0
 have R0 : Hid (w.cell? ⟨g, 1, none⟩ = some (.pointer none)) := hB.cell 1
 clear hC hB
 go_enter Tryd.func59, Tryd.ntmps59
 go_wp2_with (refine wpList_boxBlk rfl 36 (.tmp 1) rfl n.cells.toArray rfl ?_)
 intro w1 n1
 have F1 := Lib.hid n1.fr
 have NB0 := Lib.hid n1.blk
 clear n1
 generalize w.heap.size = gb at *
 have NB : Hid (Blk w1 gb 36 n.cells.toArray) := NB0.out
 clear NB0
 have HM := Lib.hid (HM0.out.fr0 F1.out)
 go_upto_region 1 with fail
 refine wp_region_st 7 Nothing [Is (.agg n.cells.toArray), Is (.pointer (some ⟨g, 0, none⟩)), Is (.pointer (some ⟨g, 0, none⟩)), Is (.pointer (some ⟨g, 2, none⟩)), Is (.agg nm.cells.toArray), Is (.int .i64 0), Is (.int .i64 0)] [] (fun _ => True) (fun _ _ => false) (by kernel_rfl) (by kernel_rfl) (by kernel_rfl) (by kernel_rfl) ⟨Is.stable _, Is.stable _, Is.stable _, Is.stable _, Is.stable _, Is.stable _, Is.stable _, trivial⟩ trivial (fun _ _ _ _ h => h) trivial ?_ ?_
 ·refine ⟨fun u w' d hf hR k1 k0 kM => ?_, fun u w' d hf hR k1 k0 kM => ?_, fun u w' d hf hR k1 k0 kM => ?_, fun u w' d hf hR k1 k0 kM => ?_, fun u w' d hf hR k1 k0 kM => ?_, fun u w' d hf hR k1 k0 kM => ?_, fun u w' d hf hR k1 k0 kM => ?_, trivial⟩
  all_goals simp only [List.take_succ_cons, List.take_zero, List.map_cons, List.map_nil, puts, Act.put, List.setIfInBounds_toArray, List.set_cons_zero, List.set_cons_succ, Nat.reduceAdd, Nat.zero_add]
  ·clear hR k1 k0 kM
   refine .inl ⟨by kernel_rfl, ?_⟩
   exact wp_load_add _ _ rfl ⟨gb, 0, none⟩ rfl n.cells _ (fun j x hx => by rw [Addr.add_mid, Nat.zero_add]; exact (NB.out.fr hf (fun x => x)).cell j |>.trans (by rw [List.getElem?_toArray]; exact hx)) Tryd.underlying36 rfl infoName ⟨_, rfl, Fr.refl _ _, rfl, trivial⟩
  ·clear hR k1 k0 kM
   refine .inl ⟨by kernel_rfl, ?_⟩
   go_simp
   exact ⟨_, rfl, Fr.refl _ _, rfl, trivial⟩
  ·have h1 : u 1 = _ := hR 1 (by kernel_rfl)
   clear hR k1 k0 kM
   simp only [h1]
   refine .inl ⟨by kernel_rfl, ?_⟩
   go_simp
   exact ⟨_, rfl, Fr.refl _ _, rfl, trivial⟩
  ·have h2 : u 2 = _ := hR 2 (by kernel_rfl)
   clear hR k1 k0 kM
   simp only [h2]
   refine .inl ⟨by kernel_rfl, ?_⟩
   go_simp
   exact ⟨_, rfl, Fr.refl _ _, rfl, trivial⟩
  ·have h3 : u 3 = _ := hR 3 (by kernel_rfl)
   clear hR k1 k0 kM
   simp only [h3]
   refine .inl ⟨by kernel_rfl, ?_⟩
   exact wp_load_add _ _ rfl ⟨g, 2, none⟩ rfl nm.cells _ (fun j x hx => by rw [Addr.add_mid]; exact hf.cellSome (HM.out.name j x hx) (fun x => x)) Tryd.underlying36 rfl infoName ⟨_, rfl, Fr.refl _ _, rfl, trivial⟩
  ·have h0 : u 0 = _ := hR 0 (by kernel_rfl)
   have h4 : u 4 = _ := hR 4 (by kernel_rfl)
   clear hR k1 k0 kM
   simp only [h0, h4]
   refine .inl ⟨by kernel_rfl, ?_⟩
   go_simp
   refine (CC.out _ (F1.out.trans hf)).mono ?_
   rintro e w4 ⟨rfl, f4⟩
   exact ⟨_, rfl, f4.weak, rfl, trivial⟩
  ·have h5 : u 5 = _ := hR 5 (by kernel_rfl)
   clear hR k1 k0 kM
   simp only [h5]
   refine .inl ⟨by kernel_rfl, ?_⟩
   go_simp
   exact ⟨_, rfl, Fr.refl _ _, rfl, trivial⟩
 ·intro u w' hf hR kM
  have k6 : u 6 = _ := hR 6 (by omega)
  clear hR kM
  simp only [List.take_succ_cons, List.take_zero, List.map_cons, List.map_nil, puts, Act.put, List.setIfInBounds_toArray, List.set_cons_zero, List.set_cons_succ, List.drop_succ_cons, List.drop_zero, Nat.reduceAdd, Nat.zero_add, k6]
  have F2 := Lib.hid (F1.out.trans hf)
  have cl : w'.cell? ⟨g, 0, none⟩ = some (.pointer la) := F2.out.cellSome L0.out (fun x => x)
  have cr : w'.cell? ⟨g, 1, none⟩ = some (.pointer none) := F2.out.cellSome R0.out (fun x => x)
  clear hf k6
  go_wp2
  go_ret
  exact ⟨rfl, F2.out⟩
end Go.Proofs.YtpnchdgplpdefaaDoor
