/- State: the clock's name is valid: written by genSaD.py. -/
import Derived.Test.YtpnchdgplpdefaaGreatDoorEnSaA
namespace Go.Proofs.YtpnchdgplpdefaaGreatDoor
open Go.RowKit
def nameZ : Value := .agg #[.int .i64 0, .string ByteArray.empty, .int .i64 0, .int .i64 0, .string ByteArray.empty]
theorem zvName (w : World) : (zeroValue 44).run Tryz.prog w = .ok nameZ w := by kernel_rfl
theorem builtClock : Tryz.prog.built 44 [(0, .int .i64 15)] = some clockC := by kernel_rfl
theorem clock_one : clockC.all (·.oneCell') = true := by kernel_rfl
set_option maxRecDepth 100000 in
set_option maxHeartbeats 1000000 in
theorem OfClock_any (w : World) : Calls Tryz.prog 15 #[] w (Same' w (.agg clockC)) := by
 have B := Lib.hid builtClock
 have O := Lib.hid clock_one
 have I : Hid ((Tryz.prog.info? 44).map (·.size) = some clockC.size) := infoName
 have Z : Hid ((#[.int .i64 0, .string ByteArray.empty, .int .i64 0, .int .i64 0, .string ByteArray.empty] : Array Value).size = clockC.size) := rfl
 generalize clockC = CC at *
 go_enter Tryz.func15, Tryz.ntmps15
 go_wp2_with (refine wpList_allocBlk rfl 44 rfl nameZ zvName #[.int .i64 0, .string ByteArray.empty, .int .i64 0, .int .i64 0, .string ByteArray.empty] rfl ?_)
 intro w1 n1
 have N1 := Lib.hid n1
 clear n1
 go_wp2_with (refine wpList_built rfl 44 #[(0, .const (.int .i64 15))] rfl CC _ (by simp only [List.map_toArray, List.map_cons, List.map_nil]; rfl) B.out (Held.go ?hold))
 unfold Held
 refine wpList_storeBlk rfl 44 (.tmp 0) _ rfl w.heap.size CC rfl rfl _ _ N1.out.blk I.out Z.out O.out ?_
 intro wz b5 f5
 have J4 := Lib.hid b5
 have JF : Hid (Fr Nothing w wz) := N1.out.fr.then_ f5 (fun i hi e => by have e' : i = w.heap.size := e; omega)
 clear b5 f5
 go_wp2
 exact bodyPost_ret (results_cell_row (fn := Tryz.f15) (p := 0) (ty := 44) Tryz.results15 _ wz _ 44 CC (0, 0) _ rfl J4.out Tryz.underlying44 rfl I.out) rfl ⟨rfl, JF.out⟩
set_option maxRecDepth 100000 in
set_option maxHeartbeats 1000000 in
theorem find_none (n : NameV) (w : World) : Calls Tryz.prog 45 #[.pointer none, .agg n.cells.toArray] w (Same' w (.pointer none)) := by
 go_enter Tryz.func45, Tryz.ntmps45
 go_wp2_with (refine wpList_boxBlk rfl 44 (.tmp 1) rfl n.cells.toArray rfl ?_)
 intro w1 n1
 have F1 := Lib.hid n1.fr
 have NB0 := Lib.hid n1.blk
 clear n1
 generalize w.heap.size = gb at *
 have NB : Hid (Blk w1 gb 44 n.cells.toArray) := NB0.out
 clear NB0
 go_wp2
 refine wp_loop_rounds 1 ?_
 rw [rounds_succ]
 go_wp2
 go_ret
 exact ⟨rfl, F1.out⟩
set_option maxRecDepth 100000 in
set_option maxHeartbeats 1000000 in
theorem find_hit (n nm : NameV) (v : ByteArray) (l r : Tr) (g : Nat) (w : World) (hN : NodH w (some ⟨g, 0, none⟩) (.node l nm v r))
  (hC : ∀ w', Fr Nothing w w' → Calls Tryz.prog 32 #[.agg n.cells.toArray, .agg nm.cells.toArray] w' (Same' w' (.int .i64 0))) :
  Calls Tryz.prog 45 #[.pointer (some ⟨g, 0, none⟩), .agg n.cells.toArray] w (Same' w (.pointer (some ⟨g, 0, none⟩))) := by
 have CC := Lib.hid hC
 have HM0 := Lib.hid hN.mid
 clear hC hN
 go_enter Tryz.func45, Tryz.ntmps45
 go_wp2_with (refine wpList_boxBlk rfl 44 (.tmp 1) rfl n.cells.toArray rfl ?_)
 intro w1 n1
 have F1 := Lib.hid n1.fr
 have NB0 := Lib.hid n1.blk
 clear n1
 generalize w.heap.size = gb at *
 have NB : Hid (Blk w1 gb 44 n.cells.toArray) := NB0.out
 clear NB0
 have HM := Lib.hid (HM0.out.fr0 F1.out)
 go_wp2
 refine wp_loop_rounds 1 ?_
 rw [rounds_succ]
 go_upto_region 2 with fail
 refine wp_region_st 7 Nothing [Is (.agg n.cells.toArray), Is (.pointer (some ⟨g, 0, none⟩)), Is (.pointer (some ⟨g, 0, none⟩)), Is (.pointer (some ⟨g, 2, none⟩)), Is (.agg nm.cells.toArray), Is (.int .i64 0), Is (.int .i64 0)] [] (fun _ => True) (fun _ _ => false) (by kernel_rfl) (by kernel_rfl) (by kernel_rfl) (by kernel_rfl) ⟨Is.stable _, Is.stable _, Is.stable _, Is.stable _, Is.stable _, Is.stable _, Is.stable _, trivial⟩ trivial (fun _ _ _ _ h => h) trivial ?_ ?_
 ·refine ⟨fun u w' d hf hR k1 k0 kM => ?_, fun u w' d hf hR k1 k0 kM => ?_, fun u w' d hf hR k1 k0 kM => ?_, fun u w' d hf hR k1 k0 kM => ?_, fun u w' d hf hR k1 k0 kM => ?_, fun u w' d hf hR k1 k0 kM => ?_, fun u w' d hf hR k1 k0 kM => ?_, trivial⟩
  all_goals simp only [List.take_succ_cons, List.take_zero, List.map_cons, List.map_nil, puts, Act.put, List.setIfInBounds_toArray, List.set_cons_zero, List.set_cons_succ, Nat.reduceAdd, Nat.zero_add]
  ·clear hR k1 k0 kM
   refine .inl ⟨by kernel_rfl, ?_⟩
   exact wp_load_add _ _ rfl ⟨gb, 0, none⟩ rfl n.cells _ (fun j x hx => by rw [Addr.add_mid, Nat.zero_add]; exact (NB.out.fr hf (fun x => x)).cell j |>.trans (by rw [List.getElem?_toArray]; exact hx)) Tryz.underlying44 rfl infoName ⟨_, rfl, Fr.refl _ _, rfl, trivial⟩
  ·clear hR k1 k0 kM
   refine .inl ⟨by kernel_rfl, ?_⟩
   go_simp
   exact ⟨_, rfl, Fr.refl _ _, rfl, trivial⟩
  ·have h1 : u 1 = _ := hR 1 (by kernel_rfl)
   clear hR k1 k0 kM
   simp only [h1]
   refine .inl ⟨by kernel_rfl, ?_⟩
   go_simp
   exact ⟨_, rfl, Fr.refl _ _, rfl, trivial⟩
  ·have h2 : u 2 = _ := hR 2 (by kernel_rfl)
   clear hR k1 k0 kM
   simp only [h2]
   refine .inl ⟨by kernel_rfl, ?_⟩
   go_simp
   exact ⟨_, rfl, Fr.refl _ _, rfl, trivial⟩
  ·have h3 : u 3 = _ := hR 3 (by kernel_rfl)
   clear hR k1 k0 kM
   simp only [h3]
   refine .inl ⟨by kernel_rfl, ?_⟩
   exact wp_load_add _ _ rfl ⟨g, 2, none⟩ rfl nm.cells _ (fun j x hx => by rw [Addr.add_mid]; exact hf.cellSome (HM.out.name j x hx) (fun x => x)) Tryz.underlying44 rfl infoName ⟨_, rfl, Fr.refl _ _, rfl, trivial⟩
  ·have h0 : u 0 = _ := hR 0 (by kernel_rfl)
   have h4 : u 4 = _ := hR 4 (by kernel_rfl)
   clear hR k1 k0 kM
   simp only [h0, h4]
   refine .inl ⟨by kernel_rfl, ?_⟩
   go_simp
   refine (CC.out _ (F1.out.trans hf)).mono ?_
   rintro e w4 ⟨rfl, f4⟩
   exact ⟨_, rfl, f4.weak, rfl, trivial⟩
  ·have h5 : u 5 = _ := hR 5 (by kernel_rfl)
   clear hR k1 k0 kM
   simp only [h5]
   refine .inl ⟨by kernel_rfl, ?_⟩
   go_simp
   exact ⟨_, rfl, Fr.refl _ _, rfl, trivial⟩
 ·intro u w' hf hR kM
  have k6 : u 6 = _ := hR 6 (by omega)
  clear hR kM
  simp only [List.take_succ_cons, List.take_zero, List.map_cons, List.map_nil, puts, Act.put, List.setIfInBounds_toArray, List.set_cons_zero, List.set_cons_succ, List.drop_succ_cons, List.drop_zero, Nat.reduceAdd, Nat.zero_add, k6]
  have F2 := Lib.hid (F1.out.trans hf)
  clear hf k6
  go_wp2
  go_ret
  exact ⟨rfl, F2.out⟩
set_option maxRecDepth 100000 in
set_option maxHeartbeats 1000000 in
theorem with_leaf (nm : NameV) (v : ByteArray) (g : Nat) (w : World) (hM : Mid w g nm v) (hv : v.size ≤ 1099511627776) :
  Calls Tryz.prog 46 #[.pointer none, .pointer (some ⟨g, 0, none⟩)] w (fun e w' => ∃ a, e = .returned (.pointer a) ∧ NodH w' a (.node .leaf nm v .leaf) ∧ Fr Nothing w w') := by
 have CJ := Lib.hid (join_any w none none .leaf .leaf g nm v rfl rfl hM (by simp [Tr.size]) (by simp only [Tr.bytes]; omega))
 clear hM
 go_enter Tryz.func46, Tryz.ntmps46
 go_wp2_with fail
 refine CJ.out.mono ?_
 rintro e w1 ⟨a, rfl, h1, f1⟩
 have H1 := Lib.hid h1
 have F1 := Lib.hid f1
 clear h1 f1
 go_wp2
 go_ret
 exact ⟨_, rfl, H1.out, F1.out⟩
set_option maxRecDepth 100000 in
set_option maxHeartbeats 1000000 in
theorem without_hit (n nm : NameV) (v : ByteArray) (l : Tr) (g : Nat) (la : Option Addr) (w : World) (hB : Blk w g 69 (nodeC la none (.node l nm v .leaf)).toArray)
  (hC : ∀ w', Fr Nothing w w' → Calls Tryz.prog 32 #[.agg n.cells.toArray, .agg nm.cells.toArray] w' (Same' w' (.int .i64 0))) :
  Calls Tryz.prog 47 #[.pointer (some ⟨g, 0, none⟩), .agg n.cells.toArray] w (Same' w (.pointer la)) := by
 have CC := Lib.hid hC
 have HM0 : Hid (Mid w g nm v) := Mid.of hB
 have L0 : Hid (w.cell? ⟨g, 0, none⟩ = some (.pointer la)) := hB.cell 0
 have R0 : Hid (w.cell? ⟨g, 1, none⟩ = some (.pointer none)) := hB.cell 1
 clear hC hB
 go_enter Tryz.func47, Tryz.ntmps47
 go_wp2_with (refine wpList_boxBlk rfl 44 (.tmp 1) rfl n.cells.toArray rfl ?_)
 intro w1 n1
 have F1 := Lib.hid n1.fr
 have NB0 := Lib.hid n1.blk
 clear n1
 generalize w.heap.size = gb at *
 have NB : Hid (Blk w1 gb 44 n.cells.toArray) := NB0.out
 clear NB0
 have HM := Lib.hid (HM0.out.fr0 F1.out)
 go_upto_region 1 with fail
 refine wp_region_st 7 Nothing [Is (.agg n.cells.toArray), Is (.pointer (some ⟨g, 0, none⟩)), Is (.pointer (some ⟨g, 0, none⟩)), Is (.pointer (some ⟨g, 2, none⟩)), Is (.agg nm.cells.toArray), Is (.int .i64 0), Is (.int .i64 0)] [] (fun _ => True) (fun _ _ => false) (by kernel_rfl) (by kernel_rfl) (by kernel_rfl) (by kernel_rfl) ⟨Is.stable _, Is.stable _, Is.stable _, Is.stable _, Is.stable _, Is.stable _, Is.stable _, trivial⟩ trivial (fun _ _ _ _ h => h) trivial ?_ ?_
 ·refine ⟨fun u w' d hf hR k1 k0 kM => ?_, fun u w' d hf hR k1 k0 kM => ?_, fun u w' d hf hR k1 k0 kM => ?_, fun u w' d hf hR k1 k0 kM => ?_, fun u w' d hf hR k1 k0 kM => ?_, fun u w' d hf hR k1 k0 kM => ?_, fun u w' d hf hR k1 k0 kM => ?_, trivial⟩
  all_goals simp only [List.take_succ_cons, List.take_zero, List.map_cons, List.map_nil, puts, Act.put, List.setIfInBounds_toArray, List.set_cons_zero, List.set_cons_succ, Nat.reduceAdd, Nat.zero_add]
  ·clear hR k1 k0 kM
   refine .inl ⟨by kernel_rfl, ?_⟩
   exact wp_load_add _ _ rfl ⟨gb, 0, none⟩ rfl n.cells _ (fun j x hx => by rw [Addr.add_mid, Nat.zero_add]; exact (NB.out.fr hf (fun x => x)).cell j |>.trans (by rw [List.getElem?_toArray]; exact hx)) Tryz.underlying44 rfl infoName ⟨_, rfl, Fr.refl _ _, rfl, trivial⟩
  ·clear hR k1 k0 kM
   refine .inl ⟨by kernel_rfl, ?_⟩
   go_simp
   exact ⟨_, rfl, Fr.refl _ _, rfl, trivial⟩
  ·have h1 : u 1 = _ := hR 1 (by kernel_rfl)
   clear hR k1 k0 kM
   simp only [h1]
   refine .inl ⟨by kernel_rfl, ?_⟩
   go_simp
   exact ⟨_, rfl, Fr.refl _ _, rfl, trivial⟩
  ·have h2 : u 2 = _ := hR 2 (by kernel_rfl)
   clear hR k1 k0 kM
   simp only [h2]
   refine .inl ⟨by kernel_rfl, ?_⟩
   go_simp
   exact ⟨_, rfl, Fr.refl _ _, rfl, trivial⟩
  ·have h3 : u 3 = _ := hR 3 (by kernel_rfl)
   clear hR k1 k0 kM
   simp only [h3]
   refine .inl ⟨by kernel_rfl, ?_⟩
   exact wp_load_add _ _ rfl ⟨g, 2, none⟩ rfl nm.cells _ (fun j x hx => by rw [Addr.add_mid]; exact hf.cellSome (HM.out.name j x hx) (fun x => x)) Tryz.underlying44 rfl infoName ⟨_, rfl, Fr.refl _ _, rfl, trivial⟩
  ·have h0 : u 0 = _ := hR 0 (by kernel_rfl)
   have h4 : u 4 = _ := hR 4 (by kernel_rfl)
   clear hR k1 k0 kM
   simp only [h0, h4]
   refine .inl ⟨by kernel_rfl, ?_⟩
   go_simp
   refine (CC.out _ (F1.out.trans hf)).mono ?_
   rintro e w4 ⟨rfl, f4⟩
   exact ⟨_, rfl, f4.weak, rfl, trivial⟩
  ·have h5 : u 5 = _ := hR 5 (by kernel_rfl)
   clear hR k1 k0 kM
   simp only [h5]
   refine .inl ⟨by kernel_rfl, ?_⟩
   go_simp
   exact ⟨_, rfl, Fr.refl _ _, rfl, trivial⟩
 ·intro u w' hf hR kM
  have k6 : u 6 = _ := hR 6 (by omega)
  clear hR kM
  simp only [List.take_succ_cons, List.take_zero, List.map_cons, List.map_nil, puts, Act.put, List.setIfInBounds_toArray, List.set_cons_zero, List.set_cons_succ, List.drop_succ_cons, List.drop_zero, Nat.reduceAdd, Nat.zero_add, k6]
  have F2 := Lib.hid (F1.out.trans hf)
  have cl : w'.cell? ⟨g, 0, none⟩ = some (.pointer la) := F2.out.cellSome L0.out (fun x => x)
  have cr : w'.cell? ⟨g, 1, none⟩ = some (.pointer none) := F2.out.cellSome R0.out (fun x => x)
  clear hf k6
  go_wp2
  go_ret
  exact ⟨rfl, F2.out⟩
end Go.Proofs.YtpnchdgplpdefaaGreatDoor
namespace Go.Proofs.YtpnchdgplpdefaaGreatDoor
open Go.RowKit
def str (l : List UInt8) : ByteArray := ⟨l.toArray⟩
structure Usa where
 word : ByteArray
 owner : Bool
 number : Bool
 index : Bool
 text : Bool
 most : Int
def Usa.cells (u : Usa) : List Value := [.string u.word, .bool u.owner, .bool u.number, .bool u.index, .bool u.text, .int .i64 u.most]
def usaL : List Usa := [
 ⟨str [], false, false, false, false, 0⟩,
 ⟨str [112, 114, 111, 99, 101, 115, 115], true, false, false, false, 0⟩,
 ⟨str [114, 101, 103, 105, 115, 116, 101, 114, 115], true, false, false, false, 0⟩,
 ⟨str [112, 97, 103, 101], true, false, true, false, 63⟩,
 ⟨str [116, 97, 98, 108, 101], true, false, false, false, 0⟩,
 ⟨str [99, 111, 117, 110, 116, 101, 114], true, false, false, false, 0⟩,
 ⟨str [112, 101, 110, 100, 105, 110, 103], true, false, false, false, 0⟩,
 ⟨str [110, 111, 100, 101], true, true, false, false, 0⟩,
 ⟨str [98, 108, 111, 99, 107], true, true, true, false, 63⟩,
 ⟨str [101, 110, 116, 114, 121], true, true, false, true, 0⟩,
 ⟨str [108, 105, 115, 116, 105, 110, 103], true, true, false, false, 0⟩,
 ⟨str [112, 105, 112, 101], true, true, false, false, 0⟩,
 ⟨str [108, 111, 99, 107], true, true, false, false, 0⟩,
 ⟨str [116, 101, 114, 109, 105, 110, 97, 108], false, true, false, false, 0⟩,
 ⟨str [97, 99, 99, 111, 117, 110, 116], false, false, false, true, 0⟩,
 ⟨str [99, 108, 111, 99, 107], false, false, false, false, 0⟩,
 ⟨str [112, 111, 114, 116], false, true, false, false, 0⟩,
 ⟨str [98, 111, 120], false, false, false, true, 0⟩,
 ⟨str [111, 117, 116], true, true, true, false, 1073741824⟩,
 ⟨str [115, 104, 101, 108, 108], true, false, false, false, 0⟩,
 ⟨str [101, 112, 111, 99, 104], false, false, false, false, 0⟩]
def usaClock : List Value := [.string (str [99, 108, 111, 99, 107]), .bool false, .bool false, .bool false, .bool false, .int .i64 0]
structure UsaT (w : World) : Prop where
 row : ∀ k u, usaL[k]? = some u → ∀ j v, u.cells[j]? = some v → w.cell? ⟨0, k * 6 + j, none⟩ = some v
theorem UsaT.fr0 {w w' : World} (h : UsaT w) (hf : Fr Nothing w w') : UsaT w' := ⟨fun k u hk j v hv => hf.cellSome (h.row k u hk j v hv) (fun x => x)⟩
theorem UsaT.clock {w : World} (h : UsaT w) : ∀ j v, usaClock[j]? = some v → w.cell? ⟨0, 90 + j, none⟩ = some v := fun j v hv => h.row 15 _ rfl j v hv
theorem isKind_clock (w : World) : Calls Tryz.prog 76 #[.int .i64 15] w (SameW w (.bool true)) := by
 go_enter Tryz.func76, Tryz.ntmps76
 go_wp2
 go_ret
 exact ⟨rfl, rfl⟩
def usaZ : Value := .agg #[.string ByteArray.empty, .bool false, .bool false, .bool false, .bool false, .int .i64 0]
theorem zvUsage (w : World) : (zeroValue 112).run Tryz.prog w = .ok usaZ w := by kernel_rfl
theorem infoUsage : (Tryz.prog.info? 112).map (·.size) = some 6 := by kernel_rfl
theorem usa_one : usaClock.toArray.all (·.oneCell') = true := by kernel_rfl
set_option maxRecDepth 100000 in
set_option maxHeartbeats 1000000 in
theorem Check_clock (w : World) (hU : UsaT w) : Calls Tryz.prog 44 #[.agg clockC] w (Same' w (.int .i64 0)) := by
 have HU := Lib.hid hU
 have CK := Lib.hid isKind_clock
 have O := Lib.hid usa_one
 clear hU
 go_enter Tryz.func44, Tryz.ntmps44
 go_wp2_with (refine wpList_boxBlk rfl 44 (.tmp 0) rfl clockC rfl ?_)
 intro w1 n1
 have F1 := Lib.hid n1.fr
 have NB0 := Lib.hid n1.blk
 clear n1
 generalize w.heap.size = gb at *
 have NB : Hid (Blk w1 gb 44 clockC) := NB0.out
 clear NB0
 have c0 : w1.cell? ⟨gb, 0, none⟩ = some (.int .i64 15) := NB.out.cell 0
 go_wp2_with fail
 refine (CK.out _).mono ?_
 rintro e w' ⟨rfl, rfl⟩
 go_wp2_with (refine wpList_load_add rfl 112 (.tmp 10) rfl ⟨0, 90, none⟩ rfl usaClock _ ?hcc Tryz.underlying112 rfl infoUsage (Held.go ?hold))
 case hcc => exact fun j x hx => by rw [Addr.add_mid]; exact F1.out.cellSome (HU.out.clock j x hx) (fun x => x)
 unfold Held
 go_wp2_with (refine wpList_allocBlk rfl 112 rfl usaZ zvUsage #[.string ByteArray.empty, .bool false, .bool false, .bool false, .bool false, .int .i64 0] rfl ?_)
 intro w2 n2
 have N2 := Lib.hid n2
 clear n2
 generalize hgu : w1.heap.size = gu at *
 have HGU := Lib.hid hgu
 clear hgu
 have U2 : Hid (Blk w2 gu 112 #[.string ByteArray.empty, .bool false, .bool false, .bool false, .bool false, .int .i64 0]) := by have h := N2.out.blk; rw [HGU.out] at h; exact h
 go_wp2_with (refine wpList_storeBlk rfl 112 (.tmp 3) _ rfl gu usaClock.toArray rfl rfl _ _ U2.out infoUsage rfl O.out ?_)
 intro w3 b3 f3
 have B3 := Lib.hid b3
 have F13 : Hid (Fr Nothing w1 w3) := N2.out.fr.then_ f3 (fun i hi e => by have e' : i = gu := e; have := HGU.out; omega)
 have F3 := Lib.hid (F1.out.trans F13.out)
 have u1 : w3.cell? ⟨gu, 1, none⟩ = some (.bool false) := B3.out.cell 1
 have u2 : w3.cell? ⟨gu, 2, none⟩ = some (.bool false) := B3.out.cell 2
 have u3 : w3.cell? ⟨gu, 3, none⟩ = some (.bool false) := B3.out.cell 3
 have u4 : w3.cell? ⟨gu, 4, none⟩ = some (.bool false) := B3.out.cell 4
 have u5 : w3.cell? ⟨gu, 5, none⟩ = some (.int .i64 0) := B3.out.cell 5
 have NB3 := Lib.hid (NB.out.fr F13.out (fun x => x))
 have n1 : w3.cell? ⟨gb, 1, none⟩ = some (.string ByteArray.empty) := NB3.out.cell 1
 have n2 : w3.cell? ⟨gb, 2, none⟩ = some (.int .i64 0) := NB3.out.cell 2
 have n3 : w3.cell? ⟨gb, 3, none⟩ = some (.int .i64 0) := NB3.out.cell 3
 have n4 : w3.cell? ⟨gb, 4, none⟩ = some (.string ByteArray.empty) := NB3.out.cell 4
 clear b3 f3 N2 HGU U2 F13 c0 NB F1
 go_wp2
 go_ret
 exact ⟨rfl, F3.out⟩
end Go.Proofs.YtpnchdgplpdefaaGreatDoor
