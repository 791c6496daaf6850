/- State: New, Len, Bytes, Get, With, Without at the clock: written by genSaE.py. -/
import Derived.Test.YtpnchdgplpdefaaGreatDoorEnSaC
namespace Go.Proofs.YtpnchdgplpdefaaGreatDoor
open Go.RowKit
def StH (w : World) (s : Nat) (t : Tr) : Prop := ∃ a, Blk w s 100 #[.pointer a] ∧ NodH w a t
theorem StH.fr0 {w w' : World} {s : Nat} {t : Tr} (h : StH w s t) (hf : Fr Nothing w w') : StH w' s t := by
 obtain ⟨a, h1, h2⟩ := h
 exact ⟨a, h1.fr hf (fun x => x), h2.fr0 hf⟩
theorem wp_builtA {P : Program} {o : Oper} {a : Act} {w : World} {K : Act → World → Prop} {Q : Exit → Act → World → Prop} (t : TypeId) (parts : Array (Nat × Operand)) (ho : o.op = .build t parts)
  (cells : Array Value) (vs : List (Nat × Value)) (hv : (parts.map fun (i, x) => (i, a.eval x)).toList = vs) (hf : P.built t vs = some cells) (h : K (a.put o.dst (.agg cells)) w) : o.wp P a w K Q := by
 subst hv
 exact wp_build t parts ho (by rw [hf]; rfl) (by rw [hf]; exact h)
set_option maxRecDepth 100000 in
theorem New_any (w : World) : Calls Tryz.prog 13 #[] w (fun e w' => ∃ s, e = .returned (.pointer (some ⟨s, 0, none⟩)) ∧ StH w' s .leaf ∧ Fr Nothing w w') := by
 go_enter Tryz.func13, Tryz.ntmps13
 go_wp2_with (refine wpList_boxBlk rfl 100 (.tmp 1) rfl #[.pointer none] rfl ?_)
 intro w1 n1
 have N1 := Lib.hid n1
 clear n1
 go_wp2
 go_ret
 exact ⟨_, rfl, ⟨none, N1.out.blk, rfl⟩, N1.out.fr⟩
set_option maxRecDepth 100000 in
theorem Len_any (w : World) (s : Nat) (t : Tr) (h : StH w s t) : Calls Tryz.prog 22 #[.pointer (some ⟨s, 0, none⟩)] w (SameW w (.int .i64 (t.size : Nat))) := by
 obtain ⟨a, hb, hn⟩ := h
 have CS := Lib.hid (sizeOf_any w a t hn)
 have c : w.cell? ⟨s, 0, none⟩ = some (.pointer a) := hb.cell 0
 clear hb hn
 go_enter Tryz.func22, Tryz.ntmps22
 go_wp2_with fail
 refine CS.out.mono ?_
 rintro e w' ⟨rfl, rfl⟩
 go_wp2
 go_ret
 exact ⟨rfl, rfl⟩
set_option maxRecDepth 100000 in
theorem Bytes_any (w : World) (s : Nat) (t : Tr) (h : StH w s t) : Calls Tryz.prog 39 #[.pointer (some ⟨s, 0, none⟩)] w (SameW w (.int .i64 (t.bytes : Nat))) := by
 obtain ⟨a, hb, hn⟩ := h
 have CS := Lib.hid (bytesOf_any w a t hn)
 have c : w.cell? ⟨s, 0, none⟩ = some (.pointer a) := hb.cell 0
 clear hb hn
 go_enter Tryz.func39, Tryz.ntmps39
 go_wp2_with fail
 refine CS.out.mono ?_
 rintro e w' ⟨rfl, rfl⟩
 go_wp2
 go_ret
 exact ⟨rfl, rfl⟩
theorem clockC_eq : clockC = clockN.cells.toArray := rfl
def node0 (v : ByteArray) : Array Value := ([Value.pointer none, Value.pointer none] ++ clockN.cells ++ [Value.string v, Value.int .i64 0, Value.int .i64 0, Value.int .i64 0]).toArray
set_option maxRecDepth 100000 in
theorem built_node0 (v : ByteArray) : Tryz.prog.built 69 [(2, .agg clockC), (3, .string v)] = some (node0 v) := by kernel_rfl
set_option maxRecDepth 100000 in
set_option maxHeartbeats 2000000 in
theorem With_clock (v : ByteArray) (s : Nat) (w : World) (hS : StH w s .leaf) (hU : UsaT w) (hv : v.size ≤ 65536) :
  Calls Tryz.prog 14 #[.pointer (some ⟨s, 0, none⟩), .agg clockC, .string v] w (fun e w' => ∃ s', e = .returned (.tuple #[.pointer (some ⟨s', 0, none⟩), .int .i64 0]) ∧ StH w' s' (.node .leaf clockN v .leaf) ∧ Fr Nothing w w') := by
 have HS := Lib.hid hS
 have CK : Hid (∀ w', Fr Nothing w w' → Calls Tryz.prog 44 #[.agg clockC] w' (Same' w' (.int .i64 0))) := fun w' hf => Check_clock w' (hU.fr0 hf)
 have HV : Hid (v.size ≤ 1099511627776) := by simp only [Hid]; omega
 have BN := Lib.hid (built_node0 v)
 have tv : decide ((65536 : Int) < (v.size : Int)) = false := decide_eq_false (by omega)
 obtain ⟨a, hb, hn⟩ := hS
 obtain rfl : a = none := hn
 have R00 : Hid (w.cell? ⟨s, 0, none⟩ = some (.pointer none)) := hb.cell 0
 clear hb hU
 go_enter Tryz.func14, Tryz.ntmps14
 go_wp2_with (refine wpList_boxBlk rfl 44 (.tmp 1) rfl clockC rfl ?_)
 intro w1 n1
 have F1 := Lib.hid n1.fr
 have NB0 := Lib.hid n1.blk
 clear n1
 generalize w.heap.size = gb at *
 have NB : Hid (Blk w1 gb 44 clockC) := NB0.out
 clear NB0
 go_wp2_with (refine wpList_load_add rfl 44 (.tmp 4) rfl ⟨gb, 0, none⟩ rfl clockN.cells _ ?hcc Tryz.underlying44 rfl infoName (Held.go ?hold))
 case hcc => exact fun j x hx => by rw [Addr.add_mid, Nat.zero_add]; exact NB.out.cell j |>.trans (by rw [clockC_eq, List.getElem?_toArray]; exact hx)
 unfold Held
 go_wp2_with fail
 refine (CK.out _ F1.out).mono ?_
 rintro e w2 ⟨rfl, f2⟩
 have F2 := Lib.hid (F1.out.trans f2)
 have NB2 := Lib.hid (NB.out.fr f2 (fun x => x))
 clear f2 NB
 have CL : Hid (∀ w', Fr Nothing w2 w' → Calls Tryz.prog 22 #[.pointer (some ⟨s, 0, none⟩)] w' (SameW w' (.int .i64 0))) := fun w' hf => Len_any w' s .leaf (HS.out.fr0 (F2.out.trans hf))
 go_upto_region 7 with fail
 refine wp_region_st 13 Nothing [Is (.pointer (some ⟨s, 0, none⟩)), Is (.int .i64 0), Is (.bool false), Is (.bool false), Is (undef), Is (undef), Is (undef), Is (undef), Is (undef), Is (undef), Is (undef), Is (.bool false), Is (.bool false)] [] (fun _ => True) (fun _ _ => false) (by kernel_rfl) (by kernel_rfl) (by kernel_rfl) (by kernel_rfl) ⟨Is.stable _, Is.stable _, Is.stable _, Is.stable _, Is.stable _, Is.stable _, Is.stable _, Is.stable _, Is.stable _, Is.stable _, Is.stable _, Is.stable _, Is.stable _, trivial⟩ trivial (fun _ _ _ _ h => h) trivial ?_ ?_
 ·refine ⟨fun u w' d hf hR k1 k0 kM => ?_, fun u w' d hf hR k1 k0 kM => ?_, fun u w' d hf hR k1 k0 kM => ?_, fun u w' d hf hR k1 k0 kM => ?_, fun u w' d hf hR k1 k0 kM => ?_, fun u w' d hf hR k1 k0 kM => ?_, fun u w' d hf hR k1 k0 kM => ?_, fun u w' d hf hR k1 k0 kM => ?_, fun u w' d hf hR k1 k0 kM => ?_, fun u w' d hf hR k1 k0 kM => ?_, fun u w' d hf hR k1 k0 kM => ?_, fun u w' d hf hR k1 k0 kM => ?_, fun u w' d hf hR k1 k0 kM => ?_, trivial⟩
  all_goals simp only [List.take_succ_cons, List.take_zero, List.map_cons, List.map_nil, puts, Act.put, List.setIfInBounds_toArray, List.set_cons_zero, List.set_cons_succ, Nat.reduceAdd, Nat.zero_add]
  ·clear hR k1 k0 kM
   refine .inl ⟨by kernel_rfl, ?_⟩
   go_simp
   exact ⟨_, rfl, Fr.refl _ _, rfl, trivial⟩
  ·have h0 : u 0 = _ := hR 0 (by kernel_rfl)
   clear hR k1 k0 kM
   simp only [h0]
   refine .inl ⟨by kernel_rfl, ?_⟩
   go_simp
   refine (CL.out _ hf).mono ?_
   rintro e w4 ⟨rfl, rfl⟩
   exact ⟨_, rfl, Fr.refl _ _, rfl, trivial⟩
  ·have h1 : u 1 = _ := hR 1 (by kernel_rfl)
   clear hR k1 k0 kM
   simp only [h1]
   refine .inl ⟨by kernel_rfl, ?_⟩
   go_simp
   exact ⟨_, rfl, Fr.refl _ _, rfl, trivial⟩
  ·have h2 : u 2 = _ := hR 2 (by kernel_rfl)
   clear hR k1 k0 kM
   simp only [h2]
   refine .inl ⟨by kernel_rfl, ?_⟩
   go_simp
   exact ⟨_, rfl, Fr.refl _ _, rfl, trivial⟩
  ·have h3 : u 3 = _ := hR 3 (by kernel_rfl)
   clear hR k1 k0 kM
   simp only [h3]
   exact .inr ⟨by kernel_rfl, _, rfl, Fr.refl _ _, rfl, trivial⟩
  ·have h3 : u 3 = _ := hR 3 (by kernel_rfl)
   clear hR k1 k0 kM
   simp only [h3]
   exact .inr ⟨by kernel_rfl, _, rfl, Fr.refl _ _, rfl, trivial⟩
  ·have h3 : u 3 = _ := hR 3 (by kernel_rfl)
   clear hR k1 k0 kM
   simp only [h3]
   exact .inr ⟨by kernel_rfl, _, rfl, Fr.refl _ _, rfl, trivial⟩
  ·have h3 : u 3 = _ := hR 3 (by kernel_rfl)
   clear hR k1 k0 kM
   simp only [h3]
   exact .inr ⟨by kernel_rfl, _, rfl, Fr.refl _ _, rfl, trivial⟩
  ·have h3 : u 3 = _ := hR 3 (by kernel_rfl)
   clear hR k1 k0 kM
   simp only [h3]
   exact .inr ⟨by kernel_rfl, _, rfl, Fr.refl _ _, rfl, trivial⟩
  ·have h3 : u 3 = _ := hR 3 (by kernel_rfl)
   clear hR k1 k0 kM
   simp only [h3]
   exact .inr ⟨by kernel_rfl, _, rfl, Fr.refl _ _, rfl, trivial⟩
  ·have h3 : u 3 = _ := hR 3 (by kernel_rfl)
   clear hR k1 k0 kM
   simp only [h3]
   exact .inr ⟨by kernel_rfl, _, rfl, Fr.refl _ _, rfl, trivial⟩
  ·have h3 : u 3 = _ := hR 3 (by kernel_rfl)
   have h10 : u 10 = _ := hR 10 (by kernel_rfl)
   clear hR k1 k0 kM
   simp only [h3, h10]
   refine .inl ⟨by kernel_rfl, ?_⟩
   go_simp
   exact ⟨_, rfl, Fr.refl _ _, rfl, trivial⟩
  ·have h11 : u 11 = _ := hR 11 (by kernel_rfl)
   clear hR k1 k0 kM
   simp only [h11]
   refine .inl ⟨by kernel_rfl, ?_⟩
   go_simp
   exact ⟨_, rfl, Fr.refl _ _, rfl, trivial⟩
 ·intro u w' hf hR kM
  have k12 : u 12 = _ := hR 12 (by omega)
  clear hR kM
  simp only [List.take_succ_cons, List.take_zero, List.map_cons, List.map_nil, puts, Act.put, List.setIfInBounds_toArray, List.set_cons_zero, List.set_cons_succ, List.drop_succ_cons, List.drop_zero, Nat.reduceAdd, Nat.zero_add, k12]
  generalize w' = w3 at *
  have F3 := Lib.hid (F2.out.trans hf)
  have NB := Lib.hid (NB2.out.fr hf (fun x => x))
  have R0 : Hid (w3.cell? ⟨s, 0, none⟩ = some (.pointer none)) := F3.out.cellSome R00.out (fun x => x)
  clear hf k12 NB2
  go_upto_region 9 with fail
  refine wp_region_st 9 Nothing [Is (.pointer (some ⟨s, 0, none⟩)), Is (.pointer (some ⟨s, 0, none⟩)), Is (.pointer (some ⟨s, 0, none⟩)), Is (.pointer none), Is (.agg clockC), Is (.string v), Is (.agg (node0 v)), fun x W => ∃ g, x = .pointer (some ⟨g, 0, none⟩) ∧ Mid W g clockN v, fun x W => ∃ a, x = .pointer a ∧ NodH W a (.node .leaf clockN v .leaf)] [] (fun _ => True) (fun _ _ => false) (by kernel_rfl) (by kernel_rfl) (by kernel_rfl) (by kernel_rfl) ⟨Is.stable _, Is.stable _, Is.stable _, Is.stable _, Is.stable _, Is.stable _, Is.stable _, fun _ _ _ _ hf ⟨g, h, hb⟩ => ⟨g, h, hb.fr0 hf⟩, fun _ _ _ _ hf ⟨g, h, hb⟩ => ⟨g, h, hb.fr0 hf⟩, trivial⟩ trivial (fun _ _ _ _ h => h) trivial ?_ ?_
  ·refine ⟨fun u w' d hf hR k1 k0 kM => ?_, fun u w' d hf hR k1 k0 kM => ?_, fun u w' d hf hR k1 k0 kM => ?_, fun u w' d hf hR k1 k0 kM => ?_, fun u w' d hf hR k1 k0 kM => ?_, fun u w' d hf hR k1 k0 kM => ?_, fun u w' d hf hR k1 k0 kM => ?_, fun u w' d hf hR k1 k0 kM => ?_, fun u w' d hf hR k1 k0 kM => ?_, trivial⟩
   all_goals simp only [List.take_succ_cons, List.take_zero, List.map_cons, List.map_nil, puts, Act.put, List.setIfInBounds_toArray, List.set_cons_zero, List.set_cons_succ, Nat.reduceAdd, Nat.zero_add]
   ·clear hR k1 k0 kM
    refine .inl ⟨by kernel_rfl, ?_⟩
    go_simp
    exact ⟨_, rfl, Fr.refl _ _, rfl, trivial⟩
   ·have h0 : u 0 = _ := hR 0 (by kernel_rfl)
    clear hR k1 k0 kM
    simp only [h0]
    refine .inl ⟨by kernel_rfl, ?_⟩
    go_simp
    exact ⟨_, rfl, Fr.refl _ _, rfl, trivial⟩
   ·have h1 : u 1 = _ := hR 1 (by kernel_rfl)
    clear hR k1 k0 kM
    simp only [h1]
    refine .inl ⟨by kernel_rfl, ?_⟩
    go_simp
    exact ⟨_, rfl, Fr.refl _ _, rfl, trivial⟩
   ·have h2 : u 2 = _ := hR 2 (by kernel_rfl)
    clear hR k1 k0 kM
    simp only [h2]
    refine .inl ⟨by kernel_rfl, ?_⟩
    have hc : w'.cell? ⟨s, 0, none⟩ = some (.pointer none) := hf.cellSome R0.out (fun x => x)
    go_simp
    exact ⟨_, rfl, Fr.refl _ _, rfl, trivial⟩
   ·clear hR k1 k0 kM
    refine .inl ⟨by kernel_rfl, ?_⟩
    exact wp_load_add _ _ rfl ⟨gb, 0, none⟩ rfl clockN.cells _ (fun j x hx => by rw [Addr.add_mid, Nat.zero_add]; exact (NB.out.fr hf (fun x => x)).cell j |>.trans (by rw [clockC_eq, List.getElem?_toArray]; exact hx)) Tryz.underlying44 rfl infoName ⟨_, rfl, Fr.refl _ _, rfl, trivial⟩
   ·clear hR k1 k0 kM
    refine .inl ⟨by kernel_rfl, ?_⟩
    go_simp
    exact ⟨_, rfl, Fr.refl _ _, rfl, trivial⟩
   ·have h4 : u 4 = _ := hR 4 (by kernel_rfl)
    have h5 : u 5 = _ := hR 5 (by kernel_rfl)
    clear hR k1 k0 kM
    simp only [h4, h5]
    refine .inl ⟨by kernel_rfl, ?_⟩
    exact wp_builtA 69 _ rfl (node0 v) _ (by simp only [List.map_toArray, List.map_cons, List.map_nil]; rfl) (BN.out) ⟨_, rfl, Fr.refl _ _, rfl, trivial⟩
   ·have h6 : u 6 = _ := hR 6 (by kernel_rfl)
    clear hR k1 k0 kM
    simp only [h6]
    refine .inl ⟨by kernel_rfl, ?_⟩
    go_simp
    exact ⟨_, rfl, (Fr.refl _ _).alloc _, ⟨_, rfl, Mid.of (Blk.new _ _ _)⟩, trivial⟩
   ·have h3 : u 3 = _ := hR 3 (by kernel_rfl)
    obtain ⟨g7, h7, b7⟩ := hR 7 (by kernel_rfl)
    clear hR k1 k0 kM
    simp only [h3, h7]
    refine .inl ⟨by kernel_rfl, ?_⟩
    go_simp
    refine (with_leaf clockN v g7 w' b7 HV.out).mono ?_
    rintro e w4 ⟨a, rfl, h1, f1⟩
    exact ⟨_, rfl, f1, ⟨_, rfl, h1⟩, trivial⟩
  ·intro u w' hf hR kM
   obtain ⟨a, k8, hN⟩ : ∃ a, u 8 = .pointer a ∧ NodH w' a (.node .leaf clockN v .leaf) := hR 8 (by omega)
   clear hR kM
   simp only [List.take_succ_cons, List.take_zero, List.map_cons, List.map_nil, puts, Act.put, List.setIfInBounds_toArray, List.set_cons_zero, List.set_cons_succ, List.drop_succ_cons, List.drop_zero, Nat.reduceAdd, Nat.zero_add, k8]
   have F4 := Lib.hid (F3.out.trans hf)
   have HN := Lib.hid hN
   clear hf k8 hN
   go_wp2_with (refine wpList_boxBlk rfl 100 (.tmp 41) rfl #[.pointer a] rfl ?_)
   intro w5 n5
   have N5 := Lib.hid n5
   clear n5
   go_wp2
   go_ret2
   exact ⟨_, rfl, ⟨a, N5.out.blk, HN.out.fr0 N5.out.fr⟩, F4.out.trans N5.out.fr⟩
set_option maxRecDepth 100000 in
set_option maxHeartbeats 1000000 in
theorem Get_hit (v : ByteArray) (l r : Tr) (s : Nat) (w : World) (hS : StH w s (.node l clockN v r)) :
  Calls Tryz.prog 17 #[.pointer (some ⟨s, 0, none⟩), .agg clockC] w (Same' w (.tuple #[.string v, .bool true])) := by
 obtain ⟨a, hb, hn⟩ := hS
 have hn' := hn
 obtain ⟨g, la, ra, rfl, _, _, _⟩ := hn'
 have CF : Hid (∀ w', Fr Nothing w w' → Calls Tryz.prog 45 #[.pointer (some ⟨g, 0, none⟩), .agg clockC] w' (Same' w' (.pointer (some ⟨g, 0, none⟩)))) := fun w' hf => find_hit clockN clockN v l r g w' (hn.fr0 hf) (fun w'' _ => compare_clock w'')
 have M0 := Lib.hid hn.mid.val
 have R00 : Hid (w.cell? ⟨s, 0, none⟩ = some (.pointer (some ⟨g, 0, none⟩))) := hb.cell 0
 clear hb hn
 go_enter Tryz.func17, Tryz.ntmps17
 go_wp2_with (refine wpList_boxBlk rfl 44 (.tmp 1) rfl clockC rfl ?_)
 intro w1 n1
 have F1 := Lib.hid n1.fr
 have NB0 := Lib.hid n1.blk
 clear n1
 generalize w.heap.size = gb at *
 have NB : Hid (Blk w1 gb 44 clockC) := NB0.out
 clear NB0
 have R0 : Hid (w1.cell? ⟨s, 0, none⟩ = some (.pointer (some ⟨g, 0, none⟩))) := F1.out.cellSome R00.out (fun x => x)
 go_upto_region 3 with fail
 refine wp_region_st 7 Nothing [Is (.pointer (some ⟨s, 0, none⟩)), Is (.pointer (some ⟨s, 0, none⟩)), Is (.pointer (some ⟨s, 0, none⟩)), Is (.pointer (some ⟨g, 0, none⟩)), Is (.agg clockC), Is (.pointer (some ⟨g, 0, none⟩)), Is (.pointer (some ⟨g, 0, none⟩))] [] (fun _ => True) (fun _ _ => false) (by kernel_rfl) (by kernel_rfl) (by kernel_rfl) (by kernel_rfl) ⟨Is.stable _, Is.stable _, Is.stable _, Is.stable _, Is.stable _, Is.stable _, Is.stable _, trivial⟩ trivial (fun _ _ _ _ h => h) trivial ?_ ?_
 ·refine ⟨fun u w' d hf hR k1 k0 kM => ?_, fun u w' d hf hR k1 k0 kM => ?_, fun u w' d hf hR k1 k0 kM => ?_, fun u w' d hf hR k1 k0 kM => ?_, fun u w' d hf hR k1 k0 kM => ?_, fun u w' d hf hR k1 k0 kM => ?_, fun u w' d hf hR k1 k0 kM => ?_, trivial⟩
  all_goals simp only [List.take_succ_cons, List.take_zero, List.map_cons, List.map_nil, puts, Act.put, List.setIfInBounds_toArray, List.set_cons_zero, List.set_cons_succ, Nat.reduceAdd, Nat.zero_add]
  ·clear hR k1 k0 kM
   refine .inl ⟨by kernel_rfl, ?_⟩
   go_simp
   exact ⟨_, rfl, Fr.refl _ _, rfl, trivial⟩
  ·have h0 : u 0 = _ := hR 0 (by kernel_rfl)
   clear hR k1 k0 kM
   simp only [h0]
   refine .inl ⟨by kernel_rfl, ?_⟩
   go_simp
   exact ⟨_, rfl, Fr.refl _ _, rfl, trivial⟩
  ·have h1 : u 1 = _ := hR 1 (by kernel_rfl)
   clear hR k1 k0 kM
   simp only [h1]
   refine .inl ⟨by kernel_rfl, ?_⟩
   go_simp
   exact ⟨_, rfl, Fr.refl _ _, rfl, trivial⟩
  ·have h2 : u 2 = _ := hR 2 (by kernel_rfl)
   clear hR k1 k0 kM
   simp only [h2]
   refine .inl ⟨by kernel_rfl, ?_⟩
   have hc : w'.cell? ⟨s, 0, none⟩ = some (.pointer (some ⟨g, 0, none⟩)) := hf.cellSome R0.out (fun x => x)
   go_simp
   exact ⟨_, rfl, Fr.refl _ _, rfl, trivial⟩
  ·clear hR k1 k0 kM
   refine .inl ⟨by kernel_rfl, ?_⟩
   exact wp_load_add _ _ rfl ⟨gb, 0, none⟩ rfl clockN.cells _ (fun j x hx => by rw [Addr.add_mid, Nat.zero_add]; exact (NB.out.fr hf (fun x => x)).cell j |>.trans (by rw [clockC_eq, List.getElem?_toArray]; exact hx)) Tryz.underlying44 rfl infoName ⟨_, rfl, Fr.refl _ _, rfl, trivial⟩
  ·have h3 : u 3 = _ := hR 3 (by kernel_rfl)
   have h4 : u 4 = _ := hR 4 (by kernel_rfl)
   clear hR k1 k0 kM
   simp only [h3, h4]
   refine .inl ⟨by kernel_rfl, ?_⟩
   go_simp
   refine (CF.out _ (F1.out.trans hf)).mono ?_
   rintro e w4 ⟨rfl, f4⟩
   exact ⟨_, rfl, f4.weak, rfl, trivial⟩
  ·have h5 : u 5 = _ := hR 5 (by kernel_rfl)
   clear hR k1 k0 kM
   simp only [h5]
   refine .inl ⟨by kernel_rfl, ?_⟩
   go_simp
   exact ⟨_, rfl, Fr.refl _ _, rfl, trivial⟩
 ·intro u w' hf hR kM
  have k6 : u 6 = _ := hR 6 (by omega)
  clear hR kM
  simp only [List.take_succ_cons, List.take_zero, List.map_cons, List.map_nil, puts, Act.put, List.setIfInBounds_toArray, List.set_cons_zero, List.set_cons_succ, List.drop_succ_cons, List.drop_zero, Nat.reduceAdd, Nat.zero_add, k6]
  have F2 := Lib.hid (F1.out.trans hf)
  have cv : w'.cell? ⟨g, 7, none⟩ = some (.string v) := F2.out.cellSome M0.out (fun x => x)
  clear hf k6
  go_wp2
  go_ret2
  exact ⟨rfl, F2.out⟩
set_option maxRecDepth 100000 in
set_option maxHeartbeats 1000000 in
theorem Get_none (s : Nat) (w : World) (hS : StH w s .leaf) :
  Calls Tryz.prog 17 #[.pointer (some ⟨s, 0, none⟩), .agg clockC] w (Same' w (.tuple #[.string ByteArray.empty, .bool false])) := by
 obtain ⟨a, hb, hn⟩ := hS
 obtain rfl : a = none := hn
 have CF : Hid (∀ w', Fr Nothing w w' → Calls Tryz.prog 45 #[.pointer none, .agg clockC] w' (Same' w' (.pointer none))) := fun w' _ => find_none clockN w'
 have R00 : Hid (w.cell? ⟨s, 0, none⟩ = some (.pointer none)) := hb.cell 0
 clear hb
 go_enter Tryz.func17, Tryz.ntmps17
 go_wp2_with (refine wpList_boxBlk rfl 44 (.tmp 1) rfl clockC rfl ?_)
 intro w1 n1
 have F1 := Lib.hid n1.fr
 have NB0 := Lib.hid n1.blk
 clear n1
 generalize w.heap.size = gb at *
 have NB : Hid (Blk w1 gb 44 clockC) := NB0.out
 clear NB0
 have R0 : Hid (w1.cell? ⟨s, 0, none⟩ = some (.pointer none)) := F1.out.cellSome R00.out (fun x => x)
 go_upto_region 3 with fail
 refine wp_region_st 7 Nothing [Is (.pointer (some ⟨s, 0, none⟩)), Is (.pointer (some ⟨s, 0, none⟩)), Is (.pointer (some ⟨s, 0, none⟩)), Is (.pointer none), Is (.agg clockC), Is (.pointer none), Is (.pointer none)] [] (fun _ => True) (fun _ _ => false) (by kernel_rfl) (by kernel_rfl) (by kernel_rfl) (by kernel_rfl) ⟨Is.stable _, Is.stable _, Is.stable _, Is.stable _, Is.stable _, Is.stable _, Is.stable _, trivial⟩ trivial (fun _ _ _ _ h => h) trivial ?_ ?_
 ·refine ⟨fun u w' d hf hR k1 k0 kM => ?_, fun u w' d hf hR k1 k0 kM => ?_, fun u w' d hf hR k1 k0 kM => ?_, fun u w' d hf hR k1 k0 kM => ?_, fun u w' d hf hR k1 k0 kM => ?_, fun u w' d hf hR k1 k0 kM => ?_, fun u w' d hf hR k1 k0 kM => ?_, trivial⟩
  all_goals simp only [List.take_succ_cons, List.take_zero, List.map_cons, List.map_nil, puts, Act.put, List.setIfInBounds_toArray, List.set_cons_zero, List.set_cons_succ, Nat.reduceAdd, Nat.zero_add]
  ·clear hR k1 k0 kM
   refine .inl ⟨by kernel_rfl, ?_⟩
   go_simp
   exact ⟨_, rfl, Fr.refl _ _, rfl, trivial⟩
  ·have h0 : u 0 = _ := hR 0 (by kernel_rfl)
   clear hR k1 k0 kM
   simp only [h0]
   refine .inl ⟨by kernel_rfl, ?_⟩
   go_simp
   exact ⟨_, rfl, Fr.refl _ _, rfl, trivial⟩
  ·have h1 : u 1 = _ := hR 1 (by kernel_rfl)
   clear hR k1 k0 kM
   simp only [h1]
   refine .inl ⟨by kernel_rfl, ?_⟩
   go_simp
   exact ⟨_, rfl, Fr.refl _ _, rfl, trivial⟩
  ·have h2 : u 2 = _ := hR 2 (by kernel_rfl)
   clear hR k1 k0 kM
   simp only [h2]
   refine .inl ⟨by kernel_rfl, ?_⟩
   have hc : w'.cell? ⟨s, 0, none⟩ = some (.pointer none) := hf.cellSome R0.out (fun x => x)
   go_simp
   exact ⟨_, rfl, Fr.refl _ _, rfl, trivial⟩
  ·clear hR k1 k0 kM
   refine .inl ⟨by kernel_rfl, ?_⟩
   exact wp_load_add _ _ rfl ⟨gb, 0, none⟩ rfl clockN.cells _ (fun j x hx => by rw [Addr.add_mid, Nat.zero_add]; exact (NB.out.fr hf (fun x => x)).cell j |>.trans (by rw [clockC_eq, List.getElem?_toArray]; exact hx)) Tryz.underlying44 rfl infoName ⟨_, rfl, Fr.refl _ _, rfl, trivial⟩
  ·have h3 : u 3 = _ := hR 3 (by kernel_rfl)
   have h4 : u 4 = _ := hR 4 (by kernel_rfl)
   clear hR k1 k0 kM
   simp only [h3, h4]
   refine .inl ⟨by kernel_rfl, ?_⟩
   go_simp
   refine (CF.out _ (F1.out.trans hf)).mono ?_
   rintro e w4 ⟨rfl, f4⟩
   exact ⟨_, rfl, f4.weak, rfl, trivial⟩
  ·have h5 : u 5 = _ := hR 5 (by kernel_rfl)
   clear hR k1 k0 kM
   simp only [h5]
   refine .inl ⟨by kernel_rfl, ?_⟩
   go_simp
   exact ⟨_, rfl, Fr.refl _ _, rfl, trivial⟩
 ·intro u w' hf hR kM
  have k6 : u 6 = _ := hR 6 (by omega)
  clear hR kM
  simp only [List.take_succ_cons, List.take_zero, List.map_cons, List.map_nil, puts, Act.put, List.setIfInBounds_toArray, List.set_cons_zero, List.set_cons_succ, List.drop_succ_cons, List.drop_zero, Nat.reduceAdd, Nat.zero_add, k6]
  have F2 := Lib.hid (F1.out.trans hf)
  clear hf k6
  go_wp2
  go_ret2
  exact ⟨rfl, F2.out⟩
set_option maxRecDepth 100000 in
set_option maxHeartbeats 2000000 in
theorem Without_clock (v : ByteArray) (s : Nat) (w : World) (hS : StH w s (.node .leaf clockN v .leaf)) (hU : UsaT w) :
  Calls Tryz.prog 16 #[.pointer (some ⟨s, 0, none⟩), .agg clockC] w (fun e w' => ∃ s', e = .returned (.tuple #[.pointer (some ⟨s', 0, none⟩), .int .i64 0]) ∧ StH w' s' .leaf ∧ Fr Nothing w w') := by
 have CK : Hid (∀ w', Fr Nothing w w' → Calls Tryz.prog 44 #[.agg clockC] w' (Same' w' (.int .i64 0))) := fun w' hf => Check_clock w' (hU.fr0 hf)
 obtain ⟨a, hb, hn⟩ := hS
 have hn' := hn
 obtain ⟨g, la, ra, rfl, hla, hra, hB⟩ := hn'
 obtain rfl : la = none := hla
 obtain rfl : ra = none := hra
 have CF : Hid (∀ w', Fr Nothing w w' → Calls Tryz.prog 45 #[.pointer (some ⟨g, 0, none⟩), .agg clockC] w' (Same' w' (.pointer (some ⟨g, 0, none⟩)))) := fun w' hf => find_hit clockN clockN v .leaf .leaf g w' (hn.fr0 hf) (fun w'' _ => compare_clock w'')
 have CW : Hid (∀ w', Fr Nothing w w' → Calls Tryz.prog 47 #[.pointer (some ⟨g, 0, none⟩), .agg clockC] w' (Same' w' (.pointer none))) := fun w' hf => without_hit clockN clockN v .leaf g none w' (hB.fr hf (fun x => x)) (fun w'' _ => compare_clock w'')
 have R00 : Hid (w.cell? ⟨s, 0, none⟩ = some (.pointer (some ⟨g, 0, none⟩))) := hb.cell 0
 clear hb hn hB hU
 go_enter Tryz.func16, Tryz.ntmps16
 go_wp2_with (refine wpList_boxBlk rfl 44 (.tmp 1) rfl clockC rfl ?_)
 intro w1 n1
 have F1 := Lib.hid n1.fr
 have NB0 := Lib.hid n1.blk
 clear n1
 generalize w.heap.size = gb at *
 have NB : Hid (Blk w1 gb 44 clockC) := NB0.out
 clear NB0
 go_wp2_with (refine wpList_load_add rfl 44 (.tmp 3) rfl ⟨gb, 0, none⟩ rfl clockN.cells _ ?hcc Tryz.underlying44 rfl infoName (Held.go ?hold))
 case hcc => exact fun j x hx => by rw [Addr.add_mid, Nat.zero_add]; exact NB.out.cell j |>.trans (by rw [clockC_eq, List.getElem?_toArray]; exact hx)
 unfold Held
 go_wp2_with fail
 refine (CK.out _ F1.out).mono ?_
 rintro e w2 ⟨rfl, f2⟩
 have NB0 := Lib.hid (NB.out.fr f2 (fun x => x))
 have F2 := Lib.hid (F1.out.trans f2)
 clear f2 NB F1
 have NB := NB0
 have F1 := F2
 have R0 : Hid (w2.cell? ⟨s, 0, none⟩ = some (.pointer (some ⟨g, 0, none⟩))) := F2.out.cellSome R00.out (fun x => x)
 go_upto_region 5 with fail
 refine wp_region_st 8 Nothing [Is (.pointer (some ⟨s, 0, none⟩)), Is (.pointer (some ⟨s, 0, none⟩)), Is (.pointer (some ⟨s, 0, none⟩)), Is (.pointer (some ⟨g, 0, none⟩)), Is (.agg clockC), Is (.pointer (some ⟨g, 0, none⟩)), Is (.bool false), Is (.bool false)] [] (fun _ => True) (fun _ _ => false) (by kernel_rfl) (by kernel_rfl) (by kernel_rfl) (by kernel_rfl) ⟨Is.stable _, Is.stable _, Is.stable _, Is.stable _, Is.stable _, Is.stable _, Is.stable _, Is.stable _, trivial⟩ trivial (fun _ _ _ _ h => h) trivial ?_ ?_
 ·refine ⟨fun u w' d hf hR k1 k0 kM => ?_, fun u w' d hf hR k1 k0 kM => ?_, fun u w' d hf hR k1 k0 kM => ?_, fun u w' d hf hR k1 k0 kM => ?_, fun u w' d hf hR k1 k0 kM => ?_, fun u w' d hf hR k1 k0 kM => ?_, fun u w' d hf hR k1 k0 kM => ?_, fun u w' d hf hR k1 k0 kM => ?_, trivial⟩
  all_goals simp only [List.take_succ_cons, List.take_zero, List.map_cons, List.map_nil, puts, Act.put, List.setIfInBounds_toArray, List.set_cons_zero, List.set_cons_succ, Nat.reduceAdd, Nat.zero_add]
  ·clear hR k1 k0 kM
   refine .inl ⟨by kernel_rfl, ?_⟩
   go_simp
   exact ⟨_, rfl, Fr.refl _ _, rfl, trivial⟩
  ·have h0 : u 0 = _ := hR 0 (by kernel_rfl)
   clear hR k1 k0 kM
   simp only [h0]
   refine .inl ⟨by kernel_rfl, ?_⟩
   go_simp
   exact ⟨_, rfl, Fr.refl _ _, rfl, trivial⟩
  ·have h1 : u 1 = _ := hR 1 (by kernel_rfl)
   clear hR k1 k0 kM
   simp only [h1]
   refine .inl ⟨by kernel_rfl, ?_⟩
   go_simp
   exact ⟨_, rfl, Fr.refl _ _, rfl, trivial⟩
  ·have h2 : u 2 = _ := hR 2 (by kernel_rfl)
   clear hR k1 k0 kM
   simp only [h2]
   refine .inl ⟨by kernel_rfl, ?_⟩
   have hc : w'.cell? ⟨s, 0, none⟩ = some (.pointer (some ⟨g, 0, none⟩)) := hf.cellSome R0.out (fun x => x)
   go_simp
   exact ⟨_, rfl, Fr.refl _ _, rfl, trivial⟩
  ·clear hR k1 k0 kM
   refine .inl ⟨by kernel_rfl, ?_⟩
   exact wp_load_add _ _ rfl ⟨gb, 0, none⟩ rfl clockN.cells _ (fun j x hx => by rw [Addr.add_mid, Nat.zero_add]; exact (NB.out.fr hf (fun x => x)).cell j |>.trans (by rw [clockC_eq, List.getElem?_toArray]; exact hx)) Tryz.underlying44 rfl infoName ⟨_, rfl, Fr.refl _ _, rfl, trivial⟩
  ·have h3 : u 3 = _ := hR 3 (by kernel_rfl)
   have h4 : u 4 = _ := hR 4 (by kernel_rfl)
   clear hR k1 k0 kM
   simp only [h3, h4]
   refine .inl ⟨by kernel_rfl, ?_⟩
   go_simp
   refine (CF.out _ (F1.out.trans hf)).mono ?_
   rintro e w4 ⟨rfl, f4⟩
   exact ⟨_, rfl, f4.weak, rfl, trivial⟩
  ·have h5 : u 5 = _ := hR 5 (by kernel_rfl)
   clear hR k1 k0 kM
   simp only [h5]
   refine .inl ⟨by kernel_rfl, ?_⟩
   go_simp
   exact ⟨_, rfl, Fr.refl _ _, rfl, trivial⟩
  ·have h6 : u 6 = _ := hR 6 (by kernel_rfl)
   clear hR k1 k0 kM
   simp only [h6]
   refine .inl ⟨by kernel_rfl, ?_⟩
   go_simp
   exact ⟨_, rfl, Fr.refl _ _, rfl, trivial⟩
 ·intro u w' hf hR kM
  have k7 : u 7 = _ := hR 7 (by omega)
  clear hR kM
  simp only [List.take_succ_cons, List.take_zero, List.map_cons, List.map_nil, puts, Act.put, List.setIfInBounds_toArray, List.set_cons_zero, List.set_cons_succ, List.drop_succ_cons, List.drop_zero, Nat.reduceAdd, Nat.zero_add, k7]
  generalize w' = w3 at *
  have NB3 := Lib.hid (NB.out.fr hf (fun x => x))
  have F3 := Lib.hid (F2.out.trans hf)
  clear hf k7 NB NB0 F1 F2 R0
  have NB := NB3
  have F1 := F3
  have R0 : Hid (w3.cell? ⟨s, 0, none⟩ = some (.pointer (some ⟨g, 0, none⟩))) := F3.out.cellSome R00.out (fun x => x)
  go_upto_region 7 with fail
  refine wp_region_st 6 Nothing [Is (.pointer (some ⟨s, 0, none⟩)), Is (.pointer (some ⟨s, 0, none⟩)), Is (.pointer (some ⟨s, 0, none⟩)), Is (.pointer (some ⟨g, 0, none⟩)), Is (.agg clockC), Is (.pointer none)] [] (fun _ => True) (fun _ _ => false) (by kernel_rfl) (by kernel_rfl) (by kernel_rfl) (by kernel_rfl) ⟨Is.stable _, Is.stable _, Is.stable _, Is.stable _, Is.stable _, Is.stable _, trivial⟩ trivial (fun _ _ _ _ h => h) trivial ?_ ?_
  ·refine ⟨fun u w' d hf hR k1 k0 kM => ?_, fun u w' d hf hR k1 k0 kM => ?_, fun u w' d hf hR k1 k0 kM => ?_, fun u w' d hf hR k1 k0 kM => ?_, fun u w' d hf hR k1 k0 kM => ?_, fun u w' d hf hR k1 k0 kM => ?_, trivial⟩
   all_goals simp only [List.take_succ_cons, List.take_zero, List.map_cons, List.map_nil, puts, Act.put, List.setIfInBounds_toArray, List.set_cons_zero, List.set_cons_succ, Nat.reduceAdd, Nat.zero_add]
   ·clear hR k1 k0 kM
    refine .inl ⟨by kernel_rfl, ?_⟩
    go_simp
    exact ⟨_, rfl, Fr.refl _ _, rfl, trivial⟩
   ·have h0 : u 0 = _ := hR 0 (by kernel_rfl)
    clear hR k1 k0 kM
    simp only [h0]
    refine .inl ⟨by kernel_rfl, ?_⟩
    go_simp
    exact ⟨_, rfl, Fr.refl _ _, rfl, trivial⟩
   ·have h1 : u 1 = _ := hR 1 (by kernel_rfl)
    clear hR k1 k0 kM
    simp only [h1]
    refine .inl ⟨by kernel_rfl, ?_⟩
    go_simp
    exact ⟨_, rfl, Fr.refl _ _, rfl, trivial⟩
   ·have h2 : u 2 = _ := hR 2 (by kernel_rfl)
    clear hR k1 k0 kM
    simp only [h2]
    refine .inl ⟨by kernel_rfl, ?_⟩
    have hc : w'.cell? ⟨s, 0, none⟩ = some (.pointer (some ⟨g, 0, none⟩)) := hf.cellSome R0.out (fun x => x)
    go_simp
    exact ⟨_, rfl, Fr.refl _ _, rfl, trivial⟩
   ·clear hR k1 k0 kM
    refine .inl ⟨by kernel_rfl, ?_⟩
    exact wp_load_add _ _ rfl ⟨gb, 0, none⟩ rfl clockN.cells _ (fun j x hx => by rw [Addr.add_mid, Nat.zero_add]; exact (NB.out.fr hf (fun x => x)).cell j |>.trans (by rw [clockC_eq, List.getElem?_toArray]; exact hx)) Tryz.underlying44 rfl infoName ⟨_, rfl, Fr.refl _ _, rfl, trivial⟩
   ·have h3 : u 3 = _ := hR 3 (by kernel_rfl)
    have h4 : u 4 = _ := hR 4 (by kernel_rfl)
    clear hR k1 k0 kM
    simp only [h3, h4]
    refine .inl ⟨by kernel_rfl, ?_⟩
    go_simp
    refine (CW.out _ (F1.out.trans hf)).mono ?_
    rintro e w4 ⟨rfl, f4⟩
    exact ⟨_, rfl, f4.weak, rfl, trivial⟩
  ·intro u w' hf hR kM
   have k5 : u 5 = _ := hR 5 (by omega)
   clear hR kM
   simp only [List.take_succ_cons, List.take_zero, List.map_cons, List.map_nil, puts, Act.put, List.setIfInBounds_toArray, List.set_cons_zero, List.set_cons_succ, List.drop_succ_cons, List.drop_zero, Nat.reduceAdd, Nat.zero_add, k5]
   have F4 := Lib.hid (F3.out.trans hf)
   clear hf k5
   go_wp2_with (refine wpList_boxBlk rfl 100 (.tmp 28) rfl #[.pointer none] rfl ?_)
   intro w5 n5
   have N5 := Lib.hid n5
   clear n5
   go_wp2
   go_ret2
   exact ⟨_, rfl, ⟨none, N5.out.blk, rfl⟩, F4.out.trans N5.out.fr⟩
end Go.Proofs.YtpnchdgplpdefaaGreatDoor
