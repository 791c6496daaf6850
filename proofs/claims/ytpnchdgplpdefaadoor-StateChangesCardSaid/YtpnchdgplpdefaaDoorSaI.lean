/- State: nil receivers: written by genSaI.py. -/
import Derived.RangeFuncWrites
import Derived.RangeFuncBox
import Derived.LoopNIn
import Derived.LoopIn
import Derived.OwnWalkIn
import Derived.TacticsInMore
import Derived.Shelf.RegionOpen
import Derived.Test.YtpnchdgplpdefaaDoorSaH
namespace Go.Proofs.YtpnchdgplpdefaaDoor
open Go.RowKit Go.Shelf

attribute [local go_sem] Oper.semAt_some

set_option maxRecDepth 100000 in
theorem Get_nil (n : NameV) (w : World) : Calls Tryd.prog 18 #[.pointer none, .agg n.cells.toArray] w (Same' w (.tuple #[.string ByteArray.empty, .bool false])) := by
  go_enter Tryd.func18, Tryd.ntmps18
  go_wp2_with (refine wpList_boxBlk rfl 36 (.tmp 1) rfl n.cells.toArray rfl ?_)
  intro w1 n1
  have F1 := Lib.hid n1.fr
  clear n1
  go_wp2
  go_ret2
  exact ⟨rfl, F1.out⟩

set_option maxRecDepth 100000 in
theorem With_nil (n : NameV) (v : ByteArray) (w : World) : Calls Tryd.prog 31 #[.pointer none, .agg n.cells.toArray, .string v] w (Same' w (.tuple #[.pointer none, .int .i64 1])) := by
  go_enter Tryd.func31, Tryd.ntmps31
  go_wp2_with (refine wpList_boxBlk rfl 36 (.tmp 1) rfl n.cells.toArray rfl ?_)
  intro w1 n1
  have F1 := Lib.hid n1.fr
  clear n1
  go_wp2
  go_ret2
  exact ⟨rfl, F1.out⟩

set_option maxRecDepth 100000 in
theorem Without_nil (n : NameV) (w : World) : Calls Tryd.prog 32 #[.pointer none, .agg n.cells.toArray] w (Same' w (.tuple #[.pointer none, .int .i64 1])) := by
  go_enter Tryd.func32, Tryd.ntmps32
  go_wp2_with (refine wpList_boxBlk rfl 36 (.tmp 1) rfl n.cells.toArray rfl ?_)
  intro w1 n1
  have F1 := Lib.hid n1.fr
  clear n1
  go_wp2
  go_ret2
  exact ⟨rfl, F1.out⟩

set_option maxRecDepth 100000 in
theorem Apply_nil (v : Value) (w : World) : Calls Tryd.prog 25 #[.pointer none, v] w (Same' w (.tuple #[.pointer none, .int .i64 1])) := by
  go_enter Tryd.func25, Tryd.ntmps25
  go_wp2
  go_ret2
  exact ⟨rfl, Fr.refl _ _⟩

set_option maxRecDepth 100000 in
theorem Len_nil (w : World) : Calls Tryd.prog 33 #[.pointer none] w (Same' w (.int .i64 0)) := by
  go_enter Tryd.func33, Tryd.ntmps33
  go_wp2
  go_ret
  exact ⟨rfl, Fr.refl _ _⟩

set_option maxRecDepth 100000 in
theorem Bytes_nil (w : World) : Calls Tryd.prog 34 #[.pointer none] w (Same' w (.int .i64 0)) := by
  go_enter Tryd.func34, Tryd.ntmps34
  go_wp2
  go_ret
  exact ⟨rfl, Fr.refl _ _⟩

set_option maxRecDepth 100000 in
theorem Encode_nil (w : World) : Calls Tryd.prog 29 #[.pointer none] w (Same' w (.slice none 0 0)) := by
  go_enter Tryd.func29, Tryd.ntmps29
  go_wp2
  go_ret
  exact ⟨rfl, Fr.refl _ _⟩

set_option maxRecDepth 100000 in
theorem Equal_nil (w : World) : Calls Tryd.prog 26 #[.pointer none, .pointer none] w (Same' w (.bool true)) := by
  go_enter Tryd.func26, Tryd.ntmps26
  go_wp2
  go_ret
  exact ⟨rfl, Fr.refl _ _⟩

set_option maxRecDepth 100000 in
theorem Equal_nil1 (s : Nat) (w : World) : Calls Tryd.prog 26 #[.pointer none, .pointer (some ⟨s, 0, none⟩)] w (Same' w (.bool false)) := by
  go_enter Tryd.func26, Tryd.ntmps26
  go_wp2
  go_ret
  exact ⟨rfl, Fr.refl _ _⟩

set_option maxRecDepth 100000 in
set_option maxHeartbeats 1000000 in
theorem Diff_nil1 (s : Nat) (w : World) : Calls Tryd.prog 23 #[.pointer none, .pointer (some ⟨s, 0, none⟩)] w (Same' w (.slice none 0 0)) := by
  go_enter Tryd.func23, Tryd.ntmps23
  go_upto_region 1 with fail
  refine wp_region_st 17 Nothing [Is (.pointer none), Is (.bool true), Is (.bool true), Is (undef), Is (undef), Is (.bool true), Is (.bool true), Is (undef), Is (undef), Is (undef), Is (undef), Is (undef), Is (undef), Is (undef), Is (undef), Is (undef), Is (.bool true)] [] (fun _ => True) (fun _ _ => false) (by kernel_rfl) (by kernel_rfl) (by kernel_rfl) (by kernel_rfl) ⟨Is.stable _, Is.stable _, Is.stable _, Is.stable _, Is.stable _, Is.stable _, Is.stable _, Is.stable _, Is.stable _, Is.stable _, Is.stable _, Is.stable _, Is.stable _, Is.stable _, Is.stable _, Is.stable _, Is.stable _, trivial⟩ trivial (fun _ _ _ _ h => h) trivial ?_ ?_
  · refine ⟨fun u w' d hf hR k1 k0 kM => ?_, fun u w' d hf hR k1 k0 kM => ?_, fun u w' d hf hR k1 k0 kM => ?_, fun u w' d hf hR k1 k0 kM => ?_, fun u w' d hf hR k1 k0 kM => ?_, fun u w' d hf hR k1 k0 kM => ?_, fun u w' d hf hR k1 k0 kM => ?_, fun u w' d hf hR k1 k0 kM => ?_, fun u w' d hf hR k1 k0 kM => ?_, fun u w' d hf hR k1 k0 kM => ?_, fun u w' d hf hR k1 k0 kM => ?_, fun u w' d hf hR k1 k0 kM => ?_, fun u w' d hf hR k1 k0 kM => ?_, fun u w' d hf hR k1 k0 kM => ?_, fun u w' d hf hR k1 k0 kM => ?_, fun u w' d hf hR k1 k0 kM => ?_, fun u w' d hf hR k1 k0 kM => ?_, trivial⟩
    all_goals simp only [List.take_succ_cons, List.take_zero, List.map_cons, List.map_nil, puts, Act.put, List.setIfInBounds_toArray, List.set_cons_zero, List.set_cons_succ, Nat.reduceAdd, Nat.zero_add]
    · clear hR k1 k0 kM
      refine .inl ⟨by kernel_rfl, ?_⟩
      go_simp
      exact ⟨_, rfl, Fr.refl _ _, rfl, trivial⟩
    · have h0 : u 0 = _ := hR 0 (by kernel_rfl)
      clear hR k1 k0 kM
      simp only [h0]
      refine .inl ⟨by kernel_rfl, ?_⟩
      go_simp
      exact ⟨_, rfl, Fr.refl _ _, rfl, trivial⟩
    · have h1 : u 1 = _ := hR 1 (by kernel_rfl)
      clear hR k1 k0 kM
      simp only [h1]
      refine .inl ⟨by kernel_rfl, ?_⟩
      go_simp
      exact ⟨_, rfl, Fr.refl _ _, rfl, trivial⟩
    · have h2 : u 2 = _ := hR 2 (by kernel_rfl)
      clear hR k1 k0 kM
      simp only [h2]
      exact .inr ⟨by kernel_rfl, _, rfl, Fr.refl _ _, rfl, trivial⟩
    · have h2 : u 2 = _ := hR 2 (by kernel_rfl)
      clear hR k1 k0 kM
      simp only [h2]
      exact .inr ⟨by kernel_rfl, _, rfl, Fr.refl _ _, rfl, trivial⟩
    · have h2 : u 2 = _ := hR 2 (by kernel_rfl)
      have h4 : u 4 = _ := hR 4 (by kernel_rfl)
      clear hR k1 k0 kM
      simp only [h2, h4]
      refine .inl ⟨by kernel_rfl, ?_⟩
      go_simp
      exact ⟨_, rfl, Fr.refl _ _, rfl, trivial⟩
    · have h5 : u 5 = _ := hR 5 (by kernel_rfl)
      clear hR k1 k0 kM
      simp only [h5]
      refine .inl ⟨by kernel_rfl, ?_⟩
      go_simp
      exact ⟨_, rfl, Fr.refl _ _, rfl, trivial⟩
    · have h6 : u 6 = _ := hR 6 (by kernel_rfl)
      clear hR k1 k0 kM
      simp only [h6]
      exact .inr ⟨by kernel_rfl, _, rfl, Fr.refl _ _, rfl, trivial⟩
    · have h6 : u 6 = _ := hR 6 (by kernel_rfl)
      clear hR k1 k0 kM
      simp only [h6]
      exact .inr ⟨by kernel_rfl, _, rfl, Fr.refl _ _, rfl, trivial⟩
    · have h6 : u 6 = _ := hR 6 (by kernel_rfl)
      clear hR k1 k0 kM
      simp only [h6]
      exact .inr ⟨by kernel_rfl, _, rfl, Fr.refl _ _, rfl, trivial⟩
    · have h6 : u 6 = _ := hR 6 (by kernel_rfl)
      clear hR k1 k0 kM
      simp only [h6]
      exact .inr ⟨by kernel_rfl, _, rfl, Fr.refl _ _, rfl, trivial⟩
    · have h6 : u 6 = _ := hR 6 (by kernel_rfl)
      clear hR k1 k0 kM
      simp only [h6]
      exact .inr ⟨by kernel_rfl, _, rfl, Fr.refl _ _, rfl, trivial⟩
    · have h6 : u 6 = _ := hR 6 (by kernel_rfl)
      clear hR k1 k0 kM
      simp only [h6]
      exact .inr ⟨by kernel_rfl, _, rfl, Fr.refl _ _, rfl, trivial⟩
    · have h6 : u 6 = _ := hR 6 (by kernel_rfl)
      clear hR k1 k0 kM
      simp only [h6]
      exact .inr ⟨by kernel_rfl, _, rfl, Fr.refl _ _, rfl, trivial⟩
    · have h6 : u 6 = _ := hR 6 (by kernel_rfl)
      clear hR k1 k0 kM
      simp only [h6]
      exact .inr ⟨by kernel_rfl, _, rfl, Fr.refl _ _, rfl, trivial⟩
    · have h6 : u 6 = _ := hR 6 (by kernel_rfl)
      clear hR k1 k0 kM
      simp only [h6]
      exact .inr ⟨by kernel_rfl, _, rfl, Fr.refl _ _, rfl, trivial⟩
    · have h6 : u 6 = _ := hR 6 (by kernel_rfl)
      have h15 : u 15 = _ := hR 15 (by kernel_rfl)
      clear hR k1 k0 kM
      simp only [h6, h15]
      refine .inl ⟨by kernel_rfl, ?_⟩
      go_simp
      exact ⟨_, rfl, Fr.refl _ _, rfl, trivial⟩
  · intro u w' hf hR kM
    have k16 : u 16 = _ := hR 16 (by omega)
    clear hR kM
    simp only [List.take_succ_cons, List.take_zero, List.map_cons, List.map_nil, puts, Act.put, List.setIfInBounds_toArray, List.set_cons_zero, List.set_cons_succ, List.drop_succ_cons, List.drop_zero, Nat.reduceAdd, Nat.zero_add, k16]
    have F2 := Lib.hid hf
    clear hf k16
    go_wp2
    go_ret
    exact ⟨rfl, F2.out⟩

set_option maxRecDepth 100000 in
set_option maxHeartbeats 1000000 in
theorem Diff_nil2 (s : Nat) (w : World) : Calls Tryd.prog 23 #[.pointer (some ⟨s, 0, none⟩), .pointer none] w (Same' w (.slice none 0 0)) := by
  go_enter Tryd.func23, Tryd.ntmps23
  go_upto_region 1 with fail
  refine wp_region_st 17 Nothing [Is (.pointer (some ⟨s, 0, none⟩)), Is (.bool false), Is (.bool false), Is (.pointer none), Is (.bool true), Is (.bool true), Is (.bool true), Is (undef), Is (undef), Is (undef), Is (undef), Is (undef), Is (undef), Is (undef), Is (undef), Is (undef), Is (.bool true)] [] (fun _ => True) (fun _ _ => false) (by kernel_rfl) (by kernel_rfl) (by kernel_rfl) (by kernel_rfl) ⟨Is.stable _, Is.stable _, Is.stable _, Is.stable _, Is.stable _, Is.stable _, Is.stable _, Is.stable _, Is.stable _, Is.stable _, Is.stable _, Is.stable _, Is.stable _, Is.stable _, Is.stable _, Is.stable _, Is.stable _, trivial⟩ trivial (fun _ _ _ _ h => h) trivial ?_ ?_
  · refine ⟨fun u w' d hf hR k1 k0 kM => ?_, fun u w' d hf hR k1 k0 kM => ?_, fun u w' d hf hR k1 k0 kM => ?_, fun u w' d hf hR k1 k0 kM => ?_, fun u w' d hf hR k1 k0 kM => ?_, fun u w' d hf hR k1 k0 kM => ?_, fun u w' d hf hR k1 k0 kM => ?_, fun u w' d hf hR k1 k0 kM => ?_, fun u w' d hf hR k1 k0 kM => ?_, fun u w' d hf hR k1 k0 kM => ?_, fun u w' d hf hR k1 k0 kM => ?_, fun u w' d hf hR k1 k0 kM => ?_, fun u w' d hf hR k1 k0 kM => ?_, fun u w' d hf hR k1 k0 kM => ?_, fun u w' d hf hR k1 k0 kM => ?_, fun u w' d hf hR k1 k0 kM => ?_, fun u w' d hf hR k1 k0 kM => ?_, trivial⟩
    all_goals simp only [List.take_succ_cons, List.take_zero, List.map_cons, List.map_nil, puts, Act.put, List.setIfInBounds_toArray, List.set_cons_zero, List.set_cons_succ, Nat.reduceAdd, Nat.zero_add]
    · clear hR k1 k0 kM
      refine .inl ⟨by kernel_rfl, ?_⟩
      go_simp
      exact ⟨_, rfl, Fr.refl _ _, rfl, trivial⟩
    · have h0 : u 0 = _ := hR 0 (by kernel_rfl)
      clear hR k1 k0 kM
      simp only [h0]
      refine .inl ⟨by kernel_rfl, ?_⟩
      go_simp
      exact ⟨_, rfl, Fr.refl _ _, rfl, trivial⟩
    · have h1 : u 1 = _ := hR 1 (by kernel_rfl)
      clear hR k1 k0 kM
      simp only [h1]
      refine .inl ⟨by kernel_rfl, ?_⟩
      go_simp
      exact ⟨_, rfl, Fr.refl _ _, rfl, trivial⟩
    · have h2 : u 2 = _ := hR 2 (by kernel_rfl)
      clear hR k1 k0 kM
      simp only [h2]
      refine .inl ⟨by kernel_rfl, ?_⟩
      go_simp
      exact ⟨_, rfl, Fr.refl _ _, rfl, trivial⟩
    · have h3 : u 3 = _ := hR 3 (by kernel_rfl)
      have h2 : u 2 = _ := hR 2 (by kernel_rfl)
      clear hR k1 k0 kM
      simp only [h3, h2]
      refine .inl ⟨by kernel_rfl, ?_⟩
      go_simp
      exact ⟨_, rfl, Fr.refl _ _, rfl, trivial⟩
    · have h2 : u 2 = _ := hR 2 (by kernel_rfl)
      have h4 : u 4 = _ := hR 4 (by kernel_rfl)
      clear hR k1 k0 kM
      simp only [h2, h4]
      refine .inl ⟨by kernel_rfl, ?_⟩
      go_simp
      exact ⟨_, rfl, Fr.refl _ _, rfl, trivial⟩
    · have h5 : u 5 = _ := hR 5 (by kernel_rfl)
      clear hR k1 k0 kM
      simp only [h5]
      refine .inl ⟨by kernel_rfl, ?_⟩
      go_simp
      exact ⟨_, rfl, Fr.refl _ _, rfl, trivial⟩
    · have h6 : u 6 = _ := hR 6 (by kernel_rfl)
      clear hR k1 k0 kM
      simp only [h6]
      exact .inr ⟨by kernel_rfl, _, rfl, Fr.refl _ _, rfl, trivial⟩
    · have h6 : u 6 = _ := hR 6 (by kernel_rfl)
      clear hR k1 k0 kM
      simp only [h6]
      exact .inr ⟨by kernel_rfl, _, rfl, Fr.refl _ _, rfl, trivial⟩
    · have h6 : u 6 = _ := hR 6 (by kernel_rfl)
      clear hR k1 k0 kM
      simp only [h6]
      exact .inr ⟨by kernel_rfl, _, rfl, Fr.refl _ _, rfl, trivial⟩
    · have h6 : u 6 = _ := hR 6 (by kernel_rfl)
      clear hR k1 k0 kM
      simp only [h6]
      exact .inr ⟨by kernel_rfl, _, rfl, Fr.refl _ _, rfl, trivial⟩
    · have h6 : u 6 = _ := hR 6 (by kernel_rfl)
      clear hR k1 k0 kM
      simp only [h6]
      exact .inr ⟨by kernel_rfl, _, rfl, Fr.refl _ _, rfl, trivial⟩
    · have h6 : u 6 = _ := hR 6 (by kernel_rfl)
      clear hR k1 k0 kM
      simp only [h6]
      exact .inr ⟨by kernel_rfl, _, rfl, Fr.refl _ _, rfl, trivial⟩
    · have h6 : u 6 = _ := hR 6 (by kernel_rfl)
      clear hR k1 k0 kM
      simp only [h6]
      exact .inr ⟨by kernel_rfl, _, rfl, Fr.refl _ _, rfl, trivial⟩
    · have h6 : u 6 = _ := hR 6 (by kernel_rfl)
      clear hR k1 k0 kM
      simp only [h6]
      exact .inr ⟨by kernel_rfl, _, rfl, Fr.refl _ _, rfl, trivial⟩
    · have h6 : u 6 = _ := hR 6 (by kernel_rfl)
      clear hR k1 k0 kM
      simp only [h6]
      exact .inr ⟨by kernel_rfl, _, rfl, Fr.refl _ _, rfl, trivial⟩
    · have h6 : u 6 = _ := hR 6 (by kernel_rfl)
      have h15 : u 15 = _ := hR 15 (by kernel_rfl)
      clear hR k1 k0 kM
      simp only [h6, h15]
      refine .inl ⟨by kernel_rfl, ?_⟩
      go_simp
      exact ⟨_, rfl, Fr.refl _ _, rfl, trivial⟩
  · intro u w' hf hR kM
    have k16 : u 16 = _ := hR 16 (by omega)
    clear hR kM
    simp only [List.take_succ_cons, List.take_zero, List.map_cons, List.map_nil, puts, Act.put, List.setIfInBounds_toArray, List.set_cons_zero, List.set_cons_succ, List.drop_succ_cons, List.drop_zero, Nat.reduceAdd, Nat.zero_add, k16]
    have F2 := Lib.hid hf
    clear hf k16
    go_wp2
    go_ret
    exact ⟨rfl, F2.out⟩

abbrev zero32c' : Array Value := #[.int .u8 0, .int .u8 0, .int .u8 0, .int .u8 0, .int .u8 0, .int .u8 0, .int .u8 0, .int .u8 0, .int .u8 0, .int .u8 0, .int .u8 0, .int .u8 0, .int .u8 0, .int .u8 0, .int .u8 0, .int .u8 0, .int .u8 0, .int .u8 0, .int .u8 0, .int .u8 0, .int .u8 0, .int .u8 0, .int .u8 0, .int .u8 0, .int .u8 0, .int .u8 0, .int .u8 0, .int .u8 0, .int .u8 0, .int .u8 0, .int .u8 0, .int .u8 0]
theorem zv32' (w : World) : (zeroValue 75).run Tryd.prog w = .ok (.agg zero32c') w := by kernel_rfl
theorem built32' : Tryd.prog.built 75 [] = some zero32c' := by kernel_rfl
theorem info32z : (Tryd.prog.info? 75).map (·.size) = some zero32c'.size := by kernel_rfl
theorem one32z : zero32c'.all (·.oneCell') = true := by kernel_rfl
set_option maxRecDepth 100000 in
set_option maxHeartbeats 1000000 in
theorem Digest_nil (w : World) : Calls Tryd.prog 36 #[.pointer none] w (Same' w (.agg zero32c')) := by
  go_enter Tryd.func36, Tryd.ntmps36
  go_wp2_with (refine wpList_allocBlk rfl 75 rfl (.agg zero32c') zv32' zero32c' rfl ?_)
  intro w1 n1
  have N1 := Lib.hid n1
  clear n1
  go_wp2_with (refine wpList_storeBlk rfl 75 (.tmp 2) _ rfl w.heap.size zero32c' rfl rfl _ _ N1.out.blk info32z rfl one32z ?_)
  intro wz b5 f5
  have J4 := Lib.hid b5
  have JF : Hid (Fr Nothing w wz) := N1.out.fr.then_ f5 (fun i hi e => by have e' : i = w.heap.size := e; omega)
  clear b5 f5
  go_wp2
  exact bodyPost_ret (results_cell_row (fn := Tryd.f36) (p := 2) (ty := 75) Tryd.results36 _ wz _ 75 zero32c' (0, 0) _ rfl J4.out Tryd.underlying75 rfl info32z) rfl ⟨rfl, JF.out⟩

/-! ### Ranging over a nil state -/
theorem Fr.grown0 {w w' : World} (h : Fr Nothing w w') : w.grownBy w' none := ⟨h.os, h.tape, h.output, h.size, fun k hk _ => h.block k hk (fun x => x)⟩
set_option maxRecDepth 100000 in
theorem nodes_nil (w : World) : Calls Tryd.prog 43 #[.pointer none] w fun r w' => r = .returned (.func (.func 72) #[] #[.pointer (some ⟨w.heap.size, 0, none⟩)]) ∧ Fr Nothing w w' ∧ Blk w' w.heap.size 24 #[.pointer none] := by
  go_enter Tryd.func43, Tryd.ntmps43
  go_wp2_with (refine wpList_boxBlk rfl 24 (.tmp 0) rfl #[.pointer none] rfl ?_)
  intro w1 n1
  have N1 := Lib.hid n1
  clear n1
  go_wp2
  go_ret
  exact ⟨rfl, N1.out.fr, N1.out.blk⟩
set_option maxRecDepth 100000 in
set_option maxHeartbeats 1000000 in
theorem nodes_stops0 (m B : Nat) (w : World) (hB : Blk w B 24 #[.pointer none]) :
    SeqStopsK Fence.wide m Tryd.prog 72 #[.pointer (some ⟨B, 0, none⟩)] (fun x : Addr => #[Value.pointer (some x)]) (fun _ _ => True) (fun ys => ys = []) (fun _ => False) 0 w := by
  intro l J Jx W hW hJ _ _ h0
  have H0 := Lib.hid h0
  have k0 : W.cell? ⟨B, 0, none⟩ = some (.pointer none) := (hW.cell (p := ⟨B, 0, none⟩) hB.lt).trans (hB.cell 0)
  clear hB hJ h0 hW
  refine callsIn_of_wp Tryd.func72 rfl trivial ?_ rfl
  simp only [Tryd.ntmps72, List.size_toArray, List.length_cons, List.length_nil, Nat.reduceAdd, Nat.reduceSub, Array.replicate_succ, Array.replicate_zero, List.push_toArray, List.append_toArray, List.nil_append, List.cons_append]
  gi_wp2
  go_end0
  exact ⟨⟨_, rfl⟩, H0.out⟩
theorem fr_ownN {w3 : World} : OwnFrom w3.heap.size (fun (_ : List Addr) W => Fr Nothing w3 W) := fun _ _ _ _ h hg hr => h.then_ (Fr.grown hg) (fun i hi e => by have := (hr i e.symm).1; omega)
theorem zvNames (w : World) : (zeroValue 51).run Tryd.prog w = .ok (.slice none 0 0) w := by kernel_rfl

set_option maxRecDepth 100000 in
set_option maxHeartbeats 1000000 in
theorem Names_nil (w : World) : Calls Tryd.prog 35 #[.pointer none] w (Same' w (.slice none 0 0)) := by
  have CN := Lib.hid (fun w => nodes_nil w)
  have ST := Lib.hid (fun B w hB => nodes_stops0 5 B w hB)
  refine (callsIn_wide (n := 6)).1 (callsIn_of_wp_marks Tryd.func35 rfl trivial (wpIn_wide.2 ?_) rfl)
  simp only [Tryd.ntmps35, List.size_toArray, List.length_cons, List.length_nil, Nat.reduceAdd, Nat.reduceSub, Array.replicate_succ, Array.replicate_zero, List.push_toArray, List.append_toArray, List.nil_append, List.cons_append]
  go_wp2_with (refine wpList_allocBlk rfl 51 rfl (.slice none 0 0) zvNames #[.slice none 0 0] rfl ?_)
  intro w2 n2
  have B2 := Lib.hid n2.blk
  have F2 : Hid (Fr Nothing w w2) := n2.fr
  clear n2
  generalize w.heap.size = g2 at *
  go_wp2_with fail
  refine (CN.out _).mono ?_
  rintro r w3 ⟨rfl, f3, b3⟩
  have F3 := Lib.hid (F2.out.trans f3)
  have B3 := Lib.hid (B2.out.fr f3 (fun x => x))
  have G3 := Lib.hid b3
  clear f3 b3 F2 B2
  generalize w2.heap.size = gs at *
  go_wp2_with fail
  refine (wpIn_wide (n := 6)).1 ?_
  refine wpIn_rangeFunc_ownG rfl (by omega) (gf := 72) (lb := #[.pointer (some ⟨gs, 0, none⟩)]) rfl trivial (enters_of Tryd.func72 (by kernel_rfl) rfl)
    (ST.out gs w3 G3.out) (fun _ _ => trivial) (fun _ _ _ _ _ _ _ _ => trivial) (Below.refl _ _) (fun _ => rfl)
    (fun _ W => Fr Nothing w3 W) (fun _ _ _ => False) fr_ownN (fun _ _ _ _ _ h _ _ => h.elim) (Fr.refl _ _) ?a1 ?assign ?body ?done ?stop
  case assign =>
    intro l x W K hK
    gi_wp2
    exact hK
  case body =>
    rintro l' pre x W hI hlt
    exact absurd hlt (Nat.not_lt_zero _)
  case done =>
    rintro D xs W hD rfl hI hK
    have PF : Fr (fun k => some k = some D) W (W.putObj D (.deferred none)) := Fr.grown (grownBy_putObj' W D _)
    have JF : Hid (Fr Nothing w (W.putObj D (.deferred none))) := (F3.out.trans hI).then_ PF (fun i hi e => by have e' : i = D := (by simpa using e); have := F3.out.size; omega)
    have c2 := (B3.out.fr hI (fun x => x)).cell 0
    simp only [List.getElem?_toArray, List.getElem?_cons_zero] at c2
    have KD := Lib.hid hK
    clear PF hI hK hD
    go_wp2
    refine ⟨by simp, .inl ⟨_, _, rfl, run_takeDeferred KD.out, ?_⟩⟩
    exact ⟨_, results_tmp Tryd.results35 _ _ _, rfl, JF.out⟩
  case stop =>
    rintro D cd pre W hD h
    exact h.elim

set_option maxRecDepth 100000 in
set_option maxHeartbeats 1000000 in
theorem Kind_nil (k : Int) (w : World) : Calls Tryd.prog 21 #[.pointer none, .int .i64 k] w (Same' w (.slice none 0 0)) := by
  have CN := Lib.hid (fun w => nodes_nil w)
  have ST := Lib.hid (fun B w hB => nodes_stops0 5 B w hB)
  refine (callsIn_wide (n := 6)).1 (callsIn_of_wp_marks Tryd.func21 rfl trivial (wpIn_wide.2 ?_) rfl)
  simp only [Tryd.ntmps21, List.size_toArray, List.length_cons, List.length_nil, Nat.reduceAdd, Nat.reduceSub, Array.replicate_succ, Array.replicate_zero, List.push_toArray, List.append_toArray, List.nil_append, List.cons_append]
  go_wp2_with (refine wpList_boxBlk rfl 3 (.tmp 1) rfl #[.int .i64 k] rfl ?_)
  intro w1 n1
  have F1 := Lib.hid n1.fr
  clear n1
  go_wp2_with (refine wpList_allocBlk rfl 51 rfl (.slice none 0 0) zvNames #[.slice none 0 0] rfl ?_)
  intro w2 n2
  have B2 := Lib.hid n2.blk
  have F2 : Hid (Fr Nothing w w2) := F1.out.trans n2.fr
  clear n2
  generalize w1.heap.size = g2 at *
  go_wp2_with fail
  refine (CN.out _).mono ?_
  rintro r w3 ⟨rfl, f3, b3⟩
  have F3 := Lib.hid (F2.out.trans f3)
  have B3 := Lib.hid (B2.out.fr f3 (fun x => x))
  have G3 := Lib.hid b3
  clear f3 b3 F2 B2
  generalize w2.heap.size = gs at *
  go_wp2_with fail
  refine (wpIn_wide (n := 6)).1 ?_
  refine wpIn_rangeFunc_ownG rfl (by omega) (gf := 72) (lb := #[.pointer (some ⟨gs, 0, none⟩)]) rfl trivial (enters_of Tryd.func72 (by kernel_rfl) rfl)
    (ST.out gs w3 G3.out) (fun _ _ => trivial) (fun _ _ _ _ _ _ _ _ => trivial) (Below.refl _ _) (fun _ => rfl)
    (fun _ W => Fr Nothing w3 W) (fun _ _ _ => False) fr_ownN (fun _ _ _ _ _ h _ _ => h.elim) (Fr.refl _ _) ?a1 ?assign ?body ?done ?stop
  case assign =>
    intro l x W K hK
    gi_wp2
    exact hK
  case body =>
    rintro l' pre x W hI hlt
    exact absurd hlt (Nat.not_lt_zero _)
  case done =>
    rintro D xs W hD rfl hI hK
    have PF : Fr (fun k => some k = some D) W (W.putObj D (.deferred none)) := Fr.grown (grownBy_putObj' W D _)
    have JF : Hid (Fr Nothing w (W.putObj D (.deferred none))) := (F3.out.trans hI).then_ PF (fun i hi e => by have e' : i = D := (by simpa using e); have := F3.out.size; omega)
    have c2 := (B3.out.fr hI (fun x => x)).cell 0
    simp only [List.getElem?_toArray, List.getElem?_cons_zero] at c2
    have KD := Lib.hid hK
    clear PF hI hK hD
    go_wp2
    refine ⟨by simp, .inl ⟨_, _, rfl, run_takeDeferred KD.out, ?_⟩⟩
    exact ⟨_, results_tmp Tryd.results21 _ _ _, rfl, JF.out⟩
  case stop =>
    rintro D cd pre W hD h
    exact h.elim
end Go.Proofs.YtpnchdgplpdefaaDoor
