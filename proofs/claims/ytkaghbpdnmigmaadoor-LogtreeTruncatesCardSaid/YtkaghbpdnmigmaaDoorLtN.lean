/- The methods of a nil tree. -/
import Derived.Test.YtkaghbpdnmigmaaDoorLtO
namespace Go.Proofs.YtkaghbpdnmigmaaDoor
open Go.RowKit

theorem zero_dig : zero32 = digV (List.replicate 32 0) := by kernel_rfl
theorem zero_size : zero32c.size = 32 := by kernel_rfl
theorem zero_one : zero32c.all (·.oneCell') = true := by kernel_rfl
theorem built24 : Tryd.prog.built 24 [] = some zero32c := by kernel_rfl
theorem infoZ : (Tryd.prog.info? 24).map (·.size) = some zero32c.size := by rw [zero_size]; exact infoD

set_option maxRecDepth 100000 in
set_option maxHeartbeats 1000000 in
theorem Leaf_nil (a : Int) (w : World) : Calls Tryd.prog 31 #[.pointer none, .int .i64 a] w (Same' w (.tuple #[.agg zero32c, .int .i64 1])) := by
  go_enter Tryd.func31, Tryd.ntmps31
  go_wp2_with (refine wpList_allocBlk rfl 24 rfl zero32 zvD zero32c rfl ?_)
  intro w1 n1
  have N1 := Lib.hid n1
  clear n1
  go_wp2_with (first | (refine wpList_buildTo rfl 24 #[] rfl zero32c built24 ?_) | (refine wpList_storeBlk rfl 24 (.tmp 4) _ rfl w.heap.size zero32c rfl rfl _ _ N1.out.blk infoZ rfl zero_one ?_))
  intro wz b5 f5
  have J4 := Lib.hid b5
  have JF : Hid (Fr Nothing w wz) := N1.out.fr.then_ f5 (fun i hi e => by have e' : i = w.heap.size := e; omega)
  clear b5 f5
  go_wp2
  exact bodyPost_ret (results_cell_slot (fn := Tryd.f31) (p := 4) (q := 5) (ty := 24) Tryd.results31 _ wz _ 24 zero32c (0, 0) _ rfl J4.out Tryd.underlying24 rfl infoZ _ rfl) rfl ⟨rfl, JF.out⟩

set_option maxRecDepth 100000 in
set_option maxHeartbeats 1000000 in
theorem Root_nil (a : Int) (w : World) : Calls Tryd.prog 32 #[.pointer none, .int .i64 a] w (Same' w (.tuple #[.agg zero32c, .int .i64 1])) := by
  go_enter Tryd.func32, Tryd.ntmps32
  go_wp2_with (refine wpList_allocBlk rfl 24 rfl zero32 zvD zero32c rfl ?_)
  intro w1 n1
  have N1 := Lib.hid n1
  clear n1
  go_wp2_with (first | (refine wpList_buildTo rfl 24 #[] rfl zero32c built24 ?_) | (refine wpList_storeBlk rfl 24 (.tmp 4) _ rfl w.heap.size zero32c rfl rfl _ _ N1.out.blk infoZ rfl zero_one ?_))
  intro wz b5 f5
  have J4 := Lib.hid b5
  have JF : Hid (Fr Nothing w wz) := N1.out.fr.then_ f5 (fun i hi e => by have e' : i = w.heap.size := e; omega)
  clear b5 f5
  go_wp2
  exact bodyPost_ret (results_cell_slot (fn := Tryd.f32) (p := 4) (q := 5) (ty := 24) Tryd.results32 _ wz _ 24 zero32c (0, 0) _ rfl J4.out Tryd.underlying24 rfl infoZ _ rfl) rfl ⟨rfl, JF.out⟩

set_option maxRecDepth 100000 in
theorem Include_nil (a b : Int) (w : World) : Calls Tryd.prog 30 #[.pointer none, .int .i64 a, .int .i64 b] w (Same' w (.tuple #[.slice none 0 0, .int .i64 1])) := by
  go_enter Tryd.func30, Tryd.ntmps30
  go_wp2
  go_ret2
  exact ⟨rfl, Fr.refl _ _⟩

set_option maxRecDepth 100000 in
theorem Extend_nil (a b : Int) (w : World) : Calls Tryd.prog 33 #[.pointer none, .int .i64 a, .int .i64 b] w (Same' w (.tuple #[.slice none 0 0, .int .i64 1])) := by
  go_enter Tryd.func33, Tryd.ntmps33
  go_wp2
  go_ret2
  exact ⟨rfl, Fr.refl _ _⟩

set_option maxRecDepth 100000 in
theorem Append_nil (cs : Array Value) (w : World) : Calls Tryd.prog 39 #[.pointer none, .agg cs] w (Same' w (.int .i64 1)) := by
  go_enter Tryd.func39, Tryd.ntmps39
  go_wp2_with (refine wpList_boxBlk rfl 24 (.tmp 1) rfl _ rfl ?_)
  intro w1 n1
  have N1 := Lib.hid n1
  clear n1
  go_wp2
  go_ret
  exact ⟨rfl, N1.out.fr⟩

set_option maxRecDepth 100000 in
theorem Len_nil (w : World) : Calls Tryd.prog 42 #[.pointer none] w (Same' w (.int .i64 0)) := by
  go_enter Tryd.func42, Tryd.ntmps42
  go_wp2
  go_ret
  exact ⟨rfl, Fr.refl _ _⟩

set_option maxRecDepth 100000 in
theorem Truncate_nil (a : Int) (w : World) : Calls Tryd.prog 40 #[.pointer none, .int .i64 a] w (Same' w (.int .i64 1)) := by
  go_enter Tryd.func40, Tryd.ntmps40
  go_wp2_with (refine wpList_boxBlk rfl 3 (.tmp 1) rfl _ rfl ?_)
  intro w1 n1
  have N1 := Lib.hid n1
  clear n1
  go_wp2
  go_ret
  exact ⟨rfl, N1.out.fr⟩

set_option maxRecDepth 100000 in
theorem Clone_nil (w : World) : Calls Tryd.prog 38 #[.pointer none] w (Same' w (.pointer none)) := by
  go_enter Tryd.func38, Tryd.ntmps38
  go_wp2
  go_ret
  exact ⟨rfl, Fr.refl _ _⟩

set_option maxRecDepth 100000 in
theorem Equal_nil (w : World) : Calls Tryd.prog 41 #[.pointer none, .pointer none] w (Same' w (.bool true)) := by
  go_enter Tryd.func41, Tryd.ntmps41
  go_wp2
  go_ret
  exact ⟨rfl, Fr.refl _ _⟩

set_option maxRecDepth 100000 in
theorem Equal_nil_new (g : Nat) (w : World) : Calls Tryd.prog 41 #[.pointer none, .pointer (some ⟨g, 0, none⟩)] w (Same' w (.bool false)) := by
  go_enter Tryd.func41, Tryd.ntmps41
  go_wp2
  go_ret
  exact ⟨rfl, Fr.refl _ _⟩

set_option maxRecDepth 100000 in
theorem Equal_new_nil (g : Nat) (w : World) : Calls Tryd.prog 41 #[.pointer (some ⟨g, 0, none⟩), .pointer none] w (Same' w (.bool false)) := by
  go_enter Tryd.func41, Tryd.ntmps41
  go_wp2
  go_ret
  exact ⟨rfl, Fr.refl _ _⟩
end Go.Proofs.YtkaghbpdnmigmaaDoor
