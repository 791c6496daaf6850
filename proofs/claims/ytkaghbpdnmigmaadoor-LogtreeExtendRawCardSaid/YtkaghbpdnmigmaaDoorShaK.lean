/- The reference's K. -/
import Derived.Test.YtkaghbpdnmigmaaDoorShaA
import Derived.Test.YtkaghbpdnmigmaaDoorShaM
import Derived.Deep.DeepCutAuto
namespace Go.Proofs.YtkaghbpdnmigmaaDoor
open Go.RowKit

set_option maxRecDepth 100000 in
set_option maxHeartbeats 1000000 in
theorem K_any (w : World) : Calls Tryd.prog 78 #[] w (Same' w (.agg (kTab.map u32v).toArray)) := by
  obtain ⟨KA, hKA⟩ : ∃ KA, KA = (kTab.map u32v).toArray := ⟨_, rfl⟩
  rw [← hKA]
  have HKA := Lib.hid hKA
  clear hKA
  go_enter Tryd.func78, Tryd.ntmps78
  go_upto_region 1 with fail
  generalize hw : w.alloc _ = w1
  obtain ⟨cs, hcs, hB⟩ : ∃ cs : Array Value, cs.size = 64 ∧ Blk w1 w.heap.size 122 cs := ⟨_, rfl, by rw [← hw]; exact Blk.new w _ _⟩
  have HF : Hid (Fr Nothing w w1) := by rw [← hw]; exact (Fr.refl _ _).alloc _
  have HB := Lib.hid hB
  have HC := Lib.hid hcs
  clear hw hB hcs
  generalize hg : w.heap.size = g at *
  have HG := Lib.hid hg
  clear hg
  go_wp2_with (first | (refine wpList_buildTo rfl 122 _ rfl KA (by rw [HKA.out]; kernel_rfl) ?_) | (refine wpList_store_row rfl 122 _ _ rfl _ KA rfl rfl _ _ HB.out (by rw [HKA.out]; kernel_rfl) (by rw [HC.out, HKA.out]; kernel_rfl) (by rw [HKA.out]; kernel_rfl) ?_))
  have HB2 := Lib.hid (heap_setRow_same (cs := KA) HB.out)
  have HF2 : Hid (Fr Nothing w (w1.setRow g KA)) := HF.out.setRow (fun h => by have := HG.out; omega) KA
  exact bodyPost_ret (results_cell_row rfl _ _ _ _ _ _ _ rfl HB2.out Tryd.underlying122 rfl (by rw [HKA.out]; kernel_rfl)) rfl ⟨rfl, HF2.out⟩
end Go.Proofs.YtkaghbpdnmigmaaDoor
