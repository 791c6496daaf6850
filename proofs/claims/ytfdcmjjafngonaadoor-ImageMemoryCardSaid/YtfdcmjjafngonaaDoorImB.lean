/- Image.Check of both sides (written by genI1.py). -/
import Derived.Test.YtfdcmjjafngonaaDoorImA
import Derived.Test.YtfdcmjjafngonaaDoorGwA
namespace Go.Proofs.YtfdcmjjafngonaaDoor
open Go.RowKit

theorem img_cells {w w' : World} {g : Nat} {t : TypeId} {c d : ByteArray} {z e : Int} (h : Blk w g t (imgC c d z e)) (hf : Fr Nothing w w') :
    w'.cell? ⟨g, 0, none⟩ = some (.string c) ∧ w'.cell? ⟨g, 1, none⟩ = some (.string d) ∧ w'.cell? ⟨g, 2, none⟩ = some (.int .i64 z) ∧ w'.cell? ⟨g, 3, none⟩ = some (.int .i64 e) := by
  have h' := h.fr hf (fun x => x)
  exact ⟨h'.cell 0, h'.cell 1, h'.cell 2, h'.cell 3⟩
theorem bytes_empty (c : ByteArray) : c.toList.isEmpty = decide (c.size = 0) := by
  rw [Bool.eq_iff_iff]
  simp [ByteArray.toList_eq]
  exact ⟨fun h => by cases c; simp at h; subst h; rfl, fun h => by rw [h]; rfl⟩

set_option maxRecDepth 100000 in
set_option maxHeartbeats 1000000 in
theorem Check_any (c d : ByteArray) (z e : Int) (w : World) (hc : c.size ≤ 1099511627776) (hd : d.size ≤ 1099511627776) (hz : -9223372036854775808 ≤ z ∧ z ≤ 9223372036854775807) (he : -9223372036854775808 ≤ e ∧ e ≤ 9223372036854775807) :
    Calls Tryd.prog 14 #[imgV c d z e] w (SameIn w (.int .i64 (checkI c.size d.size z e))) := by
  by_cases h1 : c.size = 0
  · rw [checkI, if_pos h1]
    have t1 : ((c.size : Int) == 0) = true := by rw [beq_iff_eq]; omega
    go_enter Tryd.func14, Tryd.ntmps14
    go_wp2
    go_ret
    exact ⟨rfl, (Fr.refl _ _).alloc _⟩
  have t1 : ((c.size : Int) == 0) = false := by rw [beq_eq_false_iff_ne]; omega
  obtain ⟨r, hr⟩ : ∃ r, r = c.size % 4 := ⟨_, rfl⟩
  have m1 : (c.size : Int).tmod 4 = (r : Int) := by rw [Int.tmod_eq_emod_of_nonneg (by omega)]; omega
  have m2 : (c.size : Int) % 4 = (r : Int) := by omega
  have mb : r < 4 := by omega
  by_cases h2 : c.size % 4 ≠ 0
  · rw [checkI, if_neg h1, if_pos h2]
    have t2 : ((r : Int) != 0) = true := by rw [bne_iff_ne]; omega
    clear hr h2
    go_enter Tryd.func14, Tryd.ntmps14
    go_wp2
    go_ret
    exact ⟨rfl, (Fr.refl _ _).alloc _⟩
  have t2 : ((r : Int) != 0) = false := by rw [bne_eq_false_iff_eq]; omega
  have HR := Lib.hid hr
  clear hr
  by_cases h3 : z < 0
  · rw [checkI, if_neg h1, if_neg h2, if_pos (.inl h3)]
    have t3 : decide (z < 0) = true := decide_eq_true h3
    clear h2
    go_enter Tryd.func14, Tryd.ntmps14
    go_wp2
    go_ret
    exact ⟨rfl, (Fr.refl _ _).alloc _⟩
  have t3 : decide (z < 0) = false := decide_eq_false h3
  by_cases h4 : 4096 < z
  · rw [checkI, if_neg h1, if_neg h2, if_pos (.inr h4)]
    have t4 : decide (4096 < z) = true := decide_eq_true h4
    clear h2
    go_enter Tryd.func14, Tryd.ntmps14
    go_wp2
    go_ret
    exact ⟨rfl, (Fr.refl _ _).alloc _⟩
  have t4 : decide (4096 < z) = false := decide_eq_false h4
  have hu := upN_le c.size
  have CU := Lib.hid (fun w => dataAt_any c d z e w (by omega))
  obtain ⟨s, hs⟩ : ∃ s : Int, s = ((upN c.size : Nat) : Int) + (d.size : Int) := ⟨_, rfl⟩
  have b0 : upN c.size ≤ 1099511627900 := by omega
  have a1 : IntKind.i64.wrap (((upN c.size : Nat) : Int) + (d.size : Int)) = ((upN c.size : Nat) : Int) + (d.size : Int) := IntWalk.i64_in _ (by omega)
  have a2 : IntKind.i64.wrap (((upN c.size : Nat) : Int) + (d.size : Int) + z) = ((upN c.size : Nat) : Int) + (d.size : Int) + z := IntWalk.i64_in _ (by omega)
  have hX : checkI c.size d.size z e = if 4096 < ((upN c.size : Nat) : Int) + (d.size : Int) + z then 5 else if e < 0 ∨ e % 4 ≠ 0 ∨ (c.size : Int) - 4 < e then 2 else 0 := by
    rw [checkI, if_neg h1, if_neg h2, if_neg (by omega)]
  rw [hX]
  clear hX hs s hu h2
  generalize upN c.size = u at *
  by_cases h5 : 4096 < (u : Int) + (d.size : Int) + z
  · rw [if_pos h5]
    have t5 : decide (4096 < (u : Int) + (d.size : Int) + z) = true := decide_eq_true h5
    go_enter Tryd.func14, Tryd.ntmps14
    go_wp2
    generalize hW : w.alloc (.cells (imgC c d z e) 27) = W at *
    have FW : Hid (Fr Nothing w W) := by rw [← hW]; exact (Fr.refl _ _).alloc _
    have BW : Hid (Blk W w.heap.size 27 (imgC c d z e)) := by rw [← hW]; exact Blk.new _ _ _
    clear hW
    generalize w.heap.size = g at *
    have q0 : ∀ y : In (Later W), y.w.cell? ⟨g, 0, none⟩ = some (.string c) := fun y => (img_cells BW.out y.h).1
    have q1 : ∀ y : In (Later W), y.w.cell? ⟨g, 1, none⟩ = some (.string d) := fun y => (img_cells BW.out y.h).2.1
    have q2 : ∀ y : In (Later W), y.w.cell? ⟨g, 2, none⟩ = some (.int .i64 z) := fun y => (img_cells BW.out y.h).2.2.1
    have q3 : ∀ y : In (Later W), y.w.cell? ⟨g, 3, none⟩ = some (.int .i64 e) := fun y => (img_cells BW.out y.h).2.2.2
    refine wp_region_in (Later W) ((Fr.refl _ _).drew) (by kernel_rfl) (by kernel_rfl) ?_
    repeat (go_big_quiet_step ((go_at_call 31; exact In.later (CU.out _))))
    refine wpQuiet_nil ?_
    rintro _ ⟨y, rfl⟩
    have FY := Lib.hid (FW.out.trans y.h)
    obtain ⟨k0, k1, k2, k3⟩ := img_cells BW.out y.h
    generalize y.w = w1 at *
    clear q0 q1 q2 q3 y CU
    go_wp2
    go_ret
    exact ⟨rfl, FY.out⟩
  rw [if_neg h5]
  have t5 : decide (4096 < (u : Int) + (d.size : Int) + z) = false := decide_eq_false h5
  have a3 : IntKind.i64.wrap ((c.size : Int) - 4) = (c.size : Int) - 4 := IntWalk.i64_in _ (by omega)
  by_cases h6 : e < 0
  · rw [if_pos (.inl h6)]
    have t6 : decide (e < 0) = true := decide_eq_true h6
    go_enter Tryd.func14, Tryd.ntmps14
    go_wp2
    generalize hW : w.alloc (.cells (imgC c d z e) 27) = W at *
    have FW : Hid (Fr Nothing w W) := by rw [← hW]; exact (Fr.refl _ _).alloc _
    have BW : Hid (Blk W w.heap.size 27 (imgC c d z e)) := by rw [← hW]; exact Blk.new _ _ _
    clear hW
    generalize w.heap.size = g at *
    have q0 : ∀ y : In (Later W), y.w.cell? ⟨g, 0, none⟩ = some (.string c) := fun y => (img_cells BW.out y.h).1
    have q1 : ∀ y : In (Later W), y.w.cell? ⟨g, 1, none⟩ = some (.string d) := fun y => (img_cells BW.out y.h).2.1
    have q2 : ∀ y : In (Later W), y.w.cell? ⟨g, 2, none⟩ = some (.int .i64 z) := fun y => (img_cells BW.out y.h).2.2.1
    have q3 : ∀ y : In (Later W), y.w.cell? ⟨g, 3, none⟩ = some (.int .i64 e) := fun y => (img_cells BW.out y.h).2.2.2
    refine wp_region_in (Later W) ((Fr.refl _ _).drew) (by kernel_rfl) (by kernel_rfl) ?_
    repeat (go_big_quiet_step ((go_at_call 31; exact In.later (CU.out _))))
    refine wpQuiet_nil ?_
    rintro _ ⟨y, rfl⟩
    have FY := Lib.hid (FW.out.trans y.h)
    obtain ⟨k0, k1, k2, k3⟩ := img_cells BW.out y.h
    generalize y.w = w1 at *
    clear q0 q1 q2 q3 y CU
    go_wp2
    go_ret
    exact ⟨rfl, FY.out⟩
  have t6 : decide (e < 0) = false := decide_eq_false h6
  obtain ⟨x, hx⟩ : ∃ x, x = e % 4 := ⟨_, rfl⟩
  have m3 : e.tmod 4 = x := by rw [Int.tmod_eq_emod_of_nonneg (by omega), hx]
  have m4 : e % 4 = x := hx.symm
  have xb : 0 ≤ x ∧ x < 4 := by omega
  rw [m4]
  clear hx
  by_cases h7 : x ≠ 0
  · rw [if_pos (.inr (.inl h7))]
    have t7 : (x != 0) = true := by rw [bne_iff_ne]; exact h7
    by_cases h8 : (c.size : Int) - 4 < e
    · have t8 : decide ((c.size : Int) - 4 < e) = true := decide_eq_true h8
      go_enter Tryd.func14, Tryd.ntmps14
      go_wp2
      generalize hW : w.alloc (.cells (imgC c d z e) 27) = W at *
      have FW : Hid (Fr Nothing w W) := by rw [← hW]; exact (Fr.refl _ _).alloc _
      have BW : Hid (Blk W w.heap.size 27 (imgC c d z e)) := by rw [← hW]; exact Blk.new _ _ _
      clear hW
      generalize w.heap.size = g at *
      have q0 : ∀ y : In (Later W), y.w.cell? ⟨g, 0, none⟩ = some (.string c) := fun y => (img_cells BW.out y.h).1
      have q1 : ∀ y : In (Later W), y.w.cell? ⟨g, 1, none⟩ = some (.string d) := fun y => (img_cells BW.out y.h).2.1
      have q2 : ∀ y : In (Later W), y.w.cell? ⟨g, 2, none⟩ = some (.int .i64 z) := fun y => (img_cells BW.out y.h).2.2.1
      have q3 : ∀ y : In (Later W), y.w.cell? ⟨g, 3, none⟩ = some (.int .i64 e) := fun y => (img_cells BW.out y.h).2.2.2
      refine wp_region_in (Later W) ((Fr.refl _ _).drew) (by kernel_rfl) (by kernel_rfl) ?_
      repeat (go_big_quiet_step ((go_at_call 31; exact In.later (CU.out _))))
      refine wpQuiet_nil ?_
      rintro _ ⟨y, rfl⟩
      have FY := Lib.hid (FW.out.trans y.h)
      obtain ⟨k0, k1, k2, k3⟩ := img_cells BW.out y.h
      generalize y.w = w1 at *
      clear q0 q1 q2 q3 y CU
      go_wp2
      go_ret
      exact ⟨rfl, FY.out⟩
    · have t8 : decide ((c.size : Int) - 4 < e) = false := decide_eq_false h8
      go_enter Tryd.func14, Tryd.ntmps14
      go_wp2
      generalize hW : w.alloc (.cells (imgC c d z e) 27) = W at *
      have FW : Hid (Fr Nothing w W) := by rw [← hW]; exact (Fr.refl _ _).alloc _
      have BW : Hid (Blk W w.heap.size 27 (imgC c d z e)) := by rw [← hW]; exact Blk.new _ _ _
      clear hW
      generalize w.heap.size = g at *
      have q0 : ∀ y : In (Later W), y.w.cell? ⟨g, 0, none⟩ = some (.string c) := fun y => (img_cells BW.out y.h).1
      have q1 : ∀ y : In (Later W), y.w.cell? ⟨g, 1, none⟩ = some (.string d) := fun y => (img_cells BW.out y.h).2.1
      have q2 : ∀ y : In (Later W), y.w.cell? ⟨g, 2, none⟩ = some (.int .i64 z) := fun y => (img_cells BW.out y.h).2.2.1
      have q3 : ∀ y : In (Later W), y.w.cell? ⟨g, 3, none⟩ = some (.int .i64 e) := fun y => (img_cells BW.out y.h).2.2.2
      refine wp_region_in (Later W) ((Fr.refl _ _).drew) (by kernel_rfl) (by kernel_rfl) ?_
      repeat (go_big_quiet_step ((go_at_call 31; exact In.later (CU.out _))))
      refine wpQuiet_nil ?_
      rintro _ ⟨y, rfl⟩
      have FY := Lib.hid (FW.out.trans y.h)
      obtain ⟨k0, k1, k2, k3⟩ := img_cells BW.out y.h
      generalize y.w = w1 at *
      clear q0 q1 q2 q3 y CU
      go_wp2
      go_ret
      exact ⟨rfl, FY.out⟩
  have t7 : (x != 0) = false := by rw [bne_eq_false_iff_eq]; omega
  by_cases h8 : (c.size : Int) - 4 < e
  · rw [if_pos (.inr (.inr h8))]
    have t8 : decide ((c.size : Int) - 4 < e) = true := decide_eq_true h8
    go_enter Tryd.func14, Tryd.ntmps14
    go_wp2
    generalize hW : w.alloc (.cells (imgC c d z e) 27) = W at *
    have FW : Hid (Fr Nothing w W) := by rw [← hW]; exact (Fr.refl _ _).alloc _
    have BW : Hid (Blk W w.heap.size 27 (imgC c d z e)) := by rw [← hW]; exact Blk.new _ _ _
    clear hW
    generalize w.heap.size = g at *
    have q0 : ∀ y : In (Later W), y.w.cell? ⟨g, 0, none⟩ = some (.string c) := fun y => (img_cells BW.out y.h).1
    have q1 : ∀ y : In (Later W), y.w.cell? ⟨g, 1, none⟩ = some (.string d) := fun y => (img_cells BW.out y.h).2.1
    have q2 : ∀ y : In (Later W), y.w.cell? ⟨g, 2, none⟩ = some (.int .i64 z) := fun y => (img_cells BW.out y.h).2.2.1
    have q3 : ∀ y : In (Later W), y.w.cell? ⟨g, 3, none⟩ = some (.int .i64 e) := fun y => (img_cells BW.out y.h).2.2.2
    refine wp_region_in (Later W) ((Fr.refl _ _).drew) (by kernel_rfl) (by kernel_rfl) ?_
    repeat (go_big_quiet_step ((go_at_call 31; exact In.later (CU.out _))))
    refine wpQuiet_nil ?_
    rintro _ ⟨y, rfl⟩
    have FY := Lib.hid (FW.out.trans y.h)
    obtain ⟨k0, k1, k2, k3⟩ := img_cells BW.out y.h
    generalize y.w = w1 at *
    clear q0 q1 q2 q3 y CU
    go_wp2
    go_ret
    exact ⟨rfl, FY.out⟩
  rw [if_neg (by omega)]
  have t8 : decide ((c.size : Int) - 4 < e) = false := decide_eq_false h8
  go_enter Tryd.func14, Tryd.ntmps14
  go_wp2
  generalize hW : w.alloc (.cells (imgC c d z e) 27) = W at *
  have FW : Hid (Fr Nothing w W) := by rw [← hW]; exact (Fr.refl _ _).alloc _
  have BW : Hid (Blk W w.heap.size 27 (imgC c d z e)) := by rw [← hW]; exact Blk.new _ _ _
  clear hW
  generalize w.heap.size = g at *
  have q0 : ∀ y : In (Later W), y.w.cell? ⟨g, 0, none⟩ = some (.string c) := fun y => (img_cells BW.out y.h).1
  have q1 : ∀ y : In (Later W), y.w.cell? ⟨g, 1, none⟩ = some (.string d) := fun y => (img_cells BW.out y.h).2.1
  have q2 : ∀ y : In (Later W), y.w.cell? ⟨g, 2, none⟩ = some (.int .i64 z) := fun y => (img_cells BW.out y.h).2.2.1
  have q3 : ∀ y : In (Later W), y.w.cell? ⟨g, 3, none⟩ = some (.int .i64 e) := fun y => (img_cells BW.out y.h).2.2.2
  refine wp_region_in (Later W) ((Fr.refl _ _).drew) (by kernel_rfl) (by kernel_rfl) ?_
  repeat (go_big_quiet_step ((go_at_call 31; exact In.later (CU.out _))))
  refine wpQuiet_nil ?_
  rintro _ ⟨y, rfl⟩
  have FY := Lib.hid (FW.out.trans y.h)
  obtain ⟨k0, k1, k2, k3⟩ := img_cells BW.out y.h
  generalize y.w = w1 at *
  clear q0 q1 q2 q3 y CU
  go_wp2
  go_ret
  exact ⟨rfl, FY.out⟩

set_option maxRecDepth 100000 in
set_option maxHeartbeats 1000000 in
theorem rCheck_any (c d : ByteArray) (z e : Int) (w : World) (hc : c.size ≤ 1099511627776) (hd : d.size ≤ 1099511627776) (hz : -9223372036854775808 ≤ z ∧ z ≤ 9223372036854775807) (he : -9223372036854775808 ≤ e ∧ e ≤ 9223372036854775807) :
    Calls Tryd.prog 15 #[imgV c d z e] w (SameIn w (.int .i64 (checkI c.size d.size z e))) := by
  by_cases h1 : c.size = 0
  · rw [checkI, if_pos h1]
    have t1 : c.toList.isEmpty = true := by rw [bytes_empty]; exact decide_eq_true h1
    go_enter Tryd.func15, Tryd.ntmps15
    go_wp2
    go_ret
    exact ⟨rfl, (Fr.refl _ _).alloc _⟩
  have t1 : c.toList.isEmpty = false := by rw [bytes_empty]; exact decide_eq_false h1
  obtain ⟨r, hr⟩ : ∃ r, r = c.size % 4 := ⟨_, rfl⟩
  have m1 : (c.size : Int).tmod 4 = (r : Int) := by rw [Int.tmod_eq_emod_of_nonneg (by omega)]; omega
  have m2 : (c.size : Int) % 4 = (r : Int) := by omega
  have mb : r < 4 := by omega
  by_cases h2 : c.size % 4 ≠ 0
  · rw [checkI, if_neg h1, if_pos h2]
    have t2 : ((r : Int) != 0) = true := by rw [bne_iff_ne]; omega
    clear hr h2
    go_enter Tryd.func15, Tryd.ntmps15
    go_wp2
    go_ret
    exact ⟨rfl, (Fr.refl _ _).alloc _⟩
  have t2 : ((r : Int) != 0) = false := by rw [bne_eq_false_iff_eq]; omega
  have HR := Lib.hid hr
  clear hr
  by_cases h3 : z < 0
  · rw [checkI, if_neg h1, if_neg h2, if_pos (.inl h3)]
    have t3 : decide (z < 0) = true := decide_eq_true h3
    clear h2
    go_enter Tryd.func15, Tryd.ntmps15
    go_wp2
    go_ret
    exact ⟨rfl, (Fr.refl _ _).alloc _⟩
  have t3 : decide (z < 0) = false := decide_eq_false h3
  by_cases h4 : 4096 < z
  · rw [checkI, if_neg h1, if_neg h2, if_pos (.inr h4)]
    have t4 : decide (4096 < z) = true := decide_eq_true h4
    clear h2
    go_enter Tryd.func15, Tryd.ntmps15
    go_wp2
    go_ret
    exact ⟨rfl, (Fr.refl _ _).alloc _⟩
  have t4 : decide (4096 < z) = false := decide_eq_false h4
  have hu := upN_le c.size
  have CU := Lib.hid (fun w => up_any c.size w (by omega))
  obtain ⟨s, hs⟩ : ∃ s : Int, s = ((upN c.size : Nat) : Int) + (d.size : Int) := ⟨_, rfl⟩
  have b0 : upN c.size ≤ 1099511627900 := by omega
  have a1 : IntKind.i64.wrap (((upN c.size : Nat) : Int) + (d.size : Int)) = ((upN c.size : Nat) : Int) + (d.size : Int) := IntWalk.i64_in _ (by omega)
  have a2 : IntKind.i64.wrap (((upN c.size : Nat) : Int) + (d.size : Int) + z) = ((upN c.size : Nat) : Int) + (d.size : Int) + z := IntWalk.i64_in _ (by omega)
  have hX : checkI c.size d.size z e = if 4096 < ((upN c.size : Nat) : Int) + (d.size : Int) + z then 5 else if e < 0 ∨ e % 4 ≠ 0 ∨ (c.size : Int) - 4 < e then 2 else 0 := by
    rw [checkI, if_neg h1, if_neg h2, if_neg (by omega)]
  rw [hX]
  clear hX hs s hu h2
  generalize upN c.size = u at *
  by_cases h5 : 4096 < (u : Int) + (d.size : Int) + z
  · rw [if_pos h5]
    have t5 : decide (4096 < (u : Int) + (d.size : Int) + z) = true := decide_eq_true h5
    go_enter Tryd.func15, Tryd.ntmps15
    go_wp2
    generalize hW : w.alloc (.cells (imgC c d z e) 23) = W at *
    have FW : Hid (Fr Nothing w W) := by rw [← hW]; exact (Fr.refl _ _).alloc _
    have BW : Hid (Blk W w.heap.size 23 (imgC c d z e)) := by rw [← hW]; exact Blk.new _ _ _
    clear hW
    generalize w.heap.size = g at *
    have q0 : ∀ y : In (Later W), y.w.cell? ⟨g, 0, none⟩ = some (.string c) := fun y => (img_cells BW.out y.h).1
    have q1 : ∀ y : In (Later W), y.w.cell? ⟨g, 1, none⟩ = some (.string d) := fun y => (img_cells BW.out y.h).2.1
    have q2 : ∀ y : In (Later W), y.w.cell? ⟨g, 2, none⟩ = some (.int .i64 z) := fun y => (img_cells BW.out y.h).2.2.1
    have q3 : ∀ y : In (Later W), y.w.cell? ⟨g, 3, none⟩ = some (.int .i64 e) := fun y => (img_cells BW.out y.h).2.2.2
    refine wp_region_in (Later W) ((Fr.refl _ _).drew) (by kernel_rfl) (by kernel_rfl) ?_
    repeat (go_big_quiet_step ((go_at_call 32; exact In.same (CU.out _))))
    refine wpQuiet_nil ?_
    rintro _ ⟨y, rfl⟩
    have FY := Lib.hid (FW.out.trans y.h)
    obtain ⟨k0, k1, k2, k3⟩ := img_cells BW.out y.h
    generalize y.w = w1 at *
    clear q0 q1 q2 q3 y CU
    go_wp2
    go_ret
    exact ⟨rfl, FY.out⟩
  rw [if_neg h5]
  have t5 : decide (4096 < (u : Int) + (d.size : Int) + z) = false := decide_eq_false h5
  have a3 : IntKind.i64.wrap ((c.size : Int) - 4) = (c.size : Int) - 4 := IntWalk.i64_in _ (by omega)
  by_cases h6 : e < 0
  · rw [if_pos (.inl h6)]
    have t6 : decide (e < 0) = true := decide_eq_true h6
    go_enter Tryd.func15, Tryd.ntmps15
    go_wp2
    generalize hW : w.alloc (.cells (imgC c d z e) 23) = W at *
    have FW : Hid (Fr Nothing w W) := by rw [← hW]; exact (Fr.refl _ _).alloc _
    have BW : Hid (Blk W w.heap.size 23 (imgC c d z e)) := by rw [← hW]; exact Blk.new _ _ _
    clear hW
    generalize w.heap.size = g at *
    have q0 : ∀ y : In (Later W), y.w.cell? ⟨g, 0, none⟩ = some (.string c) := fun y => (img_cells BW.out y.h).1
    have q1 : ∀ y : In (Later W), y.w.cell? ⟨g, 1, none⟩ = some (.string d) := fun y => (img_cells BW.out y.h).2.1
    have q2 : ∀ y : In (Later W), y.w.cell? ⟨g, 2, none⟩ = some (.int .i64 z) := fun y => (img_cells BW.out y.h).2.2.1
    have q3 : ∀ y : In (Later W), y.w.cell? ⟨g, 3, none⟩ = some (.int .i64 e) := fun y => (img_cells BW.out y.h).2.2.2
    refine wp_region_in (Later W) ((Fr.refl _ _).drew) (by kernel_rfl) (by kernel_rfl) ?_
    repeat (go_big_quiet_step ((go_at_call 32; exact In.same (CU.out _))))
    refine wpQuiet_nil ?_
    rintro _ ⟨y, rfl⟩
    have FY := Lib.hid (FW.out.trans y.h)
    obtain ⟨k0, k1, k2, k3⟩ := img_cells BW.out y.h
    generalize y.w = w1 at *
    clear q0 q1 q2 q3 y CU
    go_wp2
    go_ret
    exact ⟨rfl, FY.out⟩
  have t6 : decide (e < 0) = false := decide_eq_false h6
  obtain ⟨x, hx⟩ : ∃ x, x = e % 4 := ⟨_, rfl⟩
  have m3 : e.tmod 4 = x := by rw [Int.tmod_eq_emod_of_nonneg (by omega), hx]
  have m4 : e % 4 = x := hx.symm
  have xb : 0 ≤ x ∧ x < 4 := by omega
  rw [m4]
  clear hx
  by_cases h7 : x ≠ 0
  · rw [if_pos (.inr (.inl h7))]
    have t7 : (x != 0) = true := by rw [bne_iff_ne]; exact h7
    by_cases h8 : (c.size : Int) - 4 < e
    · have t8 : decide ((c.size : Int) - 4 < e) = true := decide_eq_true h8
      go_enter Tryd.func15, Tryd.ntmps15
      go_wp2
      generalize hW : w.alloc (.cells (imgC c d z e) 23) = W at *
      have FW : Hid (Fr Nothing w W) := by rw [← hW]; exact (Fr.refl _ _).alloc _
      have BW : Hid (Blk W w.heap.size 23 (imgC c d z e)) := by rw [← hW]; exact Blk.new _ _ _
      clear hW
      generalize w.heap.size = g at *
      have q0 : ∀ y : In (Later W), y.w.cell? ⟨g, 0, none⟩ = some (.string c) := fun y => (img_cells BW.out y.h).1
      have q1 : ∀ y : In (Later W), y.w.cell? ⟨g, 1, none⟩ = some (.string d) := fun y => (img_cells BW.out y.h).2.1
      have q2 : ∀ y : In (Later W), y.w.cell? ⟨g, 2, none⟩ = some (.int .i64 z) := fun y => (img_cells BW.out y.h).2.2.1
      have q3 : ∀ y : In (Later W), y.w.cell? ⟨g, 3, none⟩ = some (.int .i64 e) := fun y => (img_cells BW.out y.h).2.2.2
      refine wp_region_in (Later W) ((Fr.refl _ _).drew) (by kernel_rfl) (by kernel_rfl) ?_
      repeat (go_big_quiet_step ((go_at_call 32; exact In.same (CU.out _))))
      refine wpQuiet_nil ?_
      rintro _ ⟨y, rfl⟩
      have FY := Lib.hid (FW.out.trans y.h)
      obtain ⟨k0, k1, k2, k3⟩ := img_cells BW.out y.h
      generalize y.w = w1 at *
      clear q0 q1 q2 q3 y CU
      go_wp2
      go_ret
      exact ⟨rfl, FY.out⟩
    · have t8 : decide ((c.size : Int) - 4 < e) = false := decide_eq_false h8
      go_enter Tryd.func15, Tryd.ntmps15
      go_wp2
      generalize hW : w.alloc (.cells (imgC c d z e) 23) = W at *
      have FW : Hid (Fr Nothing w W) := by rw [← hW]; exact (Fr.refl _ _).alloc _
      have BW : Hid (Blk W w.heap.size 23 (imgC c d z e)) := by rw [← hW]; exact Blk.new _ _ _
      clear hW
      generalize w.heap.size = g at *
      have q0 : ∀ y : In (Later W), y.w.cell? ⟨g, 0, none⟩ = some (.string c) := fun y => (img_cells BW.out y.h).1
      have q1 : ∀ y : In (Later W), y.w.cell? ⟨g, 1, none⟩ = some (.string d) := fun y => (img_cells BW.out y.h).2.1
      have q2 : ∀ y : In (Later W), y.w.cell? ⟨g, 2, none⟩ = some (.int .i64 z) := fun y => (img_cells BW.out y.h).2.2.1
      have q3 : ∀ y : In (Later W), y.w.cell? ⟨g, 3, none⟩ = some (.int .i64 e) := fun y => (img_cells BW.out y.h).2.2.2
      refine wp_region_in (Later W) ((Fr.refl _ _).drew) (by kernel_rfl) (by kernel_rfl) ?_
      repeat (go_big_quiet_step ((go_at_call 32; exact In.same (CU.out _))))
      refine wpQuiet_nil ?_
      rintro _ ⟨y, rfl⟩
      have FY := Lib.hid (FW.out.trans y.h)
      obtain ⟨k0, k1, k2, k3⟩ := img_cells BW.out y.h
      generalize y.w = w1 at *
      clear q0 q1 q2 q3 y CU
      go_wp2
      go_ret
      exact ⟨rfl, FY.out⟩
  have t7 : (x != 0) = false := by rw [bne_eq_false_iff_eq]; omega
  by_cases h8 : (c.size : Int) - 4 < e
  · rw [if_pos (.inr (.inr h8))]
    have t8 : decide ((c.size : Int) - 4 < e) = true := decide_eq_true h8
    go_enter Tryd.func15, Tryd.ntmps15
    go_wp2
    generalize hW : w.alloc (.cells (imgC c d z e) 23) = W at *
    have FW : Hid (Fr Nothing w W) := by rw [← hW]; exact (Fr.refl _ _).alloc _
    have BW : Hid (Blk W w.heap.size 23 (imgC c d z e)) := by rw [← hW]; exact Blk.new _ _ _
    clear hW
    generalize w.heap.size = g at *
    have q0 : ∀ y : In (Later W), y.w.cell? ⟨g, 0, none⟩ = some (.string c) := fun y => (img_cells BW.out y.h).1
    have q1 : ∀ y : In (Later W), y.w.cell? ⟨g, 1, none⟩ = some (.string d) := fun y => (img_cells BW.out y.h).2.1
    have q2 : ∀ y : In (Later W), y.w.cell? ⟨g, 2, none⟩ = some (.int .i64 z) := fun y => (img_cells BW.out y.h).2.2.1
    have q3 : ∀ y : In (Later W), y.w.cell? ⟨g, 3, none⟩ = some (.int .i64 e) := fun y => (img_cells BW.out y.h).2.2.2
    refine wp_region_in (Later W) ((Fr.refl _ _).drew) (by kernel_rfl) (by kernel_rfl) ?_
    repeat (go_big_quiet_step ((go_at_call 32; exact In.same (CU.out _))))
    refine wpQuiet_nil ?_
    rintro _ ⟨y, rfl⟩
    have FY := Lib.hid (FW.out.trans y.h)
    obtain ⟨k0, k1, k2, k3⟩ := img_cells BW.out y.h
    generalize y.w = w1 at *
    clear q0 q1 q2 q3 y CU
    go_wp2
    go_ret
    exact ⟨rfl, FY.out⟩
  rw [if_neg (by omega)]
  have t8 : decide ((c.size : Int) - 4 < e) = false := decide_eq_false h8
  go_enter Tryd.func15, Tryd.ntmps15
  go_wp2
  generalize hW : w.alloc (.cells (imgC c d z e) 23) = W at *
  have FW : Hid (Fr Nothing w W) := by rw [← hW]; exact (Fr.refl _ _).alloc _
  have BW : Hid (Blk W w.heap.size 23 (imgC c d z e)) := by rw [← hW]; exact Blk.new _ _ _
  clear hW
  generalize w.heap.size = g at *
  have q0 : ∀ y : In (Later W), y.w.cell? ⟨g, 0, none⟩ = some (.string c) := fun y => (img_cells BW.out y.h).1
  have q1 : ∀ y : In (Later W), y.w.cell? ⟨g, 1, none⟩ = some (.string d) := fun y => (img_cells BW.out y.h).2.1
  have q2 : ∀ y : In (Later W), y.w.cell? ⟨g, 2, none⟩ = some (.int .i64 z) := fun y => (img_cells BW.out y.h).2.2.1
  have q3 : ∀ y : In (Later W), y.w.cell? ⟨g, 3, none⟩ = some (.int .i64 e) := fun y => (img_cells BW.out y.h).2.2.2
  refine wp_region_in (Later W) ((Fr.refl _ _).drew) (by kernel_rfl) (by kernel_rfl) ?_
  repeat (go_big_quiet_step ((go_at_call 32; exact In.same (CU.out _))))
  refine wpQuiet_nil ?_
  rintro _ ⟨y, rfl⟩
  have FY := Lib.hid (FW.out.trans y.h)
  obtain ⟨k0, k1, k2, k3⟩ := img_cells BW.out y.h
  generalize y.w = w1 at *
  clear q0 q1 q2 q3 y CU
  go_wp2
  go_ret
  exact ⟨rfl, FY.out⟩
end Go.Proofs.YtfdcmjjafngonaaDoor
