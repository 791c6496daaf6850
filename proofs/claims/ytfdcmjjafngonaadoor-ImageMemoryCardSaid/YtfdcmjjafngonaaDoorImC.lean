/- Image: To, long, DataAt, End, NumPages of both sides (written by genI2.py). -/
import Derived.Test.YtfdcmjjafngonaaDoorImB
import Derived.Test.YtfdcmjjafngonaaDoorGwB
namespace Go.Proofs.YtfdcmjjafngonaaDoor
open Go.RowKit

def dataP (c d : Nat) (z e : Int) : Nat := if checkI c d z e = 0 then upN c else 0
def endP (c d : Nat) (z e : Int) : Nat := if checkI c d z e = 0 then upN c + d + z.toNat else 0
theorem endP_le (c d : Nat) (z e : Int) : endP c d z e ≤ 4096 := by
  unfold endP
  split
  · rename_i h
    have := checkI_ok h
    omega
  · omega
theorem checkI_range (c d : Nat) (z e : Int) : 0 ≤ checkI c d z e ∧ checkI c d z e ≤ 5 := by
  unfold checkI
  split
  · omega
  · split
    · omega
    · split
      · omega
      · split
        · omega
        · split <;> omega

abbrev zeroImg : Array Value := #[.string ⟨#[]⟩, .string ⟨#[]⟩, .int .i64 0, .int .i64 0]
theorem zvI (w : World) : (zeroValue 27).run Tryd.prog w = .ok (.agg zeroImg) w := by kernel_rfl
theorem zvRI (w : World) : (zeroValue 23).run Tryd.prog w = .ok (.agg zeroImg) w := by kernel_rfl
theorem infoI (c d : ByteArray) (z e : Int) : (Tryd.prog.info? 27).map (·.size) = some (imgC c d z e).size := by kernel_rfl
theorem infoRI (c d : ByteArray) (z e : Int) : (Tryd.prog.info? 23).map (·.size) = some (imgC c d z e).size := by kernel_rfl
theorem img_one (c d : ByteArray) (z e : Int) : (imgC c d z e).all (·.oneCell') = true := by simp [Value.oneCell']

set_option maxRecDepth 100000 in
theorem To_any (c d : ByteArray) (z e : Int) (w : World) : Calls Tryd.prog 13 #[imgV c d z e] w (SameIn w (imgV c d z e)) := by
  go_enter Tryd.func13, Tryd.ntmps13
  go_wp2_with (refine wpList_boxBlk rfl 23 (.tmp 0) rfl _ rfl ?_)
  intro w1 n1
  have N1 := Lib.hid n1
  clear n1
  go_wp2_with (refine wpList_allocBlk rfl 27 rfl (.agg zeroImg) zvI zeroImg rfl ?_)
  intro w2 n2
  have B1 : Hid (Blk w2 w.heap.size 23 (imgC c d z e)) := N1.out.blk.fr n2.fr (fun x => x)
  have B2 := Lib.hid n2.blk
  have F2 := Lib.hid (N1.out.fr.trans n2.fr)
  have Z : Hid (w.heap.size < w1.heap.size) := by have := N1.out.size; simp only [Hid]; omega
  clear n2 N1
  obtain ⟨k0, k1, k2, k3⟩ := img_cells B1.out (Fr.refl _ _)
  generalize hg : w.heap.size = g at *
  generalize w1.heap.size = g2 at *
  go_wp2_with (refine wpList_storeBlk rfl 27 (.tmp 2) _ rfl g2 (imgC c d z e) rfl rfl _ _ B2.out (infoI c d z e) rfl (img_one c d z e) ?_)
  intro w3 b3 f3
  have J := Lib.hid b3
  have H0 := Lib.hid hg
  have JF : Hid (Fr Nothing w w3) := F2.out.then_ f3 (fun i hi e => by have e' : i = g2 := e; have := Z.out; have := H0.out; omega)
  clear b3 f3 k0 k1 k2 k3 hg
  go_wp2
  exact bodyPost_ret (results_cell_row (fn := Tryd.f13) (p := 2) (ty := 27) Tryd.results13 _ w3 _ 27 (imgC c d z e) (0, 0) _ rfl J.out Tryd.underlying27 rfl (infoI c d z e)) rfl ⟨rfl, JF.out⟩

def longB (c d : ByteArray) : Bool := decide (6000 < c.size ∨ 6000 < d.size)
set_option maxRecDepth 100000 in
theorem long_any (c d : ByteArray) (z e : Int) (w : World) : Calls Tryd.prog 12 #[imgV c d z e] w (SameIn w (.bool (longB c d))) := by
  unfold longB
  by_cases h1 : 6000 < c.size
  · have t1 : decide ((6000 : Int) < (c.size : Int)) = true := decide_eq_true (by omega)
    rw [decide_eq_true (.inl h1)]
    go_enter Tryd.func12, Tryd.ntmps12
    go_wp2
    go_ret
    exact ⟨rfl, (Fr.refl _ _).alloc _⟩
  · have t1 : decide ((6000 : Int) < (c.size : Int)) = false := decide_eq_false (by omega)
    by_cases h2 : 6000 < d.size
    · have t2 : decide ((6000 : Int) < (d.size : Int)) = true := decide_eq_true (by omega)
      rw [decide_eq_true (.inr h2)]
      go_enter Tryd.func12, Tryd.ntmps12
      go_wp2
      go_ret
      exact ⟨rfl, (Fr.refl _ _).alloc _⟩
    · have t2 : decide ((6000 : Int) < (d.size : Int)) = false := decide_eq_false (by omega)
      rw [decide_eq_false (by omega)]
      go_enter Tryd.func12, Tryd.ntmps12
      go_wp2
      go_ret
      exact ⟨rfl, (Fr.refl _ _).alloc _⟩

set_option maxRecDepth 100000 in
set_option maxHeartbeats 1000000 in
theorem DataAt_any (c d : ByteArray) (z e : Int) (w : World) (hc : c.size ≤ 1099511627776) (hd : d.size ≤ 1099511627776) (hz : -9223372036854775808 ≤ z ∧ z ≤ 9223372036854775807) (he : -9223372036854775808 ≤ e ∧ e ≤ 9223372036854775807) :
    Calls Tryd.prog 16 #[imgV c d z e] w (SameIn w (.int .i64 (dataP c.size d.size z e : Nat))) := by
  have CH := Lib.hid (fun w => Check_any c d z e w hc hd hz he)
  have CU := Lib.hid (fun w => dataAt_any c d z e w (by omega))
  unfold dataP
  have hcr := checkI_range c.size d.size z e
  generalize checkI c.size d.size z e = k at *
  by_cases hk : k = 0
  · rw [if_pos hk]
    have t1 : (k != 0) = false := by rw [bne_eq_false_iff_eq]; exact hk
    generalize upN c.size = u at *
    go_enter Tryd.func16, Tryd.ntmps16
    go_wp2_with (refine wpList_boxBlk rfl 27 (.tmp 0) rfl _ rfl ?_)
    intro w1 n1
    have BW : Hid (Blk w1 w.heap.size 27 (imgC c d z e)) := n1.blk
    have FW := Lib.hid n1.fr
    clear n1
    obtain ⟨k0, k1, k2, k3⟩ := img_cells BW.out (Fr.refl _ _)
    generalize w.heap.size = g at *
    go_wp2_with fail
    refine (CH.out _).mono ?_
    rintro e' w2 ⟨rfl, f2⟩
    have FX := Lib.hid (FW.out.trans f2)
    have BX := Lib.hid (BW.out.fr f2 (fun x => x))
    clear k0 k1 k2 k3 f2 BW
    obtain ⟨k0, k1, k2, k3⟩ := img_cells BX.out (Fr.refl _ _)
    go_wp2_with fail
    refine (CU.out _).mono ?_
    rintro e' w3 ⟨rfl, f3⟩
    have F3 := Lib.hid (FX.out.trans f3)
    clear f3
    go_wp2
    go_ret
    exact ⟨rfl, F3.out⟩
  · rw [if_neg hk]
    have t1 : (k != 0) = true := by rw [bne_iff_ne]; exact hk
    clear CU
    go_enter Tryd.func16, Tryd.ntmps16
    go_wp2_with (refine wpList_boxBlk rfl 27 (.tmp 0) rfl _ rfl ?_)
    intro w1 n1
    have BW : Hid (Blk w1 w.heap.size 27 (imgC c d z e)) := n1.blk
    have FW := Lib.hid n1.fr
    clear n1
    obtain ⟨k0, k1, k2, k3⟩ := img_cells BW.out (Fr.refl _ _)
    generalize w.heap.size = g at *
    go_wp2_with fail
    refine (CH.out _).mono ?_
    rintro e' w2 ⟨rfl, f2⟩
    have FX := Lib.hid (FW.out.trans f2)
    have BX := Lib.hid (BW.out.fr f2 (fun x => x))
    clear k0 k1 k2 k3 f2 BW
    obtain ⟨k0, k1, k2, k3⟩ := img_cells BX.out (Fr.refl _ _)
    go_wp2
    go_ret
    exact ⟨rfl, FX.out⟩

set_option maxRecDepth 100000 in
set_option maxHeartbeats 1000000 in
theorem End_any (c d : ByteArray) (z e : Int) (w : World) (hc : c.size ≤ 1099511627776) (hd : d.size ≤ 1099511627776) (hz : -9223372036854775808 ≤ z ∧ z ≤ 9223372036854775807) (he : -9223372036854775808 ≤ e ∧ e ≤ 9223372036854775807) :
    Calls Tryd.prog 18 #[imgV c d z e] w (SameIn w (.int .i64 (endP c.size d.size z e : Nat))) := by
  have CH := Lib.hid (fun w => Check_any c d z e w hc hd hz he)
  have CU := Lib.hid (fun w => dataAt_any c d z e w (by omega))
  have hle := endP_le c.size d.size z e
  unfold endP at *
  have hok := fun h => @checkI_ok c.size d.size z e h
  have hcr := checkI_range c.size d.size z e
  generalize checkI c.size d.size z e = k at *
  by_cases hk : k = 0
  · rw [if_pos hk] at hle ⊢
    have t1 : (k != 0) = false := by rw [bne_eq_false_iff_eq]; exact hk
    obtain ⟨h1, h2, h3, h4, h5, h6, h7, h8⟩ := hok hk
    obtain ⟨z', rfl⟩ : ∃ z' : Nat, z = z' := ⟨z.toNat, by omega⟩
    rw [Int.toNat_natCast] at hle ⊢
    have a1 : ((upN c.size : Nat) : Int) + (d.size : Int) = ((upN c.size + d.size : Nat) : Int) := by omega
    have a2 : ((upN c.size + d.size : Nat) : Int) + (z' : Int) = ((upN c.size + d.size + z' : Nat) : Int) := by omega
    have b1 : upN c.size + d.size ≤ 4096 := by omega
    clear h1 h2 h3 h4 h5 h6 h7 h8 hok
    generalize upN c.size + d.size + z' = v at *
    generalize upN c.size + d.size = s at *
    generalize upN c.size = u at *
    go_enter Tryd.func18, Tryd.ntmps18
    go_wp2_with (refine wpList_boxBlk rfl 27 (.tmp 0) rfl _ rfl ?_)
    intro w1 n1
    have BW : Hid (Blk w1 w.heap.size 27 (imgC c d (z' : Int) e)) := n1.blk
    have FW := Lib.hid n1.fr
    clear n1
    obtain ⟨k0, k1, k2, k3⟩ := img_cells BW.out (Fr.refl _ _)
    generalize w.heap.size = g at *
    go_wp2_with fail
    refine (CH.out _).mono ?_
    rintro e' w2 ⟨rfl, f2⟩
    have FX := Lib.hid (FW.out.trans f2)
    have BX := Lib.hid (BW.out.fr f2 (fun x => x))
    clear k0 k1 k2 k3 f2 BW
    obtain ⟨k0, k1, k2, k3⟩ := img_cells BX.out (Fr.refl _ _)
    go_wp2
    have q0 : ∀ y : In (Later w2), y.w.cell? ⟨g, 0, none⟩ = some (.string c) := fun y => (img_cells BX.out y.h).1
    have q1 : ∀ y : In (Later w2), y.w.cell? ⟨g, 1, none⟩ = some (.string d) := fun y => (img_cells BX.out y.h).2.1
    have q2 : ∀ y : In (Later w2), y.w.cell? ⟨g, 2, none⟩ = some (.int .i64 z') := fun y => (img_cells BX.out y.h).2.2.1
    have q3 : ∀ y : In (Later w2), y.w.cell? ⟨g, 3, none⟩ = some (.int .i64 e) := fun y => (img_cells BX.out y.h).2.2.2
    refine wp_region_in (Later w2) ((Fr.refl _ _).drew) (by kernel_rfl) (by kernel_rfl) ?_
    repeat (go_big_quiet_step ((go_at_call 31; exact In.later (CU.out _))))
    refine wpQuiet_nil ?_
    rintro _ ⟨y, rfl⟩
    have FY := Lib.hid (FX.out.trans y.h)
    generalize y.w = w5 at *
    clear q0 q1 q2 q3 y CU
    go_wp2
    go_ret
    exact ⟨rfl, FY.out⟩
  · rw [if_neg hk]
    have t1 : (k != 0) = true := by rw [bne_iff_ne]; exact hk
    clear CU hok hle
    go_enter Tryd.func18, Tryd.ntmps18
    go_wp2_with (refine wpList_boxBlk rfl 27 (.tmp 0) rfl _ rfl ?_)
    intro w1 n1
    have BW : Hid (Blk w1 w.heap.size 27 (imgC c d z e)) := n1.blk
    have FW := Lib.hid n1.fr
    clear n1
    obtain ⟨k0, k1, k2, k3⟩ := img_cells BW.out (Fr.refl _ _)
    generalize w.heap.size = g at *
    go_wp2_with fail
    refine (CH.out _).mono ?_
    rintro e' w2 ⟨rfl, f2⟩
    have FX := Lib.hid (FW.out.trans f2)
    have BX := Lib.hid (BW.out.fr f2 (fun x => x))
    clear k0 k1 k2 k3 f2 BW
    obtain ⟨k0, k1, k2, k3⟩ := img_cells BX.out (Fr.refl _ _)
    go_wp2
    go_ret
    exact ⟨rfl, FX.out⟩

set_option maxRecDepth 100000 in
set_option maxHeartbeats 1000000 in
theorem rDataAt_any (c d : ByteArray) (z e : Int) (w : World) (hc : c.size ≤ 1099511627776) (hd : d.size ≤ 1099511627776) (hz : -9223372036854775808 ≤ z ∧ z ≤ 9223372036854775807) (he : -9223372036854775808 ≤ e ∧ e ≤ 9223372036854775807) :
    Calls Tryd.prog 17 #[imgV c d z e] w (SameIn w (.int .i64 (dataP c.size d.size z e : Nat))) := by
  have CH := Lib.hid (fun w => rCheck_any c d z e w hc hd hz he)
  have CU := Lib.hid (fun w => up_any c.size w (by omega))
  unfold dataP
  have hcr := checkI_range c.size d.size z e
  generalize checkI c.size d.size z e = k at *
  by_cases hk : k = 0
  · rw [if_pos hk]
    have t1 : (k != 0) = false := by rw [bne_eq_false_iff_eq]; exact hk
    generalize upN c.size = u at *
    go_enter Tryd.func17, Tryd.ntmps17
    go_wp2_with (refine wpList_boxBlk rfl 23 (.tmp 0) rfl _ rfl ?_)
    intro w1 n1
    have BW : Hid (Blk w1 w.heap.size 23 (imgC c d z e)) := n1.blk
    have FW := Lib.hid n1.fr
    clear n1
    obtain ⟨k0, k1, k2, k3⟩ := img_cells BW.out (Fr.refl _ _)
    generalize w.heap.size = g at *
    go_wp2_with fail
    refine (CH.out _).mono ?_
    rintro e' w2 ⟨rfl, f2⟩
    have FX := Lib.hid (FW.out.trans f2)
    have BX := Lib.hid (BW.out.fr f2 (fun x => x))
    clear k0 k1 k2 k3 f2 BW
    obtain ⟨k0, k1, k2, k3⟩ := img_cells BX.out (Fr.refl _ _)
    go_wp2_with fail
    refine (CU.out _).mono ?_
    rintro e' w3 ⟨rfl, rfl⟩
    go_wp2
    go_ret
    exact ⟨rfl, FX.out⟩
  · rw [if_neg hk]
    have t1 : (k != 0) = true := by rw [bne_iff_ne]; exact hk
    clear CU
    go_enter Tryd.func17, Tryd.ntmps17
    go_wp2_with (refine wpList_boxBlk rfl 23 (.tmp 0) rfl _ rfl ?_)
    intro w1 n1
    have BW : Hid (Blk w1 w.heap.size 23 (imgC c d z e)) := n1.blk
    have FW := Lib.hid n1.fr
    clear n1
    obtain ⟨k0, k1, k2, k3⟩ := img_cells BW.out (Fr.refl _ _)
    generalize w.heap.size = g at *
    go_wp2_with fail
    refine (CH.out _).mono ?_
    rintro e' w2 ⟨rfl, f2⟩
    have FX := Lib.hid (FW.out.trans f2)
    have BX := Lib.hid (BW.out.fr f2 (fun x => x))
    clear k0 k1 k2 k3 f2 BW
    obtain ⟨k0, k1, k2, k3⟩ := img_cells BX.out (Fr.refl _ _)
    go_wp2
    go_ret
    exact ⟨rfl, FX.out⟩

set_option maxRecDepth 100000 in
set_option maxHeartbeats 1000000 in
theorem rEnd_any (c d : ByteArray) (z e : Int) (w : World) (hc : c.size ≤ 1099511627776) (hd : d.size ≤ 1099511627776) (hz : -9223372036854775808 ≤ z ∧ z ≤ 9223372036854775807) (he : -9223372036854775808 ≤ e ∧ e ≤ 9223372036854775807) :
    Calls Tryd.prog 19 #[imgV c d z e] w (SameIn w (.int .i64 (endP c.size d.size z e : Nat))) := by
  have CH := Lib.hid (fun w => rCheck_any c d z e w hc hd hz he)
  have CU := Lib.hid (fun w => up_any c.size w (by omega))
  have hle := endP_le c.size d.size z e
  unfold endP at *
  have hok := fun h => @checkI_ok c.size d.size z e h
  have hcr := checkI_range c.size d.size z e
  generalize checkI c.size d.size z e = k at *
  by_cases hk : k = 0
  · rw [if_pos hk] at hle ⊢
    have t1 : (k != 0) = false := by rw [bne_eq_false_iff_eq]; exact hk
    obtain ⟨h1, h2, h3, h4, h5, h6, h7, h8⟩ := hok hk
    obtain ⟨z', rfl⟩ : ∃ z' : Nat, z = z' := ⟨z.toNat, by omega⟩
    rw [Int.toNat_natCast] at hle ⊢
    have a1 : ((upN c.size : Nat) : Int) + (d.size : Int) = ((upN c.size + d.size : Nat) : Int) := by omega
    have a2 : ((upN c.size + d.size : Nat) : Int) + (z' : Int) = ((upN c.size + d.size + z' : Nat) : Int) := by omega
    have b1 : upN c.size + d.size ≤ 4096 := by omega
    clear h1 h2 h3 h4 h5 h6 h7 h8 hok
    generalize upN c.size + d.size + z' = v at *
    generalize upN c.size + d.size = s at *
    generalize upN c.size = u at *
    go_enter Tryd.func19, Tryd.ntmps19
    go_wp2_with (refine wpList_boxBlk rfl 23 (.tmp 0) rfl _ rfl ?_)
    intro w1 n1
    have BW : Hid (Blk w1 w.heap.size 23 (imgC c d (z' : Int) e)) := n1.blk
    have FW := Lib.hid n1.fr
    clear n1
    obtain ⟨k0, k1, k2, k3⟩ := img_cells BW.out (Fr.refl _ _)
    generalize w.heap.size = g at *
    go_wp2_with fail
    refine (CH.out _).mono ?_
    rintro e' w2 ⟨rfl, f2⟩
    have FX := Lib.hid (FW.out.trans f2)
    have BX := Lib.hid (BW.out.fr f2 (fun x => x))
    clear k0 k1 k2 k3 f2 BW
    obtain ⟨k0, k1, k2, k3⟩ := img_cells BX.out (Fr.refl _ _)
    go_wp2
    have q0 : ∀ y : In (Later w2), y.w.cell? ⟨g, 0, none⟩ = some (.string c) := fun y => (img_cells BX.out y.h).1
    have q1 : ∀ y : In (Later w2), y.w.cell? ⟨g, 1, none⟩ = some (.string d) := fun y => (img_cells BX.out y.h).2.1
    have q2 : ∀ y : In (Later w2), y.w.cell? ⟨g, 2, none⟩ = some (.int .i64 z') := fun y => (img_cells BX.out y.h).2.2.1
    have q3 : ∀ y : In (Later w2), y.w.cell? ⟨g, 3, none⟩ = some (.int .i64 e) := fun y => (img_cells BX.out y.h).2.2.2
    refine wp_region_in (Later w2) ((Fr.refl _ _).drew) (by kernel_rfl) (by kernel_rfl) ?_
    repeat (go_big_quiet_step ((go_at_call 32; exact In.same (CU.out _))))
    refine wpQuiet_nil ?_
    rintro _ ⟨y, rfl⟩
    have FY := Lib.hid (FX.out.trans y.h)
    generalize y.w = w5 at *
    clear q0 q1 q2 q3 y CU
    go_wp2
    go_ret
    exact ⟨rfl, FY.out⟩
  · rw [if_neg hk]
    have t1 : (k != 0) = true := by rw [bne_iff_ne]; exact hk
    clear CU hok hle
    go_enter Tryd.func19, Tryd.ntmps19
    go_wp2_with (refine wpList_boxBlk rfl 23 (.tmp 0) rfl _ rfl ?_)
    intro w1 n1
    have BW : Hid (Blk w1 w.heap.size 23 (imgC c d z e)) := n1.blk
    have FW := Lib.hid n1.fr
    clear n1
    obtain ⟨k0, k1, k2, k3⟩ := img_cells BW.out (Fr.refl _ _)
    generalize w.heap.size = g at *
    go_wp2_with fail
    refine (CH.out _).mono ?_
    rintro e' w2 ⟨rfl, f2⟩
    have FX := Lib.hid (FW.out.trans f2)
    have BX := Lib.hid (BW.out.fr f2 (fun x => x))
    clear k0 k1 k2 k3 f2 BW
    obtain ⟨k0, k1, k2, k3⟩ := img_cells BX.out (Fr.refl _ _)
    go_wp2
    go_ret
    exact ⟨rfl, FX.out⟩

set_option maxRecDepth 100000 in
theorem NumPages_any (c d : ByteArray) (z e : Int) (w : World) (hc : c.size ≤ 1099511627776) (hd : d.size ≤ 1099511627776) (hz : -9223372036854775808 ≤ z ∧ z ≤ 9223372036854775807) (he : -9223372036854775808 ≤ e ∧ e ≤ 9223372036854775807) :
    Calls Tryd.prog 20 #[imgV c d z e] w (SameIn w (.int .i64 ((endP c.size d.size z e + 63) / 64 : Nat))) := by
  have CH := Lib.hid (fun w => End_any c d z e w hc hd hz he)
  have hle := endP_le c.size d.size z e
  generalize endP c.size d.size z e = k at *
  have CP := Lib.hid (fun w => pagesOf_any k w (by omega))
  generalize (k + 63) / 64 = p at *
  go_enter Tryd.func20, Tryd.ntmps20
  go_wp2_with (refine wpList_boxBlk rfl 27 (.tmp 0) rfl _ rfl ?_)
  intro w1 n1
  have BW : Hid (Blk w1 w.heap.size 27 (imgC c d z e)) := n1.blk
  have FW := Lib.hid n1.fr
  clear n1
  obtain ⟨k0, k1, k2, k3⟩ := img_cells BW.out (Fr.refl _ _)
  generalize w.heap.size = g at *
  go_wp2_with fail
  refine (CH.out _).mono ?_
  rintro e' w2 ⟨rfl, f2⟩
  have FX := Lib.hid (FW.out.trans f2)
  have BX := Lib.hid (BW.out.fr f2 (fun x => x))
  clear k0 k1 k2 k3 f2 BW
  obtain ⟨k0, k1, k2, k3⟩ := img_cells BX.out (Fr.refl _ _)
  go_wp2_with fail
  refine (CP.out _).mono ?_
  rintro e' w3 ⟨rfl, rfl⟩
  go_wp2
  go_ret
  exact ⟨rfl, FX.out⟩
end Go.Proofs.YtfdcmjjafngonaaDoor
