/- Image: arguments as they come in; ImageChecks, ImagePlaces. -/
import Derived.Test.YtfdcmjjafngonaaDoorImH
import Derived.Test.YtfdcmjjafngonaaDoorRows
import Derived.Lib.LaidTab
import Derived.LaidMore
import Derived.Stop.LaidErr
import Derived.Deep.Slices
import Derived.OpenShut
import Derived.ProofKit
namespace Go.Proofs.YtfdcmjjafngonaaDoor
open Go.RowKit Go.ChangeShapes Go.WideShapes Go.Deep

theorem cells97 : Tryd.prog.cellsOf 72 = 8 := by kernel_rfl
theorem cells122 : Tryd.prog.cellsOf 116 = 64 := by kernel_rfl
theorem cells96 : Tryd.prog.cellsOf 71 = 1 := by kernel_rfl
theorem g_initial : Tryd.prog.globalNamed "replevin/sha256.initial" = some 0 := by kernel_rfl
theorem ty_initial : (Tryd.prog.globals[0]?).map (·.type) = some 72 := by kernel_rfl
theorem g_constants : Tryd.prog.globalNamed "replevin/sha256.constants" = some 1 := by kernel_rfl
theorem ty_constants : (Tryd.prog.globals[1]?).map (·.type) = some 116 := by kernel_rfl
def initI : List Int := [1779033703, 3144134277, 1013904242, 2773480762, 1359893119, 2600822924, 528734635, 1541459225]
def kInt : List Int := kTab.map (fun n : Nat => (n : Int))

theorem sha_tab {W : World} (h : laidMetH Tryd.prog [("replevin/sha256.initial", Rows.laid_replevin_sha256_initial), ("replevin/sha256.constants", Rows.laid_replevin_sha256_constants)] W) : ShaTab W := by
  rw [MakeChecks.laidMetH_plain _ _ _ (by kernel_rfl)] at h
  have h1 : Lib.TabIs Tryd.prog W "replevin/sha256.initial" .u32 initI := Lib.tabIs_of_head g_initial ty_initial Tryd.underlying72 Tryd.underlying71 cells96 cells97 (show laidMet Tryd.prog (_ :: _) W from h)
  have h2 : Lib.TabIs Tryd.prog W "replevin/sha256.constants" .u32 kInt := Lib.tabIs_of_head g_constants ty_constants Tryd.underlying116 Tryd.underlying71 cells96 cells122 (show laidMet Tryd.prog (_ :: _) W from laidMet.tail h)
  refine ⟨fun j u hu => ?_, fun j hj => ?_⟩
  · have hj : j < 8 := (List.getElem?_eq_some_iff.1 hu).1
    rw [h1.cell g_initial j hj, ← hu]
    rcases j with _ | _ | _ | _ | _ | _ | _ | _ | j
    · rfl
    · rfl
    · rfl
    · rfl
    · rfl
    · rfl
    · rfl
    · rfl
    · omega
  · have hk : j < kTab.length := hj
    rw [h2.cell g_constants j (by rw [kInt, List.length_map]; exact hk)]
    unfold u32v kInt
    rw [List.getD_eq_getElem?_getD, List.getElem?_map, List.getElem?_eq_getElem hk]
    rfl

/-- An image of the reference. -/
structure ImgV where
  c : ByteArray
  d : ByteArray
  z : Int
  e : Int
abbrev ImgV.val (i : ImgV) : Value := imgV i.c i.d i.z i.e
structure ImgV.good (i : ImgV) : Prop where
  hz : -9223372036854775808 ≤ i.z ∧ i.z ≤ 9223372036854775807
  he : -9223372036854775808 ≤ i.e ∧ i.e ≤ 9223372036854775807

theorem cellsRI : Tryd.prog.cellsOf 23 = 4 := by kernel_rfl
set_option maxRecDepth 100000 in
theorem open_img {H : Type} {enc : TypeId × Value → H} {w : World} {r : Reach} {b fuel : Nat} {v : Value} {x : DataW H × List MemPlace} (hval : Value.okWide Tryd.prog w r b 23 v)
    (h : DataW.trod enc Tryd.prog w 0 (fun _ => true) true fuel 23 v.cells.toList = some x) : ∃ i : ImgV, v = i.val ∧ i.good := by
  unfold Value.okWide at hval
  rw [Tryd.underlying23] at hval
  obtain ⟨⟨l⟩, rfl, hs, _⟩ := hval
  have h' : DataW.trod enc Tryd.prog w 0 (fun _ => true) true fuel 23 l = some x := h
  obtain ⟨ys, n', _, _, hcl, hyl, hf⟩ := DataW.trod_struct Tryd.underlying23 h'
  rw [cellsRI] at hcl
  match l, hcl with
  | [x0, x1, x2, x3], _ =>
    have g0 := hf 0 _ rfl
    have g1 := hf 1 _ rfl
    have g2 := hf 2 _ rfl
    have g3 := hf 3 _ rfl
    match ys, hyl with
    | [y0, y1, y2, y3], _ =>
      have k3 : Tryd.prog.cellsOf 3 = 1 := by kernel_rfl
      have k9 : Tryd.prog.cellsOf 9 = 1 := by kernel_rfl
      simp [k3, k9] at g0 g1 g2 g3
      obtain ⟨a0, e0, _, _⟩ := DataW.trod_string Tryd.underlying9 g0
      obtain ⟨a1, e1, _, _⟩ := DataW.trod_string Tryd.underlying9 g1
      obtain ⟨a2, e2, _, b2⟩ := DataW.trod_int Tryd.underlying3 g2
      obtain ⟨a3, e3, _, b3⟩ := DataW.trod_int Tryd.underlying3 g3
      have r2 := bounds_i64 b2
      have r3 := bounds_i64 b3
      simp only [List.cons.injEq, and_true] at e0 e1 e2 e3
      subst e0 e1 e2 e3
      exact ⟨⟨a0, a1, a2, a3⟩, rfl, ⟨r2.1, r2.2⟩, ⟨r3.1, r3.2⟩⟩

set_option maxRecDepth 100000 in
set_option maxHeartbeats 4000000 in
theorem ImageChecks_any (i : ImgV) (w : World) (hi : i.good) (hT : ShaTab w) : Calls Tryd.prog 3 #[i.val] w (SameIn w (.bool true)) := by
  obtain ⟨c, d, z, e⟩ := i
  obtain ⟨hz, he⟩ := hi
  simp only at hz he
  unfold ImgV.val
  simp only
  have CK : Hid (∀ w', Fr Nothing w w' → Calls Tryd.prog 11 #[] w' (SameIn w' (.bool true))) := fun w' hf => known_any w' (hT.fr0 hf)
  have CL := Lib.hid (fun w => long_any c d z e w)
  have hlo : longB c d = true ∨ (longB c d = false ∧ c.size ≤ 6000 ∧ d.size ≤ 6000) := by
    unfold longB
    by_cases h : 6000 < c.size ∨ 6000 < d.size
    · exact .inl (decide_eq_true h)
    · exact .inr ⟨decide_eq_false h, by omega, by omega⟩
  rcases hlo with hlo | ⟨hlo, hc, hd⟩
  · rw [hlo] at CL
    clear hT
    go_enter Tryd.func3, Tryd.ntmps3
    go_wp2_with (refine wpList_boxBlk rfl 23 (.tmp 0) rfl _ rfl ?_)
    intro w1 n1
    have B1 : Hid (Blk w1 w.heap.size 23 (imgC c d z e)) := n1.blk
    have F1 := Lib.hid n1.fr
    clear n1
    generalize hg : w.heap.size = g at *
    have HG := Lib.hid hg
    clear hg
    go_wp2_with fail
    refine (CK.out _ F1.out).mono ?_
    rintro e' w2 ⟨rfl, f2⟩
    have B2 := Lib.hid (B1.out.fr f2 (fun x => x))
    have F2 := Lib.hid (F1.out.trans f2)
    clear f2 B1 F1
    obtain ⟨k0, k1, k2, k3⟩ := img_cells B2.out (Fr.refl _ _)
    go_wp2_with fail
    refine (CL.out _).mono ?_
    rintro e' w3 ⟨rfl, f3⟩
    have B3 := Lib.hid (B2.out.fr f3 (fun x => x))
    have F3 := Lib.hid (F2.out.trans f3)
    clear k0 k1 k2 k3 f3 B2 F2
    go_wp2_with fail
    refine (CK.out _ F3.out).mono ?_
    rintro e' w4 ⟨rfl, f4⟩
    have F4 := Lib.hid (F3.out.trans f4)
    clear f4
    go_wp2
    go_ret
    exact ⟨rfl, F4.out⟩
  · rw [hlo] at CL
    have CT := Lib.hid (fun w => To_any c d z e w)
    have CC := Lib.hid (fun w => Check_any c d z e w (by omega) (by omega) hz he)
    have CR := Lib.hid (fun w => rCheck_any c d z e w (by omega) (by omega) hz he)
    have hcr := checkI_range c.size d.size z e
    generalize checkI c.size d.size z e = k at *
    clear hT
    go_enter Tryd.func3, Tryd.ntmps3
    go_wp2_with (refine wpList_boxBlk rfl 23 (.tmp 0) rfl _ rfl ?_)
    intro w1 n1
    have B1 : Hid (Blk w1 w.heap.size 23 (imgC c d z e)) := n1.blk
    have F1 := Lib.hid n1.fr
    clear n1
    generalize hg : w.heap.size = g at *
    have HG := Lib.hid hg
    clear hg
    go_wp2_with fail
    refine (CK.out _ F1.out).mono ?_
    rintro e' w2 ⟨rfl, f2⟩
    have B2 := Lib.hid (B1.out.fr f2 (fun x => x))
    have F2 := Lib.hid (F1.out.trans f2)
    clear f2 B1 F1
    obtain ⟨k0, k1, k2, k3⟩ := img_cells B2.out (Fr.refl _ _)
    go_wp2_with fail
    refine (CL.out _).mono ?_
    rintro e' w3 ⟨rfl, f3⟩
    have B3 := Lib.hid (B2.out.fr f3 (fun x => x))
    have F3 := Lib.hid (F2.out.trans f3)
    clear k0 k1 k2 k3 f3 B2 F2
    go_wp2
    have q0 : ∀ y : In (Later w3), y.w.cell? ⟨g, 0, none⟩ = some (.string c) := fun y => (img_cells B3.out y.h).1
    have q1 : ∀ y : In (Later w3), y.w.cell? ⟨g, 1, none⟩ = some (.string d) := fun y => (img_cells B3.out y.h).2.1
    have q2 : ∀ y : In (Later w3), y.w.cell? ⟨g, 2, none⟩ = some (.int .i64 z) := fun y => (img_cells B3.out y.h).2.2.1
    have q3 : ∀ y : In (Later w3), y.w.cell? ⟨g, 3, none⟩ = some (.int .i64 e) := fun y => (img_cells B3.out y.h).2.2.2
    refine wp_region_in (Later w3) ((Fr.refl _ _).drew) (by kernel_rfl) (by kernel_rfl) ?_
    repeat (go_big_quiet_step (first | (go_at_call 13; exact In.later (CT.out _)) | (go_at_call 14; exact In.later (CC.out _)) | (go_at_call 15; exact In.later (CR.out _))))
    refine wpQuiet_nil ?_
    rintro _ ⟨y, rfl⟩
    have FY := Lib.hid (F3.out.trans y.h)
    generalize y.w = w5 at *
    clear q0 q1 q2 q3 y
    go_wp2
    go_ret
    exact ⟨rfl, FY.out⟩

set_option maxRecDepth 100000 in
set_option maxHeartbeats 4000000 in
theorem ImagePlaces_any (i : ImgV) (w : World) (hi : i.good) (hT : ShaTab w) : Calls Tryd.prog 4 #[i.val] w (SameIn w (.bool true)) := by
  obtain ⟨c, d, z, e⟩ := i
  obtain ⟨hz, he⟩ := hi
  simp only at hz he
  unfold ImgV.val
  simp only
  have CK : Hid (∀ w', Fr Nothing w w' → Calls Tryd.prog 11 #[] w' (SameIn w' (.bool true))) := fun w' hf => known_any w' (hT.fr0 hf)
  have CL := Lib.hid (fun w => long_any c d z e w)
  have hlo : longB c d = true ∨ (longB c d = false ∧ c.size ≤ 6000 ∧ d.size ≤ 6000) := by
    unfold longB
    by_cases h : 6000 < c.size ∨ 6000 < d.size
    · exact .inl (decide_eq_true h)
    · exact .inr ⟨decide_eq_false h, by omega, by omega⟩
  rcases hlo with hlo | ⟨hlo, hc, hd⟩
  · rw [hlo] at CL
    clear hT
    go_enter Tryd.func4, Tryd.ntmps4
    go_wp2_with (refine wpList_boxBlk rfl 23 (.tmp 0) rfl _ rfl ?_)
    intro w1 n1
    have B1 : Hid (Blk w1 w.heap.size 23 (imgC c d z e)) := n1.blk
    have F1 := Lib.hid n1.fr
    clear n1
    generalize hg : w.heap.size = g at *
    have HG := Lib.hid hg
    clear hg
    go_wp2_with fail
    refine (CK.out _ F1.out).mono ?_
    rintro e' w2 ⟨rfl, f2⟩
    have B2 := Lib.hid (B1.out.fr f2 (fun x => x))
    have F2 := Lib.hid (F1.out.trans f2)
    clear f2 B1 F1
    obtain ⟨k0, k1, k2, k3⟩ := img_cells B2.out (Fr.refl _ _)
    go_wp2_with fail
    refine (CL.out _).mono ?_
    rintro e' w3 ⟨rfl, f3⟩
    have B3 := Lib.hid (B2.out.fr f3 (fun x => x))
    have F3 := Lib.hid (F2.out.trans f3)
    clear k0 k1 k2 k3 f3 B2 F2
    go_wp2_with fail
    refine (CK.out _ F3.out).mono ?_
    rintro e' w4 ⟨rfl, f4⟩
    have F4 := Lib.hid (F3.out.trans f4)
    clear f4
    go_wp2
    go_ret
    exact ⟨rfl, F4.out⟩
  · rw [hlo] at CL
    have CT := Lib.hid (fun w => To_any c d z e w)
    have CA := Lib.hid (fun w => DataAt_any c d z e w (by omega) (by omega) hz he)
    have CB := Lib.hid (fun w => rDataAt_any c d z e w (by omega) (by omega) hz he)
    have CC := Lib.hid (fun w => End_any c d z e w (by omega) (by omega) hz he)
    have CD := Lib.hid (fun w => rEnd_any c d z e w (by omega) (by omega) hz he)
    have CN := Lib.hid (fun w => NumPages_any c d z e w (by omega) (by omega) hz he)
    have hle := endP_le c.size d.size z e
    generalize endP c.size d.size z e = k at *
    generalize dataP c.size d.size z e = l at *
    have v1 : (k : Int) + 63 = ((k + 63 : Nat) : Int) := by omega
    have v2 : ((k + 63 : Nat) : Int).tdiv 64 = (((k + 63) / 64 : Nat) : Int) := by rw [Int.tdiv_eq_ediv_of_nonneg (by omega)]; omega
    have v3 : ((k + 63 : Nat) : Int) / 64 = (((k + 63) / 64 : Nat) : Int) := by omega
    have b1 : k + 63 ≤ 5000 := by omega
    have b2 : (k + 63) / 64 ≤ 5000 := by omega
    generalize (k + 63) / 64 = p at *
    generalize k + 63 = k63 at *
    clear hT
    go_enter Tryd.func4, Tryd.ntmps4
    go_wp2_with (refine wpList_boxBlk rfl 23 (.tmp 0) rfl _ rfl ?_)
    intro w1 n1
    have B1 : Hid (Blk w1 w.heap.size 23 (imgC c d z e)) := n1.blk
    have F1 := Lib.hid n1.fr
    clear n1
    generalize hg : w.heap.size = g at *
    have HG := Lib.hid hg
    clear hg
    go_wp2_with fail
    refine (CK.out _ F1.out).mono ?_
    rintro e' w2 ⟨rfl, f2⟩
    have B2 := Lib.hid (B1.out.fr f2 (fun x => x))
    have F2 := Lib.hid (F1.out.trans f2)
    clear f2 B1 F1
    obtain ⟨k0, k1, k2, k3⟩ := img_cells B2.out (Fr.refl _ _)
    go_wp2_with fail
    refine (CL.out _).mono ?_
    rintro e' w3 ⟨rfl, f3⟩
    have B3 := Lib.hid (B2.out.fr f3 (fun x => x))
    have F3 := Lib.hid (F2.out.trans f3)
    clear k0 k1 k2 k3 f3 B2 F2
    obtain ⟨k0, k1, k2, k3⟩ := img_cells B3.out (Fr.refl _ _)
    go_wp2_with fail
    refine (CT.out _).mono ?_
    rintro e' w4 ⟨rfl, f4⟩
    have B4 := Lib.hid (B3.out.fr f4 (fun x => x))
    have F4 := Lib.hid (F3.out.trans f4)
    have Z4 : Hid (g < w4.heap.size) := B4.out.lt
    clear f4 B3 F3 k0 k1 k2 k3
    go_wp2_with (refine wpList_allocBlk rfl 27 rfl (.agg zeroImg) zvI zeroImg rfl ?_)
    intro w5 n5
    have B5 := Lib.hid (B4.out.fr n5.fr (fun x => x))
    have C5 := Lib.hid n5.blk
    have F5 := Lib.hid (F4.out.trans n5.fr)
    clear n5 B4 F4
    generalize w4.heap.size = g4 at *
    go_wp2_with (refine wpList_storeBlk rfl 27 (.tmp 3) _ rfl g4 (imgC c d z e) rfl rfl _ _ C5.out (infoI _ _ _ _) rfl (img_one _ _ _ _) ?_)
    intro w6 b6 f6
    have B6 := Lib.hid (B5.out.fr f6 (fun e => by have e' : g = g4 := e; have := Z4.out; omega))
    have C6 := Lib.hid b6
    have F6 : Hid (Fr Nothing w w6) := F5.out.then_ f6 (fun i hi e => by have e' : i = g4 := e; have := Z4.out; have := HG.out; omega)
    clear b6 f6 B5 C5 F5
    go_wp2
    have q0 : ∀ y : In (Later w6), y.w.cell? ⟨g, 0, none⟩ = some (.string c) := fun y => (img_cells B6.out y.h).1
    have q1 : ∀ y : In (Later w6), y.w.cell? ⟨g, 1, none⟩ = some (.string d) := fun y => (img_cells B6.out y.h).2.1
    have q2 : ∀ y : In (Later w6), y.w.cell? ⟨g, 2, none⟩ = some (.int .i64 z) := fun y => (img_cells B6.out y.h).2.2.1
    have q3 : ∀ y : In (Later w6), y.w.cell? ⟨g, 3, none⟩ = some (.int .i64 e) := fun y => (img_cells B6.out y.h).2.2.2
    have q4 : ∀ y : In (Later w6), y.w.cell? ⟨g4, 0, none⟩ = some (.string c) := fun y => (img_cells C6.out y.h).1
    have q5 : ∀ y : In (Later w6), y.w.cell? ⟨g4, 1, none⟩ = some (.string d) := fun y => (img_cells C6.out y.h).2.1
    have q6 : ∀ y : In (Later w6), y.w.cell? ⟨g4, 2, none⟩ = some (.int .i64 z) := fun y => (img_cells C6.out y.h).2.2.1
    have q7 : ∀ y : In (Later w6), y.w.cell? ⟨g4, 3, none⟩ = some (.int .i64 e) := fun y => (img_cells C6.out y.h).2.2.2
    refine wp_region_in (Later w6) ((Fr.refl _ _).drew) (by kernel_rfl) (by kernel_rfl) ?_
    repeat (go_big_quiet_step (first | (go_at_call 16; exact In.later (CA.out _)) | (go_at_call 17; exact In.later (CB.out _)) | (go_at_call 18; exact In.later (CC.out _)) | (go_at_call 19; exact In.later (CD.out _)) | (go_at_call 20; exact In.later (CN.out _))))
    refine wpQuiet_nil ?_
    rintro _ ⟨y, rfl⟩
    have FY := Lib.hid (F6.out.trans y.h)
    generalize y.w = w7 at *
    clear q0 q1 q2 q3 q4 q5 q6 q7 y
    go_wp2
    go_ret
    exact ⟨rfl, FY.out⟩
end Go.Proofs.YtfdcmjjafngonaaDoor
