/- ImageDecodes (written by genI10.py). -/
import Derived.Test.YtfdcmjjafngonaaDoorImQ
namespace Go.Proofs.YtfdcmjjafngonaaDoor
open Go.RowKit

set_option maxRecDepth 100000 in
set_option maxHeartbeats 4000000 in
theorem ImageDecodes_any (s : ByteArray) (w : World) (hT : ShaTab w) : Calls Tryd.prog 6 #[.string s] w (SameIn w (.bool true)) := by
  have CK : Hid (∀ w', Fr Nothing w w' → Calls Tryd.prog 11 #[] w' (SameIn w' (.bool true))) := fun w' hf => known_any w' (hT.fr0 hf)
  by_cases hs : 5000 < s.size
  · have t1 : decide ((5000 : Int) < (s.size : Int)) = true := decide_eq_true (by omega)
    clear hT hs
    go_enter Tryd.func6, Tryd.ntmps6
    go_wp2_with fail
    refine (CK.out _ (Fr.refl _ _)).mono ?_
    rintro e' w1 ⟨rfl, f1⟩
    have F1 := Lib.hid f1
    clear f1
    go_wp2_with fail
    refine (CK.out _ F1.out).mono ?_
    rintro e' w2 ⟨rfl, f2⟩
    have F2 := Lib.hid (F1.out.trans f2)
    clear f2
    go_wp2
    go_ret
    exact ⟨rfl, F2.out⟩
  have t1 : decide ((5000 : Int) < (s.size : Int)) = false := decide_eq_false (by omega)
  have CD := Lib.hid (fun w' (hf : Fr Nothing w w') => Decode_any s w' (by omega) (hT.fr0 hf))
  have CR := Lib.hid (fun w' => rDecode_any s w' (by omega))
  rw [decR_eq] at CR
  obtain ⟨c, d, z, e, f, hr⟩ : ∃ c d z e f, retI (decV (strL s)) = .tuple #[imgV c d z e, .int .i64 f] := ⟨_, _, _, _, _, rfl⟩
  rw [hr] at CD CR
  have CT := Lib.hid (fun w => To_any c d z e w)
  have Q1 : Hid (∀ w, (binOp .eql 27 (imgV c d z e) (imgV c d z e)).run Tryd.prog w = .ok (.bool true) w) := fun w => by
    rw [run_eqI]
    simp
  have CI := Lib.hid (fun w => IsImage_any s w)
  have CJ := Lib.hid (fun w => rIsImage_any s w)
  generalize isImg (strL s) = B at *
  clear hT hs hr
  go_enter Tryd.func6, Tryd.ntmps6
  go_wp2_with fail
  refine (CK.out _ (Fr.refl _ _)).mono ?_
  rintro e' w1 ⟨rfl, f1⟩
  have F1 := Lib.hid f1
  clear f1
  go_wp2_with fail
  refine (CD.out _ F1.out).mono ?_
  rintro e' w2 ⟨rfl, f2⟩
  have F2 := Lib.hid (F1.out.trans f2)
  clear f2 F1 CD CK
  go_wp2_with (refine wpList_allocBlk rfl 27 rfl (.agg zeroImg) zvI zeroImg rfl ?_)
  intro w3 nx
  have G3 := Lib.hid nx.blk
  have F3 := Lib.hid (F2.out.trans nx.fr)
  have Z2 := Lib.hid F2.out.size
  clear nx F2
  generalize w2.heap.size = g3 at *
  go_wp2_with (refine wpList_storeBlk rfl 27 (.tmp 3) _ rfl g3 (imgC c d z e) rfl rfl _ _ G3.out (infoI _ _ _ _) rfl (img_one _ _ _ _) ?_)
  intro w4 bx fx
  have G4 := Lib.hid bx
  have F4 : Hid (Fr Nothing w w4) := F3.out.then_ fx (fun i hi e => by have e' : i = g3 := e; have := Z2.out; omega)
  clear bx fx G3 F3
  go_wp2_with fail
  refine (CR.out _).mono ?_
  rintro e' w5 ⟨rfl, f5⟩
  have F5 := Lib.hid (F4.out.trans f5)
  have G5 := Lib.hid (G4.out.fr f5 (fun x => x))
  have Z5 : Hid (g3 < w5.heap.size ∧ w.heap.size ≤ w5.heap.size) := ⟨G5.out.lt, F5.out.size⟩
  clear f5 F4 G4 CR
  go_wp2_with (refine wpList_allocBlk rfl 23 rfl (.agg zeroImg) zvRI zeroImg rfl ?_)
  intro w6 nx
  have H6 := Lib.hid nx.blk
  have F6 := Lib.hid (F5.out.trans nx.fr)
  have G6 := Lib.hid (G5.out.fr nx.fr (fun x => x))
  clear nx F5 G5
  generalize w5.heap.size = g5 at *
  go_wp2_with (refine wpList_storeBlk rfl 23 (.tmp 5) _ rfl g5 (imgC c d z e) rfl rfl _ _ H6.out (infoR _ _ _ _) rfl (img_one _ _ _ _) ?_)
  intro w7 bx fx
  have H7 := Lib.hid bx
  have F7 : Hid (Fr Nothing w w7) := F6.out.then_ fx (fun i hi e => by have e' : i = g5 := e; have := Z5.out; omega)
  have G7 := Lib.hid (G6.out.fr fx (fun e => by have e' : g3 = g5 := e; have := Z5.out; omega))
  clear bx fx H6 F6 G6
  go_wp2
  have q0 : ∀ y : In (Later w7), y.w.cell? ⟨g3, 0, none⟩ = some (.string c) := fun y => (img_cells G7.out y.h).1
  have q1 : ∀ y : In (Later w7), y.w.cell? ⟨g3, 1, none⟩ = some (.string d) := fun y => (img_cells G7.out y.h).2.1
  have q2 : ∀ y : In (Later w7), y.w.cell? ⟨g3, 2, none⟩ = some (.int .i64 z) := fun y => (img_cells G7.out y.h).2.2.1
  have q3 : ∀ y : In (Later w7), y.w.cell? ⟨g3, 3, none⟩ = some (.int .i64 e) := fun y => (img_cells G7.out y.h).2.2.2
  have q4 : ∀ y : In (Later w7), y.w.cell? ⟨g5, 0, none⟩ = some (.string c) := fun y => (img_cells H7.out y.h).1
  have q5 : ∀ y : In (Later w7), y.w.cell? ⟨g5, 1, none⟩ = some (.string d) := fun y => (img_cells H7.out y.h).2.1
  have q6 : ∀ y : In (Later w7), y.w.cell? ⟨g5, 2, none⟩ = some (.int .i64 z) := fun y => (img_cells H7.out y.h).2.2.1
  have q7 : ∀ y : In (Later w7), y.w.cell? ⟨g5, 3, none⟩ = some (.int .i64 e) := fun y => (img_cells H7.out y.h).2.2.2
  have qa := Q1.out
  refine wp_region_in (Later w7) ((Fr.refl _ _).drew) (by kernel_rfl) (by kernel_rfl) ?_
  repeat (go_big_quiet_step (first | (go_at_call 13; exact In.later (CT.out _)) | (go_at_call 24; exact In.same (CI.out _)) | (go_at_call 26; exact In.same (CJ.out _))))
  refine wpQuiet_nil ?_
  rintro _ ⟨y, rfl⟩
  have FY := Lib.hid (F7.out.trans y.h)
  generalize y.w = w12 at *
  clear q0 q1 q2 q3 q4 q5 q6 q7 y qa
  go_wp2
  go_ret
  exact ⟨rfl, FY.out⟩
end Go.Proofs.YtfdcmjjafngonaaDoor
