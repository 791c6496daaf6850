/- ImageEncodes (written by genI7.py). -/
import Derived.Test.YtfdcmjjafngonaaDoorImL
import Derived.Test.YtfdcmjjafngonaaDoorImM
namespace Go.Proofs.YtfdcmjjafngonaaDoor
open Go.RowKit

set_option maxRecDepth 100000 in
set_option maxHeartbeats 4000000 in
theorem ImageEncodes_any (i : ImgV) (w : World) (hi : i.good) (hT : ShaTab w) : Calls Tryd.prog 5 #[i.val] w (SameIn w (.bool true)) := by
  obtain ⟨c, d, z, e⟩ := i
  obtain ⟨hz, he⟩ := hi
  simp only at hz he
  unfold ImgV.val
  simp only
  have CK : Hid (∀ w', Fr Nothing w w' → Calls Tryd.prog 11 #[] w' (SameIn w' (.bool true))) := fun w' hf => known_any w' (hT.fr0 hf)
  have CL := Lib.hid (fun w => long_any c d z e w)
  have hlo : longB c d = true ∨ (longB c d = false ∧ c.size ≤ 6000 ∧ d.size ≤ 6000) := by
    unfold longB
    by_cases h : 6000 < c.size ∨ 6000 < d.size
    · exact .inl (decide_eq_true h)
    · exact .inr ⟨decide_eq_false h, by omega, by omega⟩
  rcases hlo with hlo | ⟨hlo, hc, hd⟩
  · rw [hlo] at CL
    clear hT
    go_enter Tryd.func5, Tryd.ntmps5
    go_wp2_with (refine wpList_boxBlk rfl 23 (.tmp 0) rfl _ rfl ?_)
    intro w1 n1
    have B1 : Hid (Blk w1 w.heap.size 23 (imgC c d z e)) := n1.blk
    have F1 := Lib.hid n1.fr
    clear n1
    generalize hg : w.heap.size = g at *
    have HG := Lib.hid hg
    clear hg
    go_wp2_with fail
    refine (CK.out _ F1.out).mono ?_
    rintro e' w2 ⟨rfl, f2⟩
    have B2 := Lib.hid (B1.out.fr f2 (fun x => x))
    have F2 := Lib.hid (F1.out.trans f2)
    clear f2 B1 F1
    obtain ⟨k0, k1, k2, k3⟩ := img_cells B2.out (Fr.refl _ _)
    go_wp2_with fail
    refine (CL.out _).mono ?_
    rintro e' w3 ⟨rfl, f3⟩
    have B3 := Lib.hid (B2.out.fr f3 (fun x => x))
    have F3 := Lib.hid (F2.out.trans f3)
    clear k0 k1 k2 k3 f3 B2 F2
    go_wp2_with fail
    refine (CK.out _ F3.out).mono ?_
    rintro e' w4 ⟨rfl, f4⟩
    have F4 := Lib.hid (F3.out.trans f4)
    clear f4
    go_wp2
    go_ret
    exact ⟨rfl, F4.out⟩
  rw [hlo] at CL
  have CT := Lib.hid (fun w => To_any c d z e w)
  have CE := Lib.hid (fun w' (hf : Fr Nothing w w') => Encode_any c d z e w' (by omega) (by omega) hz he (hT.fr0 hf))
  have CF := Lib.hid (fun w' => rEncode_any c d z e w' (by omega) (by omega) hz he)
  have hcr := checkI_range c.size d.size z e
  by_cases hkn : checkI c.size d.size z e ≠ 0
  · have t2 : (checkI c.size d.size z e != 0) = true := by rw [bne_iff_ne]; exact hkn
    generalize (⟨(encV (strL c) (strL d) z e).toArray⟩ : ByteArray) = E at *
    generalize checkI c.size d.size z e = k at *
    clear hT
    go_enter Tryd.func5, Tryd.ntmps5
    go_wp2_with (refine wpList_boxBlk rfl 23 (.tmp 0) rfl _ rfl ?_)
    intro w1 n1
    have B1 : Hid (Blk w1 w.heap.size 23 (imgC c d z e)) := n1.blk
    have F1 := Lib.hid n1.fr
    clear n1
    generalize hg : w.heap.size = g at *
    have HG := Lib.hid hg
    clear hg
    go_wp2_with fail
    refine (CK.out _ F1.out).mono ?_
    rintro e' w2 ⟨rfl, f2⟩
    have B2 := Lib.hid (B1.out.fr f2 (fun x => x))
    have F2 := Lib.hid (F1.out.trans f2)
    clear f2 B1 F1
    obtain ⟨k0, k1, k2, k3⟩ := img_cells B2.out (Fr.refl _ _)
    go_wp2_with fail
    refine (CL.out _).mono ?_
    rintro e' w3 ⟨rfl, f3⟩
    have B3 := Lib.hid (B2.out.fr f3 (fun x => x))
    have F3 := Lib.hid (F2.out.trans f3)
    clear k0 k1 k2 k3 f3 B2 F2
    obtain ⟨k0, k1, k2, k3⟩ := img_cells B3.out (Fr.refl _ _)
    go_wp2_with fail
    refine (CT.out _).mono ?_
    rintro e'' w4 ⟨rfl, f4⟩
    have B4 := Lib.hid (B3.out.fr f4 (fun x => x))
    have F4 := Lib.hid (F3.out.trans f4)
    clear f4 B3 F3 k0 k1 k2 k3
    go_wp2_with fail
    refine (CE.out _ F4.out).mono ?_
    rintro e'' w5 ⟨rfl, f5⟩
    have B5 := Lib.hid (B4.out.fr f5 (fun x => x))
    have F5 := Lib.hid (F4.out.trans f5)
    clear f5 B4 F4
    obtain ⟨k0, k1, k2, k3⟩ := img_cells B5.out (Fr.refl _ _)
    go_wp2_with fail
    refine (CF.out _).mono ?_
    rintro e'' w6 ⟨rfl, f6⟩
    have B6 := Lib.hid (B5.out.fr f6 (fun x => x))
    have F6 := Lib.hid (F5.out.trans f6)
    clear f6 B5 F5 k0 k1 k2 k3
    go_wp2
    go_ret
    exact ⟨rfl, F6.out⟩
  have hk : checkI c.size d.size z e = 0 := by omega
  have hok := checkI_ok hk
  obtain ⟨z', rfl⟩ : ∃ z' : Nat, z = z' := ⟨z.toNat, by omega⟩
  obtain ⟨e', rfl⟩ : ∃ e' : Nat, e = e' := ⟨e.toNat, by omega⟩
  have hEV : encV (strL c) (strL d) z' e' = encL (strL c) (strL d) z' e' := by
    unfold encV
    rw [strL_length, strL_length, if_pos hk, Int.toNat_natCast, Int.toNat_natCast]
  have hk' : checkI (strL c).length (strL d).length z' e' = 0 := by rw [strL_length, strL_length]; exact hk
  have hfit := midL_fits (strL c) (strL d) z' e' hk'
  have hlen := encL_length (strL c) (strL d) z' e'
  rw [hEV] at CE CF
  obtain ⟨E, hE⟩ : ∃ E : ByteArray, E = ⟨(encL (strL c) (strL d) z' e').toArray⟩ := ⟨_, rfl⟩
  rw [← hE, hk] at CE CF
  have hEL : strL E = encL (strL c) (strL d) z' e' := by rw [hE, strL_mk]
  have hEs : 12 ≤ E.size ∧ E.size ≤ 4200 := by rw [← strL_length, hEL]; omega
  have D1 := Lib.hid (fun w' (hf : Fr Nothing w w') => Decode_any E w' (by omega) (hT.fr0 hf))
  have hD : retI (decV (strL E)) = .tuple #[imgV c d z' e', .int .i64 0] := by
    rw [hEL, decV_enc _ _ z' e' hk']
    unfold retI
    simp only [← ba_of c (strL c) rfl, ← ba_of d (strL d) rfl]
  rw [hD] at D1
  have CI := Lib.hid (fun w' => IsImage_any E w')
  rw [show isImg (strL E) = true by rw [hEL]; rfl] at CI
  have t4 : decide ((E.size : Int) ≤ 4200) = true := decide_eq_true (by omega)
  have Q1 : Hid (∀ w, (binOp .eql 27 (imgV c d z' e') (imgV c d z' e')).run Tryd.prog w = .ok (.bool true) w) := fun w => by
    rw [run_eqI]
    simp
  have gE : E.size ≤ 4200 := hEs.2
  clear hT hE hEL hEV hfit hlen hD hk' hk hok hcr hkn hEs
  go_enter Tryd.func5, Tryd.ntmps5
  go_wp2_with (refine wpList_boxBlk rfl 23 (.tmp 0) rfl _ rfl ?_)
  intro w1 n1
  have B1 : Hid (Blk w1 w.heap.size 23 (imgC c d z' e')) := n1.blk
  have F1 := Lib.hid n1.fr
  clear n1
  generalize hg : w.heap.size = g at *
  have HG := Lib.hid hg
  clear hg
  go_wp2_with fail
  refine (CK.out _ F1.out).mono ?_
  rintro e' w2 ⟨rfl, f2⟩
  have B2 := Lib.hid (B1.out.fr f2 (fun x => x))
  have F2 := Lib.hid (F1.out.trans f2)
  clear f2 B1 F1
  obtain ⟨k0, k1, k2, k3⟩ := img_cells B2.out (Fr.refl _ _)
  go_wp2_with fail
  refine (CL.out _).mono ?_
  rintro e' w3 ⟨rfl, f3⟩
  have B3 := Lib.hid (B2.out.fr f3 (fun x => x))
  have F3 := Lib.hid (F2.out.trans f3)
  clear k0 k1 k2 k3 f3 B2 F2
  obtain ⟨k0, k1, k2, k3⟩ := img_cells B3.out (Fr.refl _ _)
  go_wp2_with fail
  refine (CT.out _).mono ?_
  rintro e'' w4 ⟨rfl, f4⟩
  have B4 := Lib.hid (B3.out.fr f4 (fun x => x))
  have F4 := Lib.hid (F3.out.trans f4)
  clear f4 B3 F3 k0 k1 k2 k3
  go_wp2_with fail
  refine (CE.out _ F4.out).mono ?_
  rintro e'' w5 ⟨rfl, f5⟩
  have B5 := Lib.hid (B4.out.fr f5 (fun x => x))
  have F5 := Lib.hid (F4.out.trans f5)
  clear f5 B4 F4
  obtain ⟨k0, k1, k2, k3⟩ := img_cells B5.out (Fr.refl _ _)
  go_wp2_with fail
  refine (CF.out _).mono ?_
  rintro e'' w6 ⟨rfl, f6⟩
  have B6 := Lib.hid (B5.out.fr f6 (fun x => x))
  have F6 := Lib.hid (F5.out.trans f6)
  clear f6 B5 F5 k0 k1 k2 k3
  go_wp2_with fail
  refine (D1.out _ F6.out).mono ?_
  rintro e'' w7 ⟨rfl, fx⟩
  have B7 := Lib.hid (B6.out.fr fx (fun x => x))
  have F7 := Lib.hid (F6.out.trans fx)
  have Z7 : Hid (g < w7.heap.size) := B7.out.lt
  clear fx B6 F6 
  go_wp2_with (refine wpList_allocBlk rfl 27 rfl (.agg zeroImg) zvI zeroImg rfl ?_)
  intro w8 nx
  have B8 := Lib.hid (B7.out.fr nx.fr (fun x => x))
  have F8 := Lib.hid (F7.out.trans nx.fr)
  have G8 := Lib.hid nx.blk
  clear nx B7 F7 
  generalize w7.heap.size = g9 at *
  go_wp2_with (refine wpList_storeBlk rfl 27 (.tmp 7) _ rfl g9 (imgC c d z' e') rfl rfl _ _ G8.out (infoI _ _ _ _) rfl (img_one _ _ _ _) ?_)
  intro w9 bx fx
  have B9 := Lib.hid (B8.out.fr fx (fun e => by have e' : g = g9 := e; have := Z7.out; omega))
  have F9 : Hid (Fr Nothing w w9) := F8.out.then_ fx (fun i hi e => by have e' : i = g9 := e; have := Z7.out; have := HG.out; omega)
  have G9 := Lib.hid bx
  clear bx fx B8 F8 G8 
  go_wp2
  have q0 : ∀ y : In (Later w9), y.w.cell? ⟨g, 0, none⟩ = some (.string c) := fun y => (img_cells B9.out y.h).1
  have q1 : ∀ y : In (Later w9), y.w.cell? ⟨g, 1, none⟩ = some (.string d) := fun y => (img_cells B9.out y.h).2.1
  have q2 : ∀ y : In (Later w9), y.w.cell? ⟨g, 2, none⟩ = some (.int .i64 z') := fun y => (img_cells B9.out y.h).2.2.1
  have q3 : ∀ y : In (Later w9), y.w.cell? ⟨g, 3, none⟩ = some (.int .i64 e') := fun y => (img_cells B9.out y.h).2.2.2
  have q4 : ∀ y : In (Later w9), y.w.cell? ⟨g9, 0, none⟩ = some (.string c) := fun y => (img_cells G9.out y.h).1
  have q5 : ∀ y : In (Later w9), y.w.cell? ⟨g9, 1, none⟩ = some (.string d) := fun y => (img_cells G9.out y.h).2.1
  have q6 : ∀ y : In (Later w9), y.w.cell? ⟨g9, 2, none⟩ = some (.int .i64 z') := fun y => (img_cells G9.out y.h).2.2.1
  have q7 : ∀ y : In (Later w9), y.w.cell? ⟨g9, 3, none⟩ = some (.int .i64 e') := fun y => (img_cells G9.out y.h).2.2.2
  have qa := Q1.out
  refine wp_region_in (Later w9) ((Fr.refl _ _).drew) (by kernel_rfl) (by kernel_rfl) ?_
  repeat (go_big_quiet_step (first | (go_at_call 13; exact In.later (CT.out _)) | (go_at_call 24; exact In.same (CI.out _))))
  refine wpQuiet_nil ?_
  rintro _ ⟨y, rfl⟩
  have FY := Lib.hid (F9.out.trans y.h)
  generalize y.w = w12 at *
  clear q0 q1 q2 q3 q4 q5 q6 q7 y qa
  go_wp2
  go_ret
  exact ⟨rfl, FY.out⟩
end Go.Proofs.YtfdcmjjafngonaaDoor
