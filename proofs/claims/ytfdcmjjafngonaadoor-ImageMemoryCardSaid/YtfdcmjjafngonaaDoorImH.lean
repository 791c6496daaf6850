/- Image, plainly: what was encoded is decoded again. -/
import Derived.Test.YtfdcmjjafngonaaDoorImG
namespace Go.Proofs.YtfdcmjjafngonaaDoor
open Go.RowKit

theorem rStep_of {α : Type} (zero : α) (parse : List UInt8 → α × Nat × Int) (l : List UInt8) (p : Nat) (x : α) (k : Nat) (h : parse l = (x, k, 0)) : rStep zero parse (l, p, 0) = (x, (l.drop k, p + k, 0)) := by
  unfold rStep
  simp [h]
theorem rText_enc (c r : List UInt8) (p : Nat) (hc : c.length ≤ 4096) : rStep [] (pText 4096) (enc c.length ++ c ++ r, p, 0) = (c, (r, p + ((enc c.length).length + c.length), 0)) := by
  have hp := pn_enc9 c.length (c ++ r) (by omega)
  rw [← List.append_assoc] at hp
  have h : pText 4096 (enc c.length ++ c ++ r) = (c, (enc c.length).length + c.length, 0) := by
    unfold pText
    rw [hp]
    simp only [ne_eq, not_true_eq_false, if_false]
    rw [if_neg (by omega), if_neg (by simp only [List.length_append]; omega)]
    rw [List.append_assoc, List.drop_left, List.take_left]
  rw [rStep_of [] _ _ p _ _ h]
  congr 2
  rw [List.append_assoc, ← List.drop_drop, List.drop_left, List.drop_left]
theorem rNum_enc (n : Nat) (r : List UInt8) (p : Nat) (hn : n ≤ 4096) : rStep 0 (pNumber 4096) (enc n ++ r, p, 0) = ((n : Int), (r, p + (enc n).length, 0)) := by
  have hp := pn_enc9 n r (by omega)
  have h : pNumber 4096 (enc n ++ r) = ((n : Int), (enc n).length, 0) := by
    unfold pNumber
    rw [hp]
    simp only
    rw [if_neg (by omega)]
    rfl
  rw [rStep_of 0 _ _ p _ _ h, List.drop_left]

theorem readI_mid (c d : List UInt8) (z e : Nat) (h : checkI c.length d.length z e = 0) : readI (midL c d z e) = ((c, d, (z : Int), (e : Int)), 0) := by
  have hok := checkI_ok h
  have hu := upN_le c.length
  unfold readI
  have e1 : rStep [] (pText 4096) (midL c d z e, 0, 0) = (c, (enc d.length ++ d ++ (enc z ++ enc e), 0 + ((enc c.length).length + c.length), 0)) := by
    rw [midL, show enc c.length ++ c ++ (enc d.length ++ d) ++ enc z ++ enc e = enc c.length ++ c ++ (enc d.length ++ d ++ (enc z ++ enc e)) by simp only [List.append_assoc]]
    exact rText_enc c _ 0 (by omega)
  have e2 := rText_enc d (enc z ++ enc e) (0 + ((enc c.length).length + c.length)) (by omega)
  have e3 := rNum_enc z (enc e) (0 + ((enc c.length).length + c.length) + ((enc d.length).length + d.length)) (by omega)
  have e4 := rNum_enc e [] (0 + ((enc c.length).length + c.length) + ((enc d.length).length + d.length) + (enc z).length) (by omega)
  rw [List.append_nil] at e4
  simp only [e1, e2, e3, e4]
  rw [if_neg]
  simp only [closeI, List.length_nil, Nat.lt_irrefl, if_false, if_true, ne_eq, not_true_eq_false, false_or, h, not_false_eq_true]

theorem enc_two (n : Nat) (h : n < 16384) : (enc n).length ≤ 2 := by
  by_cases h1 : n < 128
  · rw [enc_small h1]; simp
  · rw [enc_step (by omega) (by omega), enc_small (by omega)]; simp
theorem midL_fits (c d : List UInt8) (z e : Nat) (h : checkI c.length d.length z e = 0) : 4 ≤ (midL c d z e).length ∧ (midL c d z e).length ≤ 4104 := by
  have hok := checkI_ok h
  have hu := upN_le c.length
  have h1 := enc_two c.length (by omega)
  have h2 := enc_two d.length (by omega)
  have h3 := enc_two z (by omega)
  have h4 := enc_two e (by omega)
  simp only [midL, List.length_append]
  omega
theorem bodyL_length (c d : List UInt8) (z e : Nat) : (bodyL c d z e).length = 4 + (midL c d z e).length := by simp [bodyL, magic]; omega
theorem encL_length (c d : List UInt8) (z e : Nat) : (encL c d z e).length = 12 + (midL c d z e).length := by rw [encL, List.length_append, bodyL_length, chk8_length]; omega
theorem encL_take (c d : List UInt8) (z e : Nat) : (encL c d z e).take ((encL c d z e).length - 8) = bodyL c d z e := by
  rw [encL_length, encL, List.take_append_of_le_length (by rw [bodyL_length]; omega), List.take_of_length_le (by rw [bodyL_length]; omega)]
theorem encL_drop (c d : List UInt8) (z e : Nat) : (encL c d z e).drop ((encL c d z e).length - 8) = chk8 (bodyL c d z e) := by
  rw [encL_length, encL, List.drop_append_of_le_length (by rw [bodyL_length]; omega), List.drop_of_length_le (by rw [bodyL_length]; omega), List.nil_append]
theorem encL_img (c d : List UInt8) (z e : Nat) : isImg (encL c d z e) = true := by
  unfold isImg
  rw [decide_eq_true_eq, encL, bodyL, List.append_assoc]
  rfl
theorem decV_enc (c d : List UInt8) (z e : Nat) (h : checkI c.length d.length z e = 0) : decV (encL c d z e) = ((c, d, (z : Int), (e : Int)), 0) := by
  have hf := midL_fits c d z e h
  have hl := encL_length c d z e
  unfold decV
  rw [if_neg (by omega), if_neg (by rw [encL_img]; simp), if_neg (by omega), encL_take, encL_drop, if_neg (by simp)]
  rw [show (bodyL c d z e).drop 4 = midL c d z e from rfl]
  exact readI_mid c d z e h

theorem ba_toList (a b : ByteArray) : (a.toList = b.toList) = (a = b) := by
  rw [ByteArray.toList_eq, ByteArray.toList_eq, eq_iff_iff]
  constructor
  · intro h
    cases a; cases b
    simp only [ByteArray.mk.injEq]
    exact Array.toList_inj.1 h
  · rintro rfl
    rfl
theorem run_eqI (c d c' d' : ByteArray) (z e z' e' : Int) (w : World) : (binOp .eql 27 (imgV c d z e) (imgV c' d' z' e')).run Tryd.prog w = .ok (.bool (decide (c = c' ∧ d = d' ∧ z = z' ∧ e = e'))) w := by
  go_simp
  simp only [ba_toList]
  by_cases h1 : c = c' <;> by_cases h2 : d = d' <;> by_cases h3 : z = z' <;> by_cases h4 : e = e' <;> simp [h1, h2, h3, h4]

/-! ### The example -/
def kc : ByteArray := ⟨#[0, 0, 0, 0]⟩
def kd : ByteArray := ⟨#[97, 98]⟩
theorem known_check : checkI 4 2 3 0 = 0 := by decide
theorem known_mem : memL (strL kc) (strL kd) 3 0 = [0, 0, 0, 0] ++ List.replicate 60 0 ++ [97, 98] ++ List.replicate 62 0 := by kernel_rfl

set_option maxRecDepth 100000 in
set_option maxHeartbeats 4000000 in
theorem known_any (w : World) (hT : ShaTab w) : Calls Tryd.prog 11 #[] w (SameIn w (.bool true)) := by
  have CE : Hid (∀ w', Fr Nothing w w' → Calls Tryd.prog 21 #[imgV kc kd 3 0] w' (SameIn w' (.tuple #[.string ⟨(encL (strL kc) (strL kd) 3 0).toArray⟩, .int .i64 0]))) := fun w' hf => Encode_ok kc kd 3 0 w' known_check (hT.fr0 hf)
  have hfit := midL_fits (strL kc) (strL kd) 3 0 known_check
  have hlen := encL_length (strL kc) (strL kd) 3 0
  obtain ⟨E, hE⟩ : ∃ E : ByteArray, E = ⟨(encL (strL kc) (strL kd) 3 0).toArray⟩ := ⟨_, rfl⟩
  have hEs : E.size ≤ 5000 := by rw [hE, size_mk]; omega
  have CD : Hid (∀ w', Fr Nothing w w' → Calls Tryd.prog 23 #[.string E] w' (SameIn w' (.tuple #[imgV kc kd 3 0, .int .i64 0]))) := fun w' hf => by
    have h := Decode_any E w' (by omega) (hT.fr0 hf)
    have hEl : strL E = encL (strL kc) (strL kd) 3 0 := by rw [hE, strL_mk]
    rw [hEl, decV_enc (strL kc) (strL kd) 3 0 known_check] at h
    exact h
  rw [← hE] at CE
  have CA : Hid (∀ w', Calls Tryd.prog 16 #[imgV kc kd 3 0] w' (SameIn w' (.int .i64 64))) := fun w' => DataAt_any kc kd 3 0 w' (by decide) (by decide) (by decide) (by decide)
  have CF : Hid (∀ w', Calls Tryd.prog 18 #[imgV kc kd 3 0] w' (SameIn w' (.int .i64 69))) := fun w' => End_any kc kd 3 0 w' (by decide) (by decide) (by decide) (by decide)
  have CN : Hid (∀ w', Calls Tryd.prog 20 #[imgV kc kd 3 0] w' (SameIn w' (.int .i64 2))) := fun w' => NumPages_any kc kd 3 0 w' (by decide) (by decide) (by decide) (by decide)
  obtain ⟨M, hM⟩ : ∃ M : ByteArray, M = ⟨(memL (strL kc) (strL kd) 3 0).toArray⟩ := ⟨_, rfl⟩
  have CM : Hid (∀ w', Calls Tryd.prog 30 #[imgV kc kd 3 0] w' (SameIn w' (.string M))) := fun w' => by
    rw [hM]
    exact Memory_any kc kd 3 0 w' (by decide) (by decide) (by decide) (by decide)
  have m1 : M.size = 128 := by rw [hM, size_mk, known_mem]; simp
  have m2 : (M.extract 64 67).toList = [97, 98, 0] := by
    rw [ByteArray.toList_eq]
    show strL (M.extract 64 67) = _
    rw [strL_extract, hM, strL_mk, known_mem]
    rfl
  have q : Hid (∀ w, (binOp .eql 27 (imgV kc kd 3 0) (imgV kc kd 3 0)).run Tryd.prog w = .ok (.bool true) w) := fun w => by
    rw [run_eqI, decide_eq_true ⟨rfl, rfl, rfl, rfl⟩]
  clear hE hM hT hfit hlen
  go_enter Tryd.func11, Tryd.ntmps11
  go_wp2_with (refine wpList_allocBlk rfl 27 rfl (.agg zeroImg) zvI zeroImg rfl ?_)
  intro w1 n1
  have B1 := Lib.hid n1.blk
  have F1 := Lib.hid n1.fr
  clear n1
  generalize hg : w.heap.size = g at *
  have HG := Lib.hid hg
  clear hg
  go_wp2_with (refine wpList_storeBlk rfl 27 (.tmp 1) _ rfl g (imgC kc kd 3 0) rfl rfl _ _ B1.out (infoI _ _ _ _) rfl (img_one _ _ _ _) ?_)
  intro w2 b2 f2
  have B2 := Lib.hid b2
  have F2 : Hid (Fr Nothing w w2) := F1.out.then_ f2 (fun i hi e => by have e' : i = g := e; have := HG.out; omega)
  clear b2 f2 B1 F1
  obtain ⟨k0, k1, k2, k3⟩ := img_cells B2.out (Fr.refl _ _)
  go_wp2_with fail
  refine (CE.out _ F2.out).mono ?_
  rintro e' w3 ⟨rfl, f3⟩
  have B3 := Lib.hid (B2.out.fr f3 (fun x => x))
  have F3 := Lib.hid (F2.out.trans f3)
  clear k0 k1 k2 k3 f3 B2 F2 CE
  go_wp2_with fail
  refine (CD.out _ F3.out).mono ?_
  rintro e' w4 ⟨rfl, f4⟩
  have B4 := Lib.hid (B3.out.fr f4 (fun x => x))
  have F4 := Lib.hid (F3.out.trans f4)
  have Z4 : Hid (g < w4.heap.size) := B4.out.lt
  clear f4 B3 F3 CD
  go_wp2_with (refine wpList_allocBlk rfl 27 rfl (.agg zeroImg) zvI zeroImg rfl ?_)
  intro w5 n5
  have B5 := Lib.hid (B4.out.fr n5.fr (fun x => x))
  have C5 := Lib.hid n5.blk
  have F5 := Lib.hid (F4.out.trans n5.fr)
  clear n5 B4 F4
  generalize w4.heap.size = g4 at *
  go_wp2_with (refine wpList_storeBlk rfl 27 (.tmp 4) _ rfl g4 (imgC kc kd 3 0) rfl rfl _ _ C5.out (infoI _ _ _ _) rfl (img_one _ _ _ _) ?_)
  intro w6 b6 f6
  have B6 := Lib.hid (B5.out.fr f6 (fun e => by have e' : g = g4 := e; have := Z4.out; omega))
  have C6 := Lib.hid b6
  have F6 : Hid (Fr Nothing w w6) := F5.out.then_ f6 (fun i hi e => by have e' : i = g4 := e; have := Z4.out; have := HG.out; omega)
  clear b6 f6 B5 C5 F5
  obtain ⟨k0, k1, k2, k3⟩ := img_cells B6.out (Fr.refl _ _)
  go_wp2_with fail
  refine (CA.out _).mono ?_
  rintro e' w7 ⟨rfl, f7⟩
  have B7 := Lib.hid (B6.out.fr f7 (fun x => x))
  have C7 := Lib.hid (C6.out.fr f7 (fun x => x))
  have F7 := Lib.hid (F6.out.trans f7)
  clear k0 k1 k2 k3 f7 B6 C6 F6
  obtain ⟨k0, k1, k2, k3⟩ := img_cells B7.out (Fr.refl _ _)
  go_wp2_with fail
  refine (CF.out _).mono ?_
  rintro e' w8 ⟨rfl, f7⟩
  have B8 := Lib.hid (B7.out.fr f7 (fun x => x))
  have C8 := Lib.hid (C7.out.fr f7 (fun x => x))
  have F8 := Lib.hid (F7.out.trans f7)
  clear k0 k1 k2 k3 f7 B7 C7 F7
  obtain ⟨k0, k1, k2, k3⟩ := img_cells B8.out (Fr.refl _ _)
  go_wp2_with fail
  refine (CN.out _).mono ?_
  rintro e' w9 ⟨rfl, f7⟩
  have B9 := Lib.hid (B8.out.fr f7 (fun x => x))
  have C9 := Lib.hid (C8.out.fr f7 (fun x => x))
  have F9 := Lib.hid (F8.out.trans f7)
  clear k0 k1 k2 k3 f7 B8 C8 F8
  obtain ⟨k0, k1, k2, k3⟩ := img_cells B9.out (Fr.refl _ _)
  go_wp2_with fail
  refine (CM.out _).mono ?_
  rintro e' w10 ⟨rfl, f7⟩
  have B10 := Lib.hid (B9.out.fr f7 (fun x => x))
  have C10 := Lib.hid (C9.out.fr f7 (fun x => x))
  have F10 := Lib.hid (F9.out.trans f7)
  clear k0 k1 k2 k3 f7 B9 C9 F9
  obtain ⟨k0, k1, k2, k3⟩ := img_cells B10.out (Fr.refl _ _)
  go_wp2_with fail
  refine (CM.out _).mono ?_
  rintro e' w11 ⟨rfl, f7⟩
  have B11 := Lib.hid (B10.out.fr f7 (fun x => x))
  have C11 := Lib.hid (C10.out.fr f7 (fun x => x))
  have F11 := Lib.hid (F10.out.trans f7)
  clear k0 k1 k2 k3 f7 B10 C10 F10
  obtain ⟨k0, k1, k2, k3⟩ := img_cells B11.out (Fr.refl _ _)
  obtain ⟨j0, j1, j2, j3⟩ := img_cells C11.out (Fr.refl _ _)
  have qq := q.out
  go_wp2
  go_ret
  exact ⟨rfl, F11.out⟩
end Go.Proofs.YtfdcmjjafngonaaDoor
