/- The reference's Decode of images, walked (written by genI9.py). -/
import Derived.Test.YtfdcmjjafngonaaDoorImO
namespace Go.Proofs.YtfdcmjjafngonaaDoor
open Go.RowKit

theorem infoR (c d : ByteArray) (z e : Int) : (Tryd.prog.info? 23).map (·.size) = some (imgC c d z e).size := by kernel_rfl
theorem info_str : (Tryd.prog.info? 9).map (·.size) = some 1 := by kernel_rfl
theorem info_int : (Tryd.prog.info? 3).map (·.size) = some 1 := by kernel_rfl

set_option maxRecDepth 100000 in
set_option maxHeartbeats 4000000 in
theorem rDecode_any (s : ByteArray) (w : World) (hs : s.size ≤ 1099511627776) : Calls Tryd.prog 25 #[.string s] w (SameIn w (retI (decR (strL s)))) := by
  have CI := Lib.hid (fun w => rIsImage_any s w)
  have ls := strL_length s
  unfold decR
  rw [ls]
  by_cases h1 : 4200 < s.size
  · rw [if_pos h1]
    have t1 : decide ((4200 : Int) < (s.size : Int)) = true := decide_eq_true (by omega)
    show Calls _ _ _ _ (SameIn w (.tuple #[.agg zeroImg, .int .i64 5]))
    go_enter Tryd.func25, Tryd.ntmps25
    go_wp2_with (refine wpList_allocBlk rfl 23 rfl (.agg zeroImg) zvRI zeroImg rfl ?_)
    intro w1 n1
    have B1 := Lib.hid n1.blk
    have F1 := Lib.hid n1.fr
    clear n1
    generalize hg : w.heap.size = g at *
    have HG := Lib.hid hg
    clear hg
    go_wp2_with (refine wpList_storeBlk rfl 23 (.tmp 2) _ rfl g zeroImg rfl rfl _ _ B1.out (infoR _ _ 0 0) rfl (img_one _ _ 0 0) ?_)
    intro wz bz fz
    have J := Lib.hid bz
    have JF : Hid (Fr Nothing w wz) := F1.out.then_ fz (fun i hi e => by have e' : i = g := e; have := HG.out; omega)
    clear bz fz
    go_wp2
    exact bodyPost_ret (results_cell_slot (fn := Tryd.f25) (p := 2) (q := 3) (ty := 23) Tryd.results25 _ wz _ 23 zeroImg (0, 0) _ rfl J.out Tryd.underlying23 rfl (infoR _ _ 0 0) _ rfl) rfl ⟨rfl, JF.out⟩
  rw [if_neg h1]
  have t1 : decide ((4200 : Int) < (s.size : Int)) = false := decide_eq_false (by omega)
  by_cases h2 : isImg (strL s) = false
  · rw [if_pos h2]
    rw [h2] at CI
    show Calls _ _ _ _ (SameIn w (.tuple #[.agg zeroImg, .int .i64 3]))
    clear h2
    go_enter Tryd.func25, Tryd.ntmps25
    go_wp2_with (refine wpList_allocBlk rfl 23 rfl (.agg zeroImg) zvRI zeroImg rfl ?_)
    intro w1 n1
    have B1 := Lib.hid n1.blk
    have F1 := Lib.hid n1.fr
    clear n1
    generalize hg : w.heap.size = g at *
    have HG := Lib.hid hg
    clear hg
    go_wp2_with fail
    refine (CI.out _).mono ?_
    rintro e' w' ⟨rfl, rfl⟩
    go_wp2_with (refine wpList_storeBlk rfl 23 (.tmp 2) _ rfl g zeroImg rfl rfl _ _ B1.out (infoR _ _ 0 0) rfl (img_one _ _ 0 0) ?_)
    intro wz bz fz
    have J := Lib.hid bz
    have JF : Hid (Fr Nothing w wz) := F1.out.then_ fz (fun i hi e => by have e' : i = g := e; have := HG.out; omega)
    clear bz fz
    go_wp2
    exact bodyPost_ret (results_cell_slot (fn := Tryd.f25) (p := 2) (q := 3) (ty := 23) Tryd.results25 _ wz _ 23 zeroImg (0, 0) _ rfl J.out Tryd.underlying23 rfl (infoR _ _ 0 0) _ rfl) rfl ⟨rfl, JF.out⟩
  rw [if_neg h2]
  have h2' : isImg (strL s) = true := by simpa using h2
  rw [h2'] at CI
  by_cases h3 : s.size < 12
  · rw [if_pos h3]
    have t3 : decide ((s.size : Int) < 12) = true := decide_eq_true (by omega)
    show Calls _ _ _ _ (SameIn w (.tuple #[.agg zeroImg, .int .i64 4]))
    clear h2 h2'
    go_enter Tryd.func25, Tryd.ntmps25
    go_wp2_with (refine wpList_allocBlk rfl 23 rfl (.agg zeroImg) zvRI zeroImg rfl ?_)
    intro w1 n1
    have B1 := Lib.hid n1.blk
    have F1 := Lib.hid n1.fr
    clear n1
    generalize hg : w.heap.size = g at *
    have HG := Lib.hid hg
    clear hg
    go_wp2_with fail
    refine (CI.out _).mono ?_
    rintro e' w' ⟨rfl, rfl⟩
    go_wp2_with (refine wpList_storeBlk rfl 23 (.tmp 2) _ rfl g zeroImg rfl rfl _ _ B1.out (infoR _ _ 0 0) rfl (img_one _ _ 0 0) ?_)
    intro wz bz fz
    have J := Lib.hid bz
    have JF : Hid (Fr Nothing w wz) := F1.out.then_ fz (fun i hi e => by have e' : i = g := e; have := HG.out; omega)
    clear bz fz
    go_wp2
    exact bodyPost_ret (results_cell_slot (fn := Tryd.f25) (p := 2) (q := 3) (ty := 23) Tryd.results25 _ wz _ 23 zeroImg (0, 0) _ rfl J.out Tryd.underlying23 rfl (infoR _ _ 0 0) _ rfl) rfl ⟨rfl, JF.out⟩
  rw [if_neg h3]
  have t3 : decide ((s.size : Int) < 12) = false := decide_eq_false (by omega)
  obtain ⟨k, hk⟩ : ∃ k, k = s.size - 8 := ⟨_, rfl⟩
  have s1 : (s.size : Int) - 8 = (k : Int) := by omega
  have s2 : k ≤ s.size := by omega
  have s3 : (k : Int) ≤ (s.size : Int) := by omega
  have s4 : k ≤ 4200 := by omega
  have s5 : (4 : Int) ≤ (s.size : Int) := by omega
  have s6 : s.size ≤ 4200 := by omega
  rw [← hk]
  have eP : strL (s.extract 0 k) = (strL s).take k := by rw [strL_extract]; simp
  have eL : strL (s.extract k s.size) = (strL s).drop k := by rw [strL_extract, List.take_of_length_le (by rw [List.length_drop, ls]; omega)]
  have CK := Lib.hid (fun w' => rcheck_any (s.extract 0 k) w' (by rw [← strL_length, eP, List.length_take, ls]; omega))
  rw [← eP, ← eL]
  obtain ⟨ck, hck⟩ : ∃ ck : ByteArray, ck = ⟨(chk8 (strL (s.extract 0 k))).toArray⟩ := ⟨_, rfl⟩
  rw [← hck] at CK
  have eK : strL ck = chk8 (strL (s.extract 0 k)) := by rw [hck, strL_mk]
  rw [← eK]
  clear h1 h2 h2' h3 hck hk eP eL eK
  by_cases h4 : strL ck ≠ strL (s.extract k s.size)
  · have t4 : (!ck.toList == (s.extract k s.size).toList) = true := bytes_ne _ _ false (decide_eq_false h4)
    rw [if_pos h4]
    show Calls _ _ _ _ (SameIn w (.tuple #[.agg zeroImg, .int .i64 27]))
    clear h4
    go_enter Tryd.func25, Tryd.ntmps25
    go_wp2_with (refine wpList_allocBlk rfl 23 rfl (.agg zeroImg) zvRI zeroImg rfl ?_)
    intro w1 n1
    have B1 := Lib.hid n1.blk
    have F1 := Lib.hid n1.fr
    clear n1
    generalize hg : w.heap.size = g at *
    have HG := Lib.hid hg
    clear hg
    go_wp2_with fail
    refine (CI.out _).mono ?_
    rintro e' w' ⟨rfl, rfl⟩
    go_wp2_with fail
    have F1' := F1
    refine wp_region_in (Later w1) ((Fr.refl _ _).drew) (by kernel_rfl) (by kernel_rfl) ?_
    repeat (go_big_quiet_step ((go_at_call 41; exact In.later (CK.out _))))
    refine wpQuiet_nil ?_
    rintro _ ⟨y, rfl⟩
    have F2 := Lib.hid (F1.out.trans y.h)
    have B2 := Lib.hid (B1.out.fr y.h (fun x => x))
    generalize y.w = w2 at *
    clear y F1 F1' B1 CK
    go_wp2_with (refine wpList_storeBlk rfl 23 (.tmp 2) _ rfl g zeroImg rfl rfl _ _ B2.out (infoR _ _ 0 0) rfl (img_one _ _ 0 0) ?_)
    intro wz bz fz
    have J := Lib.hid bz
    have JF : Hid (Fr Nothing w wz) := F2.out.then_ fz (fun i hi e => by have e' : i = g := e; have := HG.out; omega)
    clear bz fz
    go_wp2
    exact bodyPost_ret (results_cell_slot (fn := Tryd.f25) (p := 2) (q := 3) (ty := 23) Tryd.results25 _ wz _ 23 zeroImg (0, 0) _ rfl J.out Tryd.underlying23 rfl (infoR _ _ 0 0) _ rfl) rfl ⟨rfl, JF.out⟩
  have t4 : (!ck.toList == (s.extract k s.size).toList) = false := bytes_ne _ _ true (decide_eq_true (by simpa using h4))
  rw [if_neg h4]
  have e4 := strL_tail s 4
  obtain ⟨A0, hA⟩ : ∃ A0 : ByteArray, A0 = s.extract 4 s.size := ⟨_, rfl⟩
  have eA : strL A0 = (strL s).drop 4 := by rw [hA, e4, strL_mk]
  have lA : A0.size ≤ 4200 := by rw [← strL_length, eA, List.length_drop, ls]; omega
  have m1 := pieceL_len (strL A0)
  have P1 := Lib.hid (fun w => piece_any A0 w (by omega))
  rw [← eA]
  unfold decT
  generalize pieceL (strL A0) = p1 at *
  obtain ⟨C1, hC1⟩ : ∃ C1 : ByteArray, C1 = ⟨p1.1.toArray⟩ := ⟨_, rfl⟩
  obtain ⟨R1, hR1⟩ : ∃ R1 : ByteArray, R1 = ⟨p1.2.toArray⟩ := ⟨_, rfl⟩
  rw [← hC1, ← hR1] at P1
  have eC1 : p1.1 = strL C1 := by rw [hC1, strL_mk]
  have eR1 : p1.2 = strL R1 := by rw [hR1, strL_mk]
  rw [eC1, eR1]
  rw [eC1, eR1, strL_length, strL_length, strL_length] at m1
  clear hC1 hR1 hA
  have m2 := pieceL_len (strL R1)
  have P2 := Lib.hid (fun w => piece_any R1 w (by omega))
  generalize pieceL (strL R1) = p2 at *
  obtain ⟨C2, hC2⟩ : ∃ C2 : ByteArray, C2 = ⟨p2.1.toArray⟩ := ⟨_, rfl⟩
  obtain ⟨R2, hR2⟩ : ∃ R2 : ByteArray, R2 = ⟨p2.2.toArray⟩ := ⟨_, rfl⟩
  rw [← hC2, ← hR2] at P2
  have eC2 : p2.1 = strL C2 := by rw [hC2, strL_mk]
  have eR2 : p2.2 = strL R2 := by rw [hR2, strL_mk]
  rw [eC2, eR2]
  rw [eC2, eR2, strL_length, strL_length, strL_length] at m2
  clear hC2 hR2
  have m3 := takeL_range (strL R2)
  have P3 := Lib.hid (fun w => take_any R2 w (by omega))
  generalize takeL (strL R2) = p3 at *
  obtain ⟨R3, hR3⟩ : ∃ R3 : ByteArray, R3 = ⟨p3.2.toArray⟩ := ⟨_, rfl⟩
  rw [← hR3] at P3
  have eR3 : p3.2 = strL R3 := by rw [hR3, strL_mk]
  rw [eR3]
  rw [eR3, strL_length, strL_length] at m3
  clear hR3
  have m4 := takeL_range (strL R3)
  have P4 := Lib.hid (fun w => take_any R3 w (by omega))
  generalize takeL (strL R3) = p4 at *
  obtain ⟨R4, hR4⟩ : ∃ R4 : ByteArray, R4 = ⟨p4.2.toArray⟩ := ⟨_, rfl⟩
  rw [← hR4] at P4
  have eR4 : p4.2 = strL R4 := by rw [hR4, strL_mk]
  rw [eR4]
  rw [eR4, strL_length, strL_length] at m4
  clear hR4
  generalize p3.1 = z at *
  generalize p4.1 = e at *
  have P5 := Lib.hid (fun w => rEncode_any C1 C2 z e w (by omega) (by omega) (by omega) (by omega))
  have hcr := checkI_range C1.size C2.size z e
  obtain ⟨T, hT⟩ : ∃ T : ByteArray, T = ⟨(encV (strL C1) (strL C2) z e).toArray⟩ := ⟨_, rfl⟩
  have eT : encV (strL C1) (strL C2) z e = strL T := by
    rw [hT]
    exact (strL_mk _).symm
  rw [← hT] at P5
  rw [eT, strL_length, strL_length, strL_length]
  clear hT eT
  generalize checkI C1.size C2.size z e = kc at *
  have HA : Hid (s.extract 4 s.size = A0) := by
    simp only [Hid]
    rw [e4, ← eA]
    exact (ba_of _ _ rfl).symm
  have x1 : retI (([], [], 0, 0), 3) = .tuple #[.agg zeroImg, .int .i64 3] := rfl
  have x2 : retI ((strL C1, strL C2, z, e), 0) = .tuple #[imgV C1 C2 z e, .int .i64 0] := by
    have y1 := ba_of C1 (strL C1) rfl
    have y2 := ba_of C2 (strL C2) rfl
    show Value.tuple #[imgV ⟨(strL C1).toArray⟩ ⟨(strL C2).toArray⟩ z e, .int .i64 0] = _
    rw [← y1, ← y2]
  clear h4 eC1 eC2 eR1 eR2 eR3 eR4 eA e4 ls m3 m4
  by_cases h5 : kc ≠ 0
  · have t5 : (kc != 0) = true := by rw [bne_iff_ne]; exact h5
    rw [if_pos (.inl h5), x1]
    clear h5 x1 x2
    go_enter Tryd.func25, Tryd.ntmps25
    go_wp2_with (refine wpList_allocBlk rfl 23 rfl (.agg zeroImg) zvRI zeroImg rfl ?_)
    intro w1 n1
    have B1 := Lib.hid n1.blk
    have F1 := Lib.hid n1.fr
    clear n1
    generalize hg : w.heap.size = g at *
    have HG := Lib.hid hg
    clear hg
    go_wp2_with fail
    refine (CI.out _).mono ?_
    rintro e' w' ⟨rfl, rfl⟩
    go_wp2_with fail
    have F1' := F1
    refine wp_region_in (Later w1) ((Fr.refl _ _).drew) (by kernel_rfl) (by kernel_rfl) ?_
    repeat (go_big_quiet_step ((go_at_call 41; exact In.later (CK.out _))))
    refine wpQuiet_nil ?_
    rintro _ ⟨y, rfl⟩
    have F2 := Lib.hid (F1.out.trans y.h)
    have B2 := Lib.hid (B1.out.fr y.h (fun x => x))
    generalize y.w = w2 at *
    clear y F1 F1' B1 CK
    have Z2 : Hid (g < w2.heap.size) := B2.out.lt
    go_wp2_with (refine wpList_allocBlk rfl 23 rfl (.agg zeroImg) zvRI zeroImg rfl ?_)
    intro w3 n3
    have H3 := Lib.hid n3.blk
    have B3 := Lib.hid (B2.out.fr n3.fr (fun x => x))
    have F3 := Lib.hid (F2.out.trans n3.fr)
    have Z3 : Hid (g < w2.heap.size ∧ w.heap.size ≤ w2.heap.size) := ⟨Z2.out, F2.out.size⟩
    clear n3 B2 F2 Z2
    generalize w2.heap.size = g4 at *
    go_wp2_with fail
    rw [HA.out]
    refine (P1.out _).mono ?_
    rintro e' w4 ⟨rfl, fx⟩
    have H4 := Lib.hid (H3.out.fr fx (fun x => x))
    have B4 := Lib.hid (B3.out.fr fx (fun x => x))
    have F4 := Lib.hid (F3.out.trans fx)
    clear fx H3 B3 F3 P1
    go_wp2_with (refine wpList_storeFld rfl 9 (.tmp 44) _ rfl g4 0 (.string C1) rfl rfl rfl info_str _ _ #[.string C1, .string ⟨#[]⟩, .int .i64 0, .int .i64 0] H4.out (show 0 < 4 by decide) rfl ?_)
    intro w5 hb fx
    have H5 := Lib.hid hb
    have B5 := Lib.hid (B4.out.fr fx (fun h => by have h' : g = g4 := h; have := Z3.out; omega))
    have F5 : Hid (Fr Nothing w w5) := F4.out.then_ fx (fun i hi h => by have h' : i = g4 := h; have := Z3.out; omega)
    clear hb fx H4 B4 F4
    go_wp2_with fail
    refine (P2.out _).mono ?_
    rintro e' w6 ⟨rfl, fx⟩
    have H6 := Lib.hid (H5.out.fr fx (fun x => x))
    have B6 := Lib.hid (B5.out.fr fx (fun x => x))
    have F6 := Lib.hid (F5.out.trans fx)
    clear fx H5 B5 F5 P2
    go_wp2_with (refine wpList_storeFld rfl 9 (.tmp 50) _ rfl g4 1 (.string C2) rfl rfl rfl info_str _ _ #[.string C1, .string C2, .int .i64 0, .int .i64 0] H6.out (show 1 < 4 by decide) rfl ?_)
    intro w7 hb fx
    have H7 := Lib.hid hb
    have B7 := Lib.hid (B6.out.fr fx (fun h => by have h' : g = g4 := h; have := Z3.out; omega))
    have F7 : Hid (Fr Nothing w w7) := F6.out.then_ fx (fun i hi h => by have h' : i = g4 := h; have := Z3.out; omega)
    clear hb fx H6 B6 F6
    go_wp2_with fail
    refine (P3.out _).mono ?_
    rintro e' w8 ⟨rfl, fx⟩
    have H8 := Lib.hid (H7.out.fr fx (fun x => x))
    have B8 := Lib.hid (B7.out.fr fx (fun x => x))
    have F8 := Lib.hid (F7.out.trans fx)
    clear fx H7 B7 F7 P3
    go_wp2_with (refine wpList_storeFld rfl 3 (.tmp 56) _ rfl g4 2 (.int .i64 z) rfl rfl rfl info_int _ _ #[.string C1, .string C2, .int .i64 z, .int .i64 0] H8.out (show 2 < 4 by decide) rfl ?_)
    intro w9 hb fx
    have H9 := Lib.hid hb
    have B9 := Lib.hid (B8.out.fr fx (fun h => by have h' : g = g4 := h; have := Z3.out; omega))
    have F9 : Hid (Fr Nothing w w9) := F8.out.then_ fx (fun i hi h => by have h' : i = g4 := h; have := Z3.out; omega)
    clear hb fx H8 B8 F8
    go_wp2_with fail
    refine (P4.out _).mono ?_
    rintro e' w10 ⟨rfl, fx⟩
    have H10 := Lib.hid (H9.out.fr fx (fun x => x))
    have B10 := Lib.hid (B9.out.fr fx (fun x => x))
    have F10 := Lib.hid (F9.out.trans fx)
    clear fx H9 B9 F9 P4
    go_wp2_with (refine wpList_storeFld rfl 3 (.tmp 62) _ rfl g4 3 (.int .i64 e) rfl rfl rfl info_int _ _ #[.string C1, .string C2, .int .i64 z, .int .i64 e] H10.out (show 3 < 4 by decide) rfl ?_)
    intro w11 hb fx
    have H11 := Lib.hid hb
    have B11 := Lib.hid (B10.out.fr fx (fun h => by have h' : g = g4 := h; have := Z3.out; omega))
    have F11 : Hid (Fr Nothing w w11) := F10.out.then_ fx (fun i hi h => by have h' : i = g4 := h; have := Z3.out; omega)
    clear hb fx H10 B10 F10
    obtain ⟨k0, k1, k2, k3⟩ := img_cells H11.out (Fr.refl _ _)
    go_wp2_with fail
    refine (P5.out _).mono ?_
    rintro e' wq ⟨rfl, fx⟩
    have HQ := Lib.hid (H11.out.fr fx (fun x => x))
    have BQ := Lib.hid (B11.out.fr fx (fun x => x))
    have FQ := Lib.hid (F11.out.trans fx)
    clear fx H11 B11 F11 P5 k0 k1 k2 k3
    obtain ⟨k0, k1, k2, k3⟩ := img_cells HQ.out (Fr.refl _ _)
    go_wp2_with (refine wpList_storeBlk rfl 23 (.tmp 2) _ rfl g zeroImg rfl rfl _ _ BQ.out (infoR _ _ 0 0) rfl (img_one _ _ 0 0) ?_)
    intro wz bz fz
    have J := Lib.hid bz
    have JF : Hid (Fr Nothing w wz) := FQ.out.then_ fz (fun i hi e => by have e' : i = g := e; have := HG.out; omega)
    clear bz fz
    go_wp2
    exact bodyPost_ret (results_cell_slot (fn := Tryd.f25) (p := 2) (q := 3) (ty := 23) Tryd.results25 _ wz _ 23 zeroImg (0, 0) _ rfl J.out Tryd.underlying23 rfl (infoR _ _ 0 0) _ rfl) rfl ⟨rfl, JF.out⟩
  have t5 : (kc != 0) = false := by rw [bne_eq_false_iff_eq]; omega
  by_cases h6 : strL T ≠ strL s
  · have t6 : (!T.toList == s.toList) = true := bytes_ne _ _ false (decide_eq_false h6)
    rw [if_pos (.inr (.inl h6)), x1]
    clear h5 h6 x1 x2
    go_enter Tryd.func25, Tryd.ntmps25
    go_wp2_with (refine wpList_allocBlk rfl 23 rfl (.agg zeroImg) zvRI zeroImg rfl ?_)
    intro w1 n1
    have B1 := Lib.hid n1.blk
    have F1 := Lib.hid n1.fr
    clear n1
    generalize hg : w.heap.size = g at *
    have HG := Lib.hid hg
    clear hg
    go_wp2_with fail
    refine (CI.out _).mono ?_
    rintro e' w' ⟨rfl, rfl⟩
    go_wp2_with fail
    have F1' := F1
    refine wp_region_in (Later w1) ((Fr.refl _ _).drew) (by kernel_rfl) (by kernel_rfl) ?_
    repeat (go_big_quiet_step ((go_at_call 41; exact In.later (CK.out _))))
    refine wpQuiet_nil ?_
    rintro _ ⟨y, rfl⟩
    have F2 := Lib.hid (F1.out.trans y.h)
    have B2 := Lib.hid (B1.out.fr y.h (fun x => x))
    generalize y.w = w2 at *
    clear y F1 F1' B1 CK
    have Z2 : Hid (g < w2.heap.size) := B2.out.lt
    go_wp2_with (refine wpList_allocBlk rfl 23 rfl (.agg zeroImg) zvRI zeroImg rfl ?_)
    intro w3 n3
    have H3 := Lib.hid n3.blk
    have B3 := Lib.hid (B2.out.fr n3.fr (fun x => x))
    have F3 := Lib.hid (F2.out.trans n3.fr)
    have Z3 : Hid (g < w2.heap.size ∧ w.heap.size ≤ w2.heap.size) := ⟨Z2.out, F2.out.size⟩
    clear n3 B2 F2 Z2
    generalize w2.heap.size = g4 at *
    go_wp2_with fail
    rw [HA.out]
    refine (P1.out _).mono ?_
    rintro e' w4 ⟨rfl, fx⟩
    have H4 := Lib.hid (H3.out.fr fx (fun x => x))
    have B4 := Lib.hid (B3.out.fr fx (fun x => x))
    have F4 := Lib.hid (F3.out.trans fx)
    clear fx H3 B3 F3 P1
    go_wp2_with (refine wpList_storeFld rfl 9 (.tmp 44) _ rfl g4 0 (.string C1) rfl rfl rfl info_str _ _ #[.string C1, .string ⟨#[]⟩, .int .i64 0, .int .i64 0] H4.out (show 0 < 4 by decide) rfl ?_)
    intro w5 hb fx
    have H5 := Lib.hid hb
    have B5 := Lib.hid (B4.out.fr fx (fun h => by have h' : g = g4 := h; have := Z3.out; omega))
    have F5 : Hid (Fr Nothing w w5) := F4.out.then_ fx (fun i hi h => by have h' : i = g4 := h; have := Z3.out; omega)
    clear hb fx H4 B4 F4
    go_wp2_with fail
    refine (P2.out _).mono ?_
    rintro e' w6 ⟨rfl, fx⟩
    have H6 := Lib.hid (H5.out.fr fx (fun x => x))
    have B6 := Lib.hid (B5.out.fr fx (fun x => x))
    have F6 := Lib.hid (F5.out.trans fx)
    clear fx H5 B5 F5 P2
    go_wp2_with (refine wpList_storeFld rfl 9 (.tmp 50) _ rfl g4 1 (.string C2) rfl rfl rfl info_str _ _ #[.string C1, .string C2, .int .i64 0, .int .i64 0] H6.out (show 1 < 4 by decide) rfl ?_)
    intro w7 hb fx
    have H7 := Lib.hid hb
    have B7 := Lib.hid (B6.out.fr fx (fun h => by have h' : g = g4 := h; have := Z3.out; omega))
    have F7 : Hid (Fr Nothing w w7) := F6.out.then_ fx (fun i hi h => by have h' : i = g4 := h; have := Z3.out; omega)
    clear hb fx H6 B6 F6
    go_wp2_with fail
    refine (P3.out _).mono ?_
    rintro e' w8 ⟨rfl, fx⟩
    have H8 := Lib.hid (H7.out.fr fx (fun x => x))
    have B8 := Lib.hid (B7.out.fr fx (fun x => x))
    have F8 := Lib.hid (F7.out.trans fx)
    clear fx H7 B7 F7 P3
    go_wp2_with (refine wpList_storeFld rfl 3 (.tmp 56) _ rfl g4 2 (.int .i64 z) rfl rfl rfl info_int _ _ #[.string C1, .string C2, .int .i64 z, .int .i64 0] H8.out (show 2 < 4 by decide) rfl ?_)
    intro w9 hb fx
    have H9 := Lib.hid hb
    have B9 := Lib.hid (B8.out.fr fx (fun h => by have h' : g = g4 := h; have := Z3.out; omega))
    have F9 : Hid (Fr Nothing w w9) := F8.out.then_ fx (fun i hi h => by have h' : i = g4 := h; have := Z3.out; omega)
    clear hb fx H8 B8 F8
    go_wp2_with fail
    refine (P4.out _).mono ?_
    rintro e' w10 ⟨rfl, fx⟩
    have H10 := Lib.hid (H9.out.fr fx (fun x => x))
    have B10 := Lib.hid (B9.out.fr fx (fun x => x))
    have F10 := Lib.hid (F9.out.trans fx)
    clear fx H9 B9 F9 P4
    go_wp2_with (refine wpList_storeFld rfl 3 (.tmp 62) _ rfl g4 3 (.int .i64 e) rfl rfl rfl info_int _ _ #[.string C1, .string C2, .int .i64 z, .int .i64 e] H10.out (show 3 < 4 by decide) rfl ?_)
    intro w11 hb fx
    have H11 := Lib.hid hb
    have B11 := Lib.hid (B10.out.fr fx (fun h => by have h' : g = g4 := h; have := Z3.out; omega))
    have F11 : Hid (Fr Nothing w w11) := F10.out.then_ fx (fun i hi h => by have h' : i = g4 := h; have := Z3.out; omega)
    clear hb fx H10 B10 F10
    obtain ⟨k0, k1, k2, k3⟩ := img_cells H11.out (Fr.refl _ _)
    go_wp2_with fail
    refine (P5.out _).mono ?_
    rintro e' wq ⟨rfl, fx⟩
    have HQ := Lib.hid (H11.out.fr fx (fun x => x))
    have BQ := Lib.hid (B11.out.fr fx (fun x => x))
    have FQ := Lib.hid (F11.out.trans fx)
    clear fx H11 B11 F11 P5 k0 k1 k2 k3
    obtain ⟨k0, k1, k2, k3⟩ := img_cells HQ.out (Fr.refl _ _)
    go_wp2_with (refine wpList_storeBlk rfl 23 (.tmp 2) _ rfl g zeroImg rfl rfl _ _ BQ.out (infoR _ _ 0 0) rfl (img_one _ _ 0 0) ?_)
    intro wz bz fz
    have J := Lib.hid bz
    have JF : Hid (Fr Nothing w wz) := FQ.out.then_ fz (fun i hi e => by have e' : i = g := e; have := HG.out; omega)
    clear bz fz
    go_wp2
    exact bodyPost_ret (results_cell_slot (fn := Tryd.f25) (p := 2) (q := 3) (ty := 23) Tryd.results25 _ wz _ 23 zeroImg (0, 0) _ rfl J.out Tryd.underlying23 rfl (infoR _ _ 0 0) _ rfl) rfl ⟨rfl, JF.out⟩
  have t6 : (!T.toList == s.toList) = false := bytes_ne _ _ true (decide_eq_true (by simpa using h6))
  by_cases h7 : R4.size ≠ 8
  · have t7 : ((R4.size : Int) != 8) = true := by rw [bne_iff_ne]; omega
    rw [if_pos (.inr (.inr h7)), x1]
    clear h5 h6 h7 x1 x2
    go_enter Tryd.func25, Tryd.ntmps25
    go_wp2_with (refine wpList_allocBlk rfl 23 rfl (.agg zeroImg) zvRI zeroImg rfl ?_)
    intro w1 n1
    have B1 := Lib.hid n1.blk
    have F1 := Lib.hid n1.fr
    clear n1
    generalize hg : w.heap.size = g at *
    have HG := Lib.hid hg
    clear hg
    go_wp2_with fail
    refine (CI.out _).mono ?_
    rintro e' w' ⟨rfl, rfl⟩
    go_wp2_with fail
    have F1' := F1
    refine wp_region_in (Later w1) ((Fr.refl _ _).drew) (by kernel_rfl) (by kernel_rfl) ?_
    repeat (go_big_quiet_step ((go_at_call 41; exact In.later (CK.out _))))
    refine wpQuiet_nil ?_
    rintro _ ⟨y, rfl⟩
    have F2 := Lib.hid (F1.out.trans y.h)
    have B2 := Lib.hid (B1.out.fr y.h (fun x => x))
    generalize y.w = w2 at *
    clear y F1 F1' B1 CK
    have Z2 : Hid (g < w2.heap.size) := B2.out.lt
    go_wp2_with (refine wpList_allocBlk rfl 23 rfl (.agg zeroImg) zvRI zeroImg rfl ?_)
    intro w3 n3
    have H3 := Lib.hid n3.blk
    have B3 := Lib.hid (B2.out.fr n3.fr (fun x => x))
    have F3 := Lib.hid (F2.out.trans n3.fr)
    have Z3 : Hid (g < w2.heap.size ∧ w.heap.size ≤ w2.heap.size) := ⟨Z2.out, F2.out.size⟩
    clear n3 B2 F2 Z2
    generalize w2.heap.size = g4 at *
    go_wp2_with fail
    rw [HA.out]
    refine (P1.out _).mono ?_
    rintro e' w4 ⟨rfl, fx⟩
    have H4 := Lib.hid (H3.out.fr fx (fun x => x))
    have B4 := Lib.hid (B3.out.fr fx (fun x => x))
    have F4 := Lib.hid (F3.out.trans fx)
    clear fx H3 B3 F3 P1
    go_wp2_with (refine wpList_storeFld rfl 9 (.tmp 44) _ rfl g4 0 (.string C1) rfl rfl rfl info_str _ _ #[.string C1, .string ⟨#[]⟩, .int .i64 0, .int .i64 0] H4.out (show 0 < 4 by decide) rfl ?_)
    intro w5 hb fx
    have H5 := Lib.hid hb
    have B5 := Lib.hid (B4.out.fr fx (fun h => by have h' : g = g4 := h; have := Z3.out; omega))
    have F5 : Hid (Fr Nothing w w5) := F4.out.then_ fx (fun i hi h => by have h' : i = g4 := h; have := Z3.out; omega)
    clear hb fx H4 B4 F4
    go_wp2_with fail
    refine (P2.out _).mono ?_
    rintro e' w6 ⟨rfl, fx⟩
    have H6 := Lib.hid (H5.out.fr fx (fun x => x))
    have B6 := Lib.hid (B5.out.fr fx (fun x => x))
    have F6 := Lib.hid (F5.out.trans fx)
    clear fx H5 B5 F5 P2
    go_wp2_with (refine wpList_storeFld rfl 9 (.tmp 50) _ rfl g4 1 (.string C2) rfl rfl rfl info_str _ _ #[.string C1, .string C2, .int .i64 0, .int .i64 0] H6.out (show 1 < 4 by decide) rfl ?_)
    intro w7 hb fx
    have H7 := Lib.hid hb
    have B7 := Lib.hid (B6.out.fr fx (fun h => by have h' : g = g4 := h; have := Z3.out; omega))
    have F7 : Hid (Fr Nothing w w7) := F6.out.then_ fx (fun i hi h => by have h' : i = g4 := h; have := Z3.out; omega)
    clear hb fx H6 B6 F6
    go_wp2_with fail
    refine (P3.out _).mono ?_
    rintro e' w8 ⟨rfl, fx⟩
    have H8 := Lib.hid (H7.out.fr fx (fun x => x))
    have B8 := Lib.hid (B7.out.fr fx (fun x => x))
    have F8 := Lib.hid (F7.out.trans fx)
    clear fx H7 B7 F7 P3
    go_wp2_with (refine wpList_storeFld rfl 3 (.tmp 56) _ rfl g4 2 (.int .i64 z) rfl rfl rfl info_int _ _ #[.string C1, .string C2, .int .i64 z, .int .i64 0] H8.out (show 2 < 4 by decide) rfl ?_)
    intro w9 hb fx
    have H9 := Lib.hid hb
    have B9 := Lib.hid (B8.out.fr fx (fun h => by have h' : g = g4 := h; have := Z3.out; omega))
    have F9 : Hid (Fr Nothing w w9) := F8.out.then_ fx (fun i hi h => by have h' : i = g4 := h; have := Z3.out; omega)
    clear hb fx H8 B8 F8
    go_wp2_with fail
    refine (P4.out _).mono ?_
    rintro e' w10 ⟨rfl, fx⟩
    have H10 := Lib.hid (H9.out.fr fx (fun x => x))
    have B10 := Lib.hid (B9.out.fr fx (fun x => x))
    have F10 := Lib.hid (F9.out.trans fx)
    clear fx H9 B9 F9 P4
    go_wp2_with (refine wpList_storeFld rfl 3 (.tmp 62) _ rfl g4 3 (.int .i64 e) rfl rfl rfl info_int _ _ #[.string C1, .string C2, .int .i64 z, .int .i64 e] H10.out (show 3 < 4 by decide) rfl ?_)
    intro w11 hb fx
    have H11 := Lib.hid hb
    have B11 := Lib.hid (B10.out.fr fx (fun h => by have h' : g = g4 := h; have := Z3.out; omega))
    have F11 : Hid (Fr Nothing w w11) := F10.out.then_ fx (fun i hi h => by have h' : i = g4 := h; have := Z3.out; omega)
    clear hb fx H10 B10 F10
    obtain ⟨k0, k1, k2, k3⟩ := img_cells H11.out (Fr.refl _ _)
    go_wp2_with fail
    refine (P5.out _).mono ?_
    rintro e' wq ⟨rfl, fx⟩
    have HQ := Lib.hid (H11.out.fr fx (fun x => x))
    have BQ := Lib.hid (B11.out.fr fx (fun x => x))
    have FQ := Lib.hid (F11.out.trans fx)
    clear fx H11 B11 F11 P5 k0 k1 k2 k3
    obtain ⟨k0, k1, k2, k3⟩ := img_cells HQ.out (Fr.refl _ _)
    go_wp2_with (refine wpList_storeBlk rfl 23 (.tmp 2) _ rfl g zeroImg rfl rfl _ _ BQ.out (infoR _ _ 0 0) rfl (img_one _ _ 0 0) ?_)
    intro wz bz fz
    have J := Lib.hid bz
    have JF : Hid (Fr Nothing w wz) := FQ.out.then_ fz (fun i hi e => by have e' : i = g := e; have := HG.out; omega)
    clear bz fz
    go_wp2
    exact bodyPost_ret (results_cell_slot (fn := Tryd.f25) (p := 2) (q := 3) (ty := 23) Tryd.results25 _ wz _ 23 zeroImg (0, 0) _ rfl J.out Tryd.underlying23 rfl (infoR _ _ 0 0) _ rfl) rfl ⟨rfl, JF.out⟩
  have t7 : ((R4.size : Int) != 8) = false := by rw [bne_eq_false_iff_eq]; omega
  rw [if_neg (by rintro (h | h | h) <;> contradiction), x2]
  clear h5 h6 h7 x1 x2
  go_enter Tryd.func25, Tryd.ntmps25
  go_wp2_with (refine wpList_allocBlk rfl 23 rfl (.agg zeroImg) zvRI zeroImg rfl ?_)
  intro w1 n1
  have B1 := Lib.hid n1.blk
  have F1 := Lib.hid n1.fr
  clear n1
  generalize hg : w.heap.size = g at *
  have HG := Lib.hid hg
  clear hg
  go_wp2_with fail
  refine (CI.out _).mono ?_
  rintro e' w' ⟨rfl, rfl⟩
  go_wp2_with fail
  have F1' := F1
  refine wp_region_in (Later w1) ((Fr.refl _ _).drew) (by kernel_rfl) (by kernel_rfl) ?_
  repeat (go_big_quiet_step ((go_at_call 41; exact In.later (CK.out _))))
  refine wpQuiet_nil ?_
  rintro _ ⟨y, rfl⟩
  have F2 := Lib.hid (F1.out.trans y.h)
  have B2 := Lib.hid (B1.out.fr y.h (fun x => x))
  generalize y.w = w2 at *
  clear y F1 F1' B1 CK
  have Z2 : Hid (g < w2.heap.size) := B2.out.lt
  go_wp2_with (refine wpList_allocBlk rfl 23 rfl (.agg zeroImg) zvRI zeroImg rfl ?_)
  intro w3 n3
  have H3 := Lib.hid n3.blk
  have B3 := Lib.hid (B2.out.fr n3.fr (fun x => x))
  have F3 := Lib.hid (F2.out.trans n3.fr)
  have Z3 : Hid (g < w2.heap.size ∧ w.heap.size ≤ w2.heap.size) := ⟨Z2.out, F2.out.size⟩
  clear n3 B2 F2 Z2
  generalize w2.heap.size = g4 at *
  go_wp2_with fail
  rw [HA.out]
  refine (P1.out _).mono ?_
  rintro e' w4 ⟨rfl, fx⟩
  have H4 := Lib.hid (H3.out.fr fx (fun x => x))
  have B4 := Lib.hid (B3.out.fr fx (fun x => x))
  have F4 := Lib.hid (F3.out.trans fx)
  clear fx H3 B3 F3 P1
  go_wp2_with (refine wpList_storeFld rfl 9 (.tmp 44) _ rfl g4 0 (.string C1) rfl rfl rfl info_str _ _ #[.string C1, .string ⟨#[]⟩, .int .i64 0, .int .i64 0] H4.out (show 0 < 4 by decide) rfl ?_)
  intro w5 hb fx
  have H5 := Lib.hid hb
  have B5 := Lib.hid (B4.out.fr fx (fun h => by have h' : g = g4 := h; have := Z3.out; omega))
  have F5 : Hid (Fr Nothing w w5) := F4.out.then_ fx (fun i hi h => by have h' : i = g4 := h; have := Z3.out; omega)
  clear hb fx H4 B4 F4
  go_wp2_with fail
  refine (P2.out _).mono ?_
  rintro e' w6 ⟨rfl, fx⟩
  have H6 := Lib.hid (H5.out.fr fx (fun x => x))
  have B6 := Lib.hid (B5.out.fr fx (fun x => x))
  have F6 := Lib.hid (F5.out.trans fx)
  clear fx H5 B5 F5 P2
  go_wp2_with (refine wpList_storeFld rfl 9 (.tmp 50) _ rfl g4 1 (.string C2) rfl rfl rfl info_str _ _ #[.string C1, .string C2, .int .i64 0, .int .i64 0] H6.out (show 1 < 4 by decide) rfl ?_)
  intro w7 hb fx
  have H7 := Lib.hid hb
  have B7 := Lib.hid (B6.out.fr fx (fun h => by have h' : g = g4 := h; have := Z3.out; omega))
  have F7 : Hid (Fr Nothing w w7) := F6.out.then_ fx (fun i hi h => by have h' : i = g4 := h; have := Z3.out; omega)
  clear hb fx H6 B6 F6
  go_wp2_with fail
  refine (P3.out _).mono ?_
  rintro e' w8 ⟨rfl, fx⟩
  have H8 := Lib.hid (H7.out.fr fx (fun x => x))
  have B8 := Lib.hid (B7.out.fr fx (fun x => x))
  have F8 := Lib.hid (F7.out.trans fx)
  clear fx H7 B7 F7 P3
  go_wp2_with (refine wpList_storeFld rfl 3 (.tmp 56) _ rfl g4 2 (.int .i64 z) rfl rfl rfl info_int _ _ #[.string C1, .string C2, .int .i64 z, .int .i64 0] H8.out (show 2 < 4 by decide) rfl ?_)
  intro w9 hb fx
  have H9 := Lib.hid hb
  have B9 := Lib.hid (B8.out.fr fx (fun h => by have h' : g = g4 := h; have := Z3.out; omega))
  have F9 : Hid (Fr Nothing w w9) := F8.out.then_ fx (fun i hi h => by have h' : i = g4 := h; have := Z3.out; omega)
  clear hb fx H8 B8 F8
  go_wp2_with fail
  refine (P4.out _).mono ?_
  rintro e' w10 ⟨rfl, fx⟩
  have H10 := Lib.hid (H9.out.fr fx (fun x => x))
  have B10 := Lib.hid (B9.out.fr fx (fun x => x))
  have F10 := Lib.hid (F9.out.trans fx)
  clear fx H9 B9 F9 P4
  go_wp2_with (refine wpList_storeFld rfl 3 (.tmp 62) _ rfl g4 3 (.int .i64 e) rfl rfl rfl info_int _ _ #[.string C1, .string C2, .int .i64 z, .int .i64 e] H10.out (show 3 < 4 by decide) rfl ?_)
  intro w11 hb fx
  have H11 := Lib.hid hb
  have B11 := Lib.hid (B10.out.fr fx (fun h => by have h' : g = g4 := h; have := Z3.out; omega))
  have F11 : Hid (Fr Nothing w w11) := F10.out.then_ fx (fun i hi h => by have h' : i = g4 := h; have := Z3.out; omega)
  clear hb fx H10 B10 F10
  obtain ⟨k0, k1, k2, k3⟩ := img_cells H11.out (Fr.refl _ _)
  go_wp2_with fail
  refine (P5.out _).mono ?_
  rintro e' wq ⟨rfl, fx⟩
  have HQ := Lib.hid (H11.out.fr fx (fun x => x))
  have BQ := Lib.hid (B11.out.fr fx (fun x => x))
  have FQ := Lib.hid (F11.out.trans fx)
  clear fx H11 B11 F11 P5 k0 k1 k2 k3
  obtain ⟨k0, k1, k2, k3⟩ := img_cells HQ.out (Fr.refl _ _)
  go_wp2_with (refine wpList_storeBlk rfl 23 (.tmp 2) _ rfl g (imgC C1 C2 z e) rfl rfl _ _ BQ.out (infoR _ _ _ _) rfl (img_one _ _ _ _) ?_)
  intro wz bz fz
  have J := Lib.hid bz
  have JF : Hid (Fr Nothing w wz) := FQ.out.then_ fz (fun i hi e => by have e' : i = g := e; have := HG.out; omega)
  clear bz fz
  go_wp2
  exact bodyPost_ret (results_cell_slot (fn := Tryd.f25) (p := 2) (q := 3) (ty := 23) Tryd.results25 _ wz _ 23 (imgC C1 C2 z e) (0, 0) _ rfl J.out Tryd.underlying23 rfl (infoR _ _ _ _) _ rfl) rfl ⟨rfl, JF.out⟩
end Go.Proofs.YtfdcmjjafngonaaDoor
