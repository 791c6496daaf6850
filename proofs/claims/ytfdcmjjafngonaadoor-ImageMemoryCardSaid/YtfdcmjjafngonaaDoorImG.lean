/- image.Decode. -/
import Derived.Test.YtfdcmjjafngonaaDoorImF
namespace Go.Proofs.YtfdcmjjafngonaaDoor
open Go.RowKit

theorem strL_extract (s : ByteArray) (a b : Nat) : strL (s.extract a b) = ((strL s).drop a).take (b - a) := by
  simp [strL, List.extract_eq_take_drop]

abbrev RImg := (List UInt8 × List UInt8 × Int × Int) × Int
def closeI (st : List UInt8 × Nat × Int) : Int := if st.2.2 = 0 then (if 0 < st.1.length then 5 else 0) else st.2.2
/-- What is read between Magic and the check. -/
def readI (m : List UInt8) : RImg :=
  let r1 := rStep [] (pText 4096) (m, 0, 0)
  let r2 := rStep [] (pText 4096) r1.2
  let r3 := rStep 0 (pNumber 4096) r2.2
  let r4 := rStep 0 (pNumber 4096) r3.2
  if closeI r4.2 ≠ 0 ∨ checkI r1.1.length r2.1.length r3.1 r4.1 ≠ 0 then (([], [], 0, 0), 3) else ((r1.1, r2.1, r3.1, r4.1), 0)
def decV (l : List UInt8) : RImg :=
  if 4200 < l.length then (([], [], 0, 0), 5) else if isImg l = false then (([], [], 0, 0), 3) else if l.length < 12 then (([], [], 0, 0), 4)
  else if chk8 (l.take (l.length - 8)) ≠ l.drop (l.length - 8) then (([], [], 0, 0), 27) else readI ((l.take (l.length - 8)).drop 4)
def retI (r : RImg) : Value := .tuple #[imgV ⟨r.1.1.toArray⟩ ⟨r.1.2.1.toArray⟩ r.1.2.2.1 r.1.2.2.2, .int .i64 r.2]

theorem bytes_ne (a b : ByteArray) (B : Bool) (h : decide (strL a = strL b) = B) : (!a.toList == b.toList) = !B := by
  rw [← h]
  congr 1
  rw [Bool.eq_iff_iff]
  simp [ByteArray.toList_eq, strL]

theorem rText_len (st : List UInt8 × Nat × Int) : (rStep [] (pText 4096) st).1.length ≤ 4096 := by
  unfold rStep
  split
  · simp
  · split
    · simp
    · rename_i h
      unfold pText at h ⊢
      split
      · simp
      · split
        · simp
        · rename_i h2
          split
          · simp
          · simp only [List.length_take]
            omega
theorem rNum_range (st : List UInt8 × Nat × Int) : 0 ≤ (rStep 0 (pNumber 4096) st).1 ∧ (rStep 0 (pNumber 4096) st).1 ≤ 4096 := by
  unfold rStep
  split
  · exact ⟨Int.le_refl 0, show (0 : Int) ≤ 4096 by omega⟩
  · split
    · exact ⟨Int.le_refl 0, show (0 : Int) ≤ 4096 by omega⟩
    · rename_i h
      unfold pNumber at h ⊢
      simp only at h ⊢
      split at h
      · omega
      · rename_i h2
        have : (pn st.1 9).2.2 = 0 := by omega
        constructor
        · omega
        · rcases Nat.lt_or_ge 4096 (pn st.1 9).1 with h3 | h3
          · exact absurd ⟨this, by omega⟩ h2
          · omega
theorem size_mk (l : List UInt8) : (⟨l.toArray⟩ : ByteArray).size = l.length := by simp [ByteArray.size]

set_option maxRecDepth 100000 in
set_option maxHeartbeats 4000000 in
theorem Decode_any (s : ByteArray) (w : World) (hs : s.size ≤ 1099511627776) (hT : ShaTab w) : Calls Tryd.prog 23 #[.string s] w (SameIn w (retI (decV (strL s)))) := by
  have CI := Lib.hid (fun w => IsImage_any s w)
  have ls := strL_length s
  unfold decV
  rw [ls]
  have ZI : Hid (retI (([], [], 0, 0), 0) = .tuple #[.agg zeroImg, .int .i64 0]) := rfl
  by_cases h1 : 4200 < s.size
  · rw [if_pos h1]
    have t1 : decide ((4200 : Int) < (s.size : Int)) = true := decide_eq_true (by omega)
    show Calls _ _ _ _ (SameIn w (.tuple #[.agg zeroImg, .int .i64 5]))
    go_enter Tryd.func23, Tryd.ntmps23
    go_wp2_with (refine wpList_allocBlk rfl 27 rfl (.agg zeroImg) zvI zeroImg rfl ?_)
    intro w1 n1
    have B1 := Lib.hid n1.blk
    have F1 := Lib.hid n1.fr
    clear n1
    generalize hg : w.heap.size = g at *
    have HG := Lib.hid hg
    clear hg
    go_wp2_with (refine wpList_storeBlk rfl 27 (.tmp 2) _ rfl g zeroImg rfl rfl _ _ B1.out (infoI _ _ 0 0) rfl (img_one _ _ 0 0) ?_)
    intro wz bz fz
    have J := Lib.hid bz
    have JF : Hid (Fr Nothing w wz) := F1.out.then_ fz (fun i hi e => by have e' : i = g := e; have := HG.out; omega)
    clear bz fz
    go_wp2
    exact bodyPost_ret (results_cell_slot (fn := Tryd.f23) (p := 2) (q := 3) (ty := 27) Tryd.results23 _ wz _ 27 zeroImg (0, 0) _ rfl J.out Tryd.underlying27 rfl (infoI _ _ 0 0) _ rfl) rfl ⟨rfl, JF.out⟩
  rw [if_neg h1]
  have t1 : decide ((4200 : Int) < (s.size : Int)) = false := decide_eq_false (by omega)
  by_cases h2 : isImg (strL s) = false
  · rw [if_pos h2]
    rw [h2] at CI
    show Calls _ _ _ _ (SameIn w (.tuple #[.agg zeroImg, .int .i64 3]))
    clear h2
    go_enter Tryd.func23, Tryd.ntmps23
    go_wp2_with (refine wpList_allocBlk rfl 27 rfl (.agg zeroImg) zvI zeroImg rfl ?_)
    intro w1 n1
    have B1 := Lib.hid n1.blk
    have F1 := Lib.hid n1.fr
    clear n1
    generalize hg : w.heap.size = g at *
    have HG := Lib.hid hg
    clear hg
    go_wp2_with fail
    refine (CI.out _).mono ?_
    rintro e' w' ⟨rfl, rfl⟩
    go_wp2_with (refine wpList_storeBlk rfl 27 (.tmp 2) _ rfl g zeroImg rfl rfl _ _ B1.out (infoI _ _ 0 0) rfl (img_one _ _ 0 0) ?_)
    intro wz bz fz
    have J := Lib.hid bz
    have JF : Hid (Fr Nothing w wz) := F1.out.then_ fz (fun i hi e => by have e' : i = g := e; have := HG.out; omega)
    clear bz fz
    go_wp2
    exact bodyPost_ret (results_cell_slot (fn := Tryd.f23) (p := 2) (q := 3) (ty := 27) Tryd.results23 _ wz _ 27 zeroImg (0, 0) _ rfl J.out Tryd.underlying27 rfl (infoI _ _ 0 0) _ rfl) rfl ⟨rfl, JF.out⟩
  rw [if_neg h2]
  have h2' : isImg (strL s) = true := by simpa using h2
  rw [h2'] at CI
  by_cases h3 : s.size < 12
  · rw [if_pos h3]
    have t3 : decide ((s.size : Int) < 12) = true := decide_eq_true (by omega)
    show Calls _ _ _ _ (SameIn w (.tuple #[.agg zeroImg, .int .i64 4]))
    clear h2 h2'
    go_enter Tryd.func23, Tryd.ntmps23
    go_wp2_with (refine wpList_allocBlk rfl 27 rfl (.agg zeroImg) zvI zeroImg rfl ?_)
    intro w1 n1
    have B1 := Lib.hid n1.blk
    have F1 := Lib.hid n1.fr
    clear n1
    generalize hg : w.heap.size = g at *
    have HG := Lib.hid hg
    clear hg
    go_wp2_with fail
    refine (CI.out _).mono ?_
    rintro e' w' ⟨rfl, rfl⟩
    go_wp2_with (refine wpList_storeBlk rfl 27 (.tmp 2) _ rfl g zeroImg rfl rfl _ _ B1.out (infoI _ _ 0 0) rfl (img_one _ _ 0 0) ?_)
    intro wz bz fz
    have J := Lib.hid bz
    have JF : Hid (Fr Nothing w wz) := F1.out.then_ fz (fun i hi e => by have e' : i = g := e; have := HG.out; omega)
    clear bz fz
    go_wp2
    exact bodyPost_ret (results_cell_slot (fn := Tryd.f23) (p := 2) (q := 3) (ty := 27) Tryd.results23 _ wz _ 27 zeroImg (0, 0) _ rfl J.out Tryd.underlying27 rfl (infoI _ _ 0 0) _ rfl) rfl ⟨rfl, JF.out⟩
  rw [if_neg h3]
  have t3 : decide ((s.size : Int) < 12) = false := decide_eq_false (by omega)
  obtain ⟨k, hk⟩ : ∃ k, k = s.size - 8 := ⟨_, rfl⟩
  have s1 : (s.size : Int) - 8 = (k : Int) := by omega
  have s2 : k ≤ s.size := by omega
  have s3 : (k : Int) ≤ (s.size : Int) := by omega
  have s4 : k ≤ 4200 := by omega
  rw [← hk]
  obtain ⟨P0, hP⟩ : ∃ P0, P0 = s.extract 0 k := ⟨_, rfl⟩
  obtain ⟨L0, hL⟩ : ∃ L0, L0 = s.extract k s.size := ⟨_, rfl⟩
  have eP : strL P0 = (strL s).take k := by rw [hP, strL_extract]; simp
  have eL : strL L0 = (strL s).drop k := by rw [hL, strL_extract, List.take_of_length_le (by rw [List.length_drop, ls]; omega)]
  have lP : P0.size = k := by rw [← strL_length, eP, List.length_take, ls]; omega
  have CK := Lib.hid (fun w' (hf : Fr Nothing w w') => check_any P0 w' (hT.fr0 hf) (by omega) (by omega))
  have HP := Lib.hid hP
  have HL := Lib.hid hL
  rw [← eP, ← eL]
  obtain ⟨ck, hck⟩ : ∃ ck : ByteArray, ck = ⟨(chk8 (strL P0)).toArray⟩ := ⟨_, rfl⟩
  rw [← hck] at CK
  have eK : strL ck = chk8 (strL P0) := by rw [hck, strL_mk]
  rw [← eK]
  clear h2 h2' hT hck hP hL hk
  by_cases h4 : strL ck = strL L0
  · have t4 : (!ck.toList == L0.toList) = false := bytes_ne _ _ true (decide_eq_true h4)
    rw [if_neg (fun h => h h4)]
    go_enter Tryd.func23, Tryd.ntmps23
    go_wp2_with (refine wpList_allocBlk rfl 27 rfl (.agg zeroImg) zvI zeroImg rfl ?_)
    intro w1 n1
    have B1 := Lib.hid n1.blk
    have F1 := Lib.hid n1.fr
    clear n1
    generalize hg : w.heap.size = g at *
    have HG := Lib.hid hg
    clear hg
    go_wp2_with fail
    refine (CI.out _).mono ?_
    rintro e' w' ⟨rfl, rfl⟩
    go_wp2
    go_quiet (fail)
    rw [show s.extract 0 k = P0 from HP.out.symm, show s.extract k s.size = L0 from HL.out.symm]
    have FD : Hid (∀ q, Fr Nothing w (w1.drewN q)) := fun q => F1.out.drewN q
    have BD : Hid (∀ q, Blk (w1.drewN q) g 27 zeroImg) := fun q => B1.out.drewN q
    go_wp2_with fail
    refine (CK.out _ (FD.out _)).mono ?_
    rintro e' w3 ⟨rfl, f3⟩
    have F3 := Lib.hid ((FD.out _).trans f3)
    have B3 := Lib.hid ((BD.out _).fr f3 (fun x => x))
    clear f3 CK CI F1 B1 FD BD
    have eQ : strL (P0.extract 4 k) = (strL P0).drop 4 := by rw [strL_extract, List.take_of_length_le (by rw [List.length_drop, strL_length, lP]; omega)]
    have lQ : (P0.extract 4 k).size = k - 4 := by rw [← strL_length, eQ, List.length_drop, strL_length, lP]
    obtain ⟨vb, w4, hcv, hb⟩ := BGrew.conv w3 (P0.extract 4 k) (by omega)
    have hb2 : BGrew w3 w4 vb (strL (P0.extract 4 k)) := hb
    rw [eQ] at hb2
    clear hb
    obtain ⟨f4, gb, cap, rfl, hgb, _, hcap, _, _, _, hcell⟩ := hb2
    have HRD : Hid (Rd w4 (fun k => k = gb) 1 (some ⟨gb, 0, none⟩) ((strL P0).drop 4).length (((strL P0).drop 4).map bv)) :=
      ⟨by simp, fun _ => ⟨_, rfl, rfl, fun j u hu => by rw [Addr.add_mid, Nat.zero_add]; exact hcell j u hu⟩⟩
    have F4 := Lib.hid (F3.out.trans f4)
    have B4 := Lib.hid (B3.out.fr f4 (fun x => x))
    have HM : Hid (((strL P0).drop 4).length ≤ 1099511627776) := by simp only [Hid]; rw [List.length_drop, strL_length]; omega
    have HE : Hid (readI ((strL P0).drop 4) = readI ((strL P0).drop 4)) := rfl
    have q4 : (4 : Int) ≤ (k : Int) := by omega
    clear hcell f4 hgb hcap eQ lQ F3 B3 eP eL eK h4
    generalize (strL P0).drop 4 = m at *
    go_wp2_with fail
    refine (NewReader_any _ _ _ _ _ _ HRD.out HM.out).mono ?_
    rintro e' w5 ⟨gr, S, rfl, hrr, f5, hgr, hS⟩
    have F5 := Lib.hid (F4.out.trans f5)
    have B5 := Lib.hid (B4.out.fr f5 (fun x => x))
    have HR0 := Lib.hid hrr
    have SEP : Hid (g < gr ∧ w.heap.size ≤ gr) := ⟨Nat.lt_of_lt_of_le B4.out.lt hgr, Nat.le_trans F4.out.size hgr⟩
    clear hrr f5 hgr hS hcv HRD B4 F4
    have n1 := rText_len (m, 0, 0)
    go_wp2_with fail
    refine (rText_any _ _ _ _ _ 4096 _ HR0.out).mono ?_
    rintro e' w6 ⟨rfl, hr6⟩
    unfold tV
    generalize h1e : rStep [] (pText 4096) (m, 0, 0) = r1 at *
    have HR1 := Lib.hid hr6
    have H1E := Lib.hid h1e
    have n2 := rText_len (r1.2.1, r1.2.2.1, r1.2.2.2)
    clear hr6 h1e HR0
    go_wp2_with fail
    refine (rText_any _ _ _ _ _ 4096 _ HR1.out.rr).mono ?_
    rintro e' w7 ⟨rfl, hr7⟩
    unfold tV
    generalize h2e : rStep [] (pText 4096) (r1.2.1, r1.2.2.1, r1.2.2.2) = r2 at *
    have HR2 := Lib.hid hr7
    have H2E := Lib.hid h2e
    have n3 := rNum_range (r2.2.1, r2.2.2.1, r2.2.2.2)
    clear hr7 h2e
    go_wp2_with fail
    refine (rdNumber_any _ _ _ _ _ 4096 _ HR2.out.rr).mono ?_
    rintro e' w8 ⟨rfl, hr8⟩
    generalize h3e : rStep 0 (pNumber 4096) (r2.2.1, r2.2.2.1, r2.2.2.2) = r3 at *
    have HR3 := Lib.hid hr8
    have H3E := Lib.hid h3e
    have n4 := rNum_range (r3.2.1, r3.2.2.1, r3.2.2.2)
    clear hr8 h3e
    go_wp2_with fail
    refine (rdNumber_any _ _ _ _ _ 4096 _ HR3.out.rr).mono ?_
    rintro e' w9 ⟨rfl, hr9⟩
    generalize h4e : rStep 0 (pNumber 4096) (r3.2.1, r3.2.2.1, r3.2.2.2) = r4 at *
    have HR4 := Lib.hid hr9
    have H4E := Lib.hid h4e
    clear hr9 h4e
    have HRI : Hid (readI m = if closeI r4.2 ≠ 0 ∨ checkI r1.1.length r2.1.length r3.1 r4.1 ≠ 0 then (([], [], 0, 0), 3) else ((r1.1, r2.1, r3.1, r4.1), 0)) := by
      have e1 := H1E.out
      have e2 : rStep [] (pText 4096) r1.2 = r2 := H2E.out
      have e3 : rStep 0 (pNumber 4096) r2.2 = r3 := H3E.out
      have e4 : rStep 0 (pNumber 4096) r3.2 = r4 := H4E.out
      simp only [Hid]
      unfold readI
      simp only [e1, e2, e3, e4]
    have F9 : Hid (Fr Nothing w w9) := (((F5.out.then_ HR1.out.fr (fun i hi hk => by have hk' : i = gr := hk; have := SEP.out; omega)).then_ HR2.out.fr (fun i hi hk => by have hk' : i = gr := hk; have := SEP.out; omega)).then_ HR3.out.fr (fun i hi hk => by have hk' : i = gr := hk; have := SEP.out; omega)).then_ HR4.out.fr (fun i hi hk => by have hk' : i = gr := hk; have := SEP.out; omega)
    have B9 : Hid (Blk w9 g 27 zeroImg) := (((B5.out.fr HR1.out.fr (fun hk => by have hk' : g = gr := hk; have := SEP.out; omega)).fr HR2.out.fr (fun hk => by have hk' : g = gr := hk; have := SEP.out; omega)).fr HR3.out.fr (fun hk => by have hk' : g = gr := hk; have := SEP.out; omega)).fr HR4.out.fr (fun hk => by have hk' : g = gr := hk; have := SEP.out; omega)
    have HC := Lib.hid HR4.out.rr
    have CL : Hid (∀ w', Fr Nothing w9 w' → Calls Tryd.prog 45 #[.pointer (some ⟨gr, 0, none⟩)] w' fun e w'' => e = .returned (.int .i64 (closeI r4.2)) ∧ w' = w'') := fun w' hf => rClose_any _ _ _ _ _ _ (HC.out.keep0 hf)
    have CH : Hid (∀ w', Calls Tryd.prog 14 #[imgV ⟨r1.1.toArray⟩ ⟨r2.1.toArray⟩ r3.1 r4.1] w' (SameIn w' (.int .i64 (checkI r1.1.length r2.1.length r3.1 r4.1)))) := fun w' => by
      have h := Check_any ⟨r1.1.toArray⟩ ⟨r2.1.toArray⟩ r3.1 r4.1 w' (by rw [size_mk]; omega) (by rw [size_mk]; omega) (by omega) (by omega)
      rw [size_mk, size_mk] at h
      exact h
    have hcr := checkI_range r1.1.length r2.1.length r3.1 r4.1
    have HRT : Hid (retI ((r1.1, r2.1, r3.1, r4.1), 0) = .tuple #[imgV ⟨r1.1.toArray⟩ ⟨r2.1.toArray⟩ r3.1 r4.1, .int .i64 0]) := rfl
    clear HR1 HR2 HR3 HR4 H1E H2E H3E H4E F5 B5 HC SEP HM HE
    generalize checkI r1.1.length r2.1.length r3.1 r4.1 = kc at *
    generalize closeI r4.2 = kl at *
    generalize (⟨r1.1.toArray⟩ : ByteArray) = sc at *
    generalize (⟨r2.1.toArray⟩ : ByteArray) = sd at *
    have Z9 : Hid (g < w9.heap.size) := B9.out.lt
    go_wp2_with (refine wpList_allocBlk rfl 27 rfl (.agg zeroImg) zvI zeroImg rfl ?_)
    intro wa na
    have BA := Lib.hid na.blk
    have BG := Lib.hid (B9.out.fr na.fr (fun x => x))
    have FA := Lib.hid na.fr
    clear na
    generalize hg7 : w9.heap.size = g7 at *
    have HG7 := Lib.hid hg7
    clear hg7
    go_wp2_with (refine wpList_storeBlk rfl 27 (.tmp 7) _ rfl g7 (imgC sc sd r3.1 r4.1) rfl rfl _ _ BA.out (infoI _ _ _ _) rfl (img_one _ _ _ _) ?_)
    intro wb bb fb
    have B7 := Lib.hid bb
    have B2 := Lib.hid (BG.out.fr fb (fun e => by have e' : g = g7 := e; have := Z9.out; omega))
    have FB : Hid (Fr Nothing w9 wb) := FA.out.then_ fb (fun i hi e => by have e' : i = g7 := e; have := HG7.out; omega)
    clear bb fb BA BG FA
    go_wp2_with fail
    refine (CL.out _ FB.out).mono ?_
    rintro e' w' ⟨rfl, rfl⟩
    have FC : Hid (Fr Nothing w wb) := F9.out.trans FB.out
    clear CL
    by_cases hkl : kl = 0
    · have t5 : (kl != 0) = false := by rw [bne_eq_false_iff_eq]; exact hkl
      obtain ⟨k0, k1, k2, k3⟩ := img_cells B7.out (Fr.refl _ _)
      go_wp2_with fail
      refine (CH.out _).mono ?_
      rintro e' wc ⟨rfl, fc⟩
      have FD := Lib.hid (FC.out.trans fc)
      have BD := Lib.hid (B2.out.fr fc (fun x => x))
      have BE := Lib.hid (B7.out.fr fc (fun x => x))
      clear fc k0 k1 k2 k3
      by_cases hkc : kc = 0
      · have t6 : (kc != 0) = false := by rw [bne_eq_false_iff_eq]; exact hkc
        have HV : Hid (retI (readI m) = .tuple #[imgV sc sd r3.1 r4.1, .int .i64 0]) := by
          simp only [Hid]
          rw [HRI.out, if_neg (by omega), HRT.out]
        obtain ⟨k0, k1, k2, k3⟩ := img_cells BE.out (Fr.refl _ _)
        go_wp2_with (refine wpList_storeBlk rfl 27 (.tmp 2) _ rfl g (imgC sc sd r3.1 r4.1) rfl rfl _ _ BD.out (infoI _ _ _ _) rfl (img_one _ _ _ _) ?_)
        intro wz bz fz
        have J := Lib.hid bz
        have JF : Hid (Fr Nothing w wz) := FD.out.then_ fz (fun i hi e => by have e' : i = g := e; have := HG.out; omega)
        clear bz fz k0 k1 k2 k3
        go_wp2
        exact bodyPost_ret (results_cell_slot (fn := Tryd.f23) (p := 2) (q := 3) (ty := 27) Tryd.results23 _ wz _ 27 (imgC sc sd r3.1 r4.1) (0, 0) _ rfl J.out Tryd.underlying27 rfl (infoI _ _ _ _) _ rfl) rfl ⟨congrArg Ending.returned HV.out.symm, JF.out⟩
      · have t6 : (kc != 0) = true := by rw [bne_iff_ne]; exact hkc
        have HV : Hid (retI (readI m) = .tuple #[.agg zeroImg, .int .i64 3]) := by
          simp only [Hid]
          rw [HRI.out, if_pos (.inr hkc)]
          rfl
        go_wp2_with (refine wpList_storeBlk rfl 27 (.tmp 2) _ rfl g zeroImg rfl rfl _ _ BD.out (infoI _ _ 0 0) rfl (img_one _ _ 0 0) ?_)
        intro wz bz fz
        have J := Lib.hid bz
        have JF : Hid (Fr Nothing w wz) := FD.out.then_ fz (fun i hi e => by have e' : i = g := e; have := HG.out; omega)
        clear bz fz
        go_wp2
        exact bodyPost_ret (results_cell_slot (fn := Tryd.f23) (p := 2) (q := 3) (ty := 27) Tryd.results23 _ wz _ 27 zeroImg (0, 0) _ rfl J.out Tryd.underlying27 rfl (infoI _ _ 0 0) _ rfl) rfl ⟨congrArg Ending.returned HV.out.symm, JF.out⟩
    · have t5 : (kl != 0) = true := by rw [bne_iff_ne]; exact hkl
      have HV : Hid (retI (readI m) = .tuple #[.agg zeroImg, .int .i64 3]) := by
        simp only [Hid]
        rw [HRI.out, if_pos (.inl hkl)]
        rfl
      go_wp2_with (refine wpList_storeBlk rfl 27 (.tmp 2) _ rfl g zeroImg rfl rfl _ _ B2.out (infoI _ _ 0 0) rfl (img_one _ _ 0 0) ?_)
      intro wz bz fz
      have J := Lib.hid bz
      have JF : Hid (Fr Nothing w wz) := FC.out.then_ fz (fun i hi e => by have e' : i = g := e; have := HG.out; omega)
      clear bz fz
      go_wp2
      exact bodyPost_ret (results_cell_slot (fn := Tryd.f23) (p := 2) (q := 3) (ty := 27) Tryd.results23 _ wz _ 27 zeroImg (0, 0) _ rfl J.out Tryd.underlying27 rfl (infoI _ _ 0 0) _ rfl) rfl ⟨congrArg Ending.returned HV.out.symm, JF.out⟩
  · have t4 : (!ck.toList == L0.toList) = true := bytes_ne _ _ false (decide_eq_false h4)
    rw [if_pos h4]
    show Calls _ _ _ _ (SameIn w (.tuple #[.agg zeroImg, .int .i64 27]))
    go_enter Tryd.func23, Tryd.ntmps23
    go_wp2_with (refine wpList_allocBlk rfl 27 rfl (.agg zeroImg) zvI zeroImg rfl ?_)
    intro w1 n1
    have B1 := Lib.hid n1.blk
    have F1 := Lib.hid n1.fr
    clear n1
    generalize hg : w.heap.size = g at *
    have HG := Lib.hid hg
    clear hg
    go_wp2_with fail
    refine (CI.out _).mono ?_
    rintro e' w' ⟨rfl, rfl⟩
    go_wp2
    go_quiet (fail)
    rw [show s.extract 0 k = P0 from HP.out.symm, show s.extract k s.size = L0 from HL.out.symm]
    have FD : Hid (∀ q, Fr Nothing w (w1.drewN q)) := fun q => F1.out.drewN q
    have BD : Hid (∀ q, Blk (w1.drewN q) g 27 zeroImg) := fun q => B1.out.drewN q
    go_wp2_with fail
    refine (CK.out _ (FD.out _)).mono ?_
    rintro e' w3 ⟨rfl, f3⟩
    have F3 := Lib.hid ((FD.out _).trans f3)
    have B3 := Lib.hid ((BD.out _).fr f3 (fun x => x))
    clear f3 CK CI F1 B1 FD BD
    go_wp2_with (refine wpList_storeBlk rfl 27 (.tmp 2) _ rfl g zeroImg rfl rfl _ _ B3.out (infoI _ _ 0 0) rfl (img_one _ _ 0 0) ?_)
    intro wz bz fz
    have J := Lib.hid bz
    have JF : Hid (Fr Nothing w wz) := F3.out.then_ fz (fun i hi e => by have e' : i = g := e; have := HG.out; omega)
    clear bz fz
    go_wp2
    exact bodyPost_ret (results_cell_slot (fn := Tryd.f23) (p := 2) (q := 3) (ty := 27) Tryd.results23 _ wz _ 27 zeroImg (0, 0) _ rfl J.out Tryd.underlying27 rfl (infoI _ _ 0 0) _ rfl) rfl ⟨rfl, JF.out⟩
end Go.Proofs.YtfdcmjjafngonaaDoor
