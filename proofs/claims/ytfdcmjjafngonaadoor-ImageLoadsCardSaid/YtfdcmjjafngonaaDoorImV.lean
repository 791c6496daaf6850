/- ImageLoads (written by genI12.py). -/
import Derived.Test.YtfdcmjjafngonaaDoorImU
namespace Go.Proofs.YtfdcmjjafngonaaDoor
open Go.RowKit

theorem mem_eq (c d : List UInt8) (z e : Nat) (h : checkI c.length d.length z e = 0) : ∃ r, memL c d z e = c ++ List.replicate (upN c.length - c.length) 0 ++ d ++ List.replicate r 0 ∧ z ≤ r ∧ (memL c d z e).length = upN c.length + d.length + r ∧ (memL c d z e).length ≤ 4096 := by
  have hok := checkI_ok h
  have h1 := upN_le c.length
  have hl := memL_length c d z e
  have he : endP c.length d.length z e = upN c.length + d.length + z := by
    unfold endP
    rw [if_pos h]
    simp
  have h2 := upN_le (endP c.length d.length z e)
  refine ⟨upN (endP c.length d.length z e) - (upN c.length + d.length), ?_, by omega, by omega, ?_⟩
  · unfold memL
    rw [if_pos h]
  · rw [hl, he]
    have h3 : upN c.length + d.length + z ≤ 4096 := by omega
    unfold upN at *
    omega
theorem mem_code (c d : List UInt8) (z e : Nat) (h : checkI c.length d.length z e = 0) : (memL c d z e).take c.length = c := by
  obtain ⟨r, hm, _⟩ := mem_eq c d z e h
  rw [hm]
  simp [List.append_assoc]
theorem mem_data (c d : List UInt8) (z e : Nat) (h : checkI c.length d.length z e = 0) : ((memL c d z e).drop (upN c.length)).take d.length = d := by
  obtain ⟨r, hm, _⟩ := mem_eq c d z e h
  have h1 := upN_le c.length
  rw [hm, List.append_assoc, List.drop_left' (by simp; omega)]
  simp
theorem mem_byte (c d : List UInt8) (z e : Nat) (h : checkI c.length d.length z e = 0) (k : Nat) : (memL c d z e).getD k 0 = 0 ∨ k < c.length ∨ (upN c.length ≤ k ∧ k < upN c.length + d.length) := by
  obtain ⟨r, hm, _⟩ := mem_eq c d z e h
  have h1 := upN_le c.length
  by_cases h2 : k < c.length
  · exact .inr (.inl h2)
  by_cases h3 : upN c.length ≤ k ∧ k < upN c.length + d.length
  · exact .inr (.inr h3)
  refine .inl ?_
  rw [hm, List.getD_eq_getElem?_getD]
  by_cases h4 : k < upN c.length
  · rw [List.append_assoc, List.getElem?_append_left (by simp; omega), List.getElem?_append_right (by omega), List.getElem?_replicate]
    split <;> rfl
  · rw [List.getElem?_append_right (by simp; omega), List.getElem?_replicate]
    split <;> rfl

set_option maxRecDepth 100000 in
set_option maxHeartbeats 4000000 in
theorem ImageLoads_any (i : ImgV) (w : World) (hi : i.good) (hT : ShaTab w) : Calls Tryd.prog 10 #[i.val] w (SameIn w (.bool true)) := by
  obtain ⟨c, d, z, e⟩ := i
  obtain ⟨hz, he⟩ := hi
  simp only at hz he
  unfold ImgV.val
  simp only
  have CK : Hid (∀ w', Fr Nothing w w' → Calls Tryd.prog 11 #[] w' (SameIn w' (.bool true))) := fun w' hf => known_any w' (hT.fr0 hf)
  have CL := Lib.hid (fun w => long_any c d z e w)
  have hlo : longB c d = true ∨ (longB c d = false ∧ c.size ≤ 6000 ∧ d.size ≤ 6000) := by
    unfold longB
    by_cases h : 6000 < c.size ∨ 6000 < d.size
    · exact .inl (decide_eq_true h)
    · exact .inr ⟨decide_eq_false h, by omega, by omega⟩
  rcases hlo with hlo | ⟨hlo, hc, hd⟩
  · rw [hlo] at CL
    clear hT
    go_enter Tryd.func10, Tryd.ntmps10
    go_wp2_with (refine wpList_boxBlk rfl 23 (.tmp 0) rfl _ rfl ?_)
    intro w1 n1
    have B1 : Hid (Blk w1 w.heap.size 23 (imgC c d z e)) := n1.blk
    have F1 := Lib.hid n1.fr
    clear n1
    generalize hg : w.heap.size = g at *
    have HG := Lib.hid hg
    clear hg
    go_wp2_with fail
    refine (CK.out _ F1.out).mono ?_
    rintro e' w2 ⟨rfl, f2⟩
    have B2 := Lib.hid (B1.out.fr f2 (fun x => x))
    have F2 := Lib.hid (F1.out.trans f2)
    clear f2 B1 F1
    obtain ⟨k0, k1, k2, k3⟩ := img_cells B2.out (Fr.refl _ _)
    go_wp2_with fail
    refine (CL.out _).mono ?_
    rintro e' w3 ⟨rfl, f3⟩
    have B3 := Lib.hid (B2.out.fr f3 (fun x => x))
    have F3 := Lib.hid (F2.out.trans f3)
    clear k0 k1 k2 k3 f3 B2 F2
    go_wp2_with fail
    refine (CK.out _ F3.out).mono ?_
    rintro e' w4 ⟨rfl, f4⟩
    have F4 := Lib.hid (F3.out.trans f4)
    clear f4
    go_wp2
    go_ret
    exact ⟨rfl, F4.out⟩
  rw [hlo] at CL
  have CT := Lib.hid (fun w => To_any c d z e w)
  have CM := Lib.hid (fun w => Memory_any c d z e w (by omega) (by omega) hz he)
  have CC := Lib.hid (fun w => Check_any c d z e w (by omega) (by omega) hz he)
  have hcr := checkI_range c.size d.size z e
  by_cases hkn : checkI c.size d.size z e ≠ 0
  · have t2 : (checkI c.size d.size z e != 0) = true := by rw [bne_iff_ne]; exact hkn
    have CG := Lib.hid (fun w => Pages_none c d z e w (by omega) (by omega) hz he hkn)
    rw [show memL (strL c) (strL d) z e = [] by unfold memL; rw [if_neg (by rw [strL_length, strL_length]; exact hkn)]] at CM
    generalize checkI c.size d.size z e = k at *
    clear hT
    go_enter Tryd.func10, Tryd.ntmps10
    go_wp2_with (refine wpList_boxBlk rfl 23 (.tmp 0) rfl _ rfl ?_)
    intro w1 n1
    have B1 : Hid (Blk w1 w.heap.size 23 (imgC c d z e)) := n1.blk
    have F1 := Lib.hid n1.fr
    clear n1
    generalize hg : w.heap.size = g at *
    have HG := Lib.hid hg
    clear hg
    go_wp2_with fail
    refine (CK.out _ F1.out).mono ?_
    rintro e' w2 ⟨rfl, f2⟩
    have B2 := Lib.hid (B1.out.fr f2 (fun x => x))
    have F2 := Lib.hid (F1.out.trans f2)
    clear f2 B1 F1
    obtain ⟨k0, k1, k2, k3⟩ := img_cells B2.out (Fr.refl _ _)
    go_wp2_with fail
    refine (CL.out _).mono ?_
    rintro e' w3 ⟨rfl, f3⟩
    have B3 := Lib.hid (B2.out.fr f3 (fun x => x))
    have F3 := Lib.hid (F2.out.trans f3)
    clear k0 k1 k2 k3 f3 B2 F2
    obtain ⟨k0, k1, k2, k3⟩ := img_cells B3.out (Fr.refl _ _)
    go_wp2_with fail
    refine (CT.out _).mono ?_
    rintro e'' w4 ⟨rfl, f4⟩
    have B4 := Lib.hid (B3.out.fr f4 (fun x => x))
    have F4 := Lib.hid (F3.out.trans f4)
    have Z4 : Hid (g < w4.heap.size ∧ w.heap.size ≤ w4.heap.size) := ⟨B4.out.lt, F4.out.size⟩
    clear f4 B3 F3 k0 k1 k2 k3
    go_wp2_with (refine wpList_allocBlk rfl 27 rfl (.agg zeroImg) zvI zeroImg rfl ?_)
    intro w5 nx
    have G5 := Lib.hid nx.blk
    have F5 := Lib.hid (F4.out.trans nx.fr)
    have B5 := Lib.hid (B4.out.fr nx.fr (fun x => x))
    clear nx F4 B4
    generalize w4.heap.size = g3 at *
    go_wp2_with (refine wpList_storeBlk rfl 27 (.tmp 3) _ rfl g3 (imgC c d z e) rfl rfl _ _ G5.out (infoI _ _ _ _) rfl (img_one _ _ _ _) ?_)
    intro w6 bx fx
    have G6 := Lib.hid bx
    have F6 : Hid (Fr Nothing w w6) := F5.out.then_ fx (fun i hi e => by have e' : i = g3 := e; have := Z4.out; omega)
    have B6 := Lib.hid (B5.out.fr fx (fun e => by have e' : g = g3 := e; have := Z4.out; omega))
    clear bx fx F5 B5 G5
    obtain ⟨k0, k1, k2, k3⟩ := img_cells G6.out (Fr.refl _ _)
    go_wp2_with fail
    refine (CM.out _).mono ?_
    rintro e'' w7 ⟨rfl, f7⟩
    have F7 := Lib.hid (F6.out.trans f7)
    have G7 := Lib.hid (G6.out.fr f7 (fun x => x))
    have B7 := Lib.hid (B6.out.fr f7 (fun x => x))
    clear f7 F6 G6 B6 k0 k1 k2 k3
    obtain ⟨k0, k1, k2, k3⟩ := img_cells G7.out (Fr.refl _ _)
    go_wp2_with fail
    refine (CC.out _).mono ?_
    rintro e'' w8 ⟨rfl, f8⟩
    have F8 := Lib.hid (F7.out.trans f8)
    have G8 := Lib.hid (G7.out.fr f8 (fun x => x))
    have B8 := Lib.hid (B7.out.fr f8 (fun x => x))
    clear f8 F7 G7 B7 k0 k1 k2 k3
    obtain ⟨k0, k1, k2, k3⟩ := img_cells G8.out (Fr.refl _ _)
    go_wp2_with fail
    refine (CG.out _).mono ?_
    rintro e'' w9 ⟨rfl, f9⟩
    have F9 := Lib.hid (F8.out.trans f9)
    clear f9 F8 G8 B8 k0 k1 k2 k3
    go_wp2
    go_ret
    exact ⟨rfl, F9.out⟩
  have hk : checkI c.size d.size z e = 0 := by omega
  have hok := checkI_ok hk
  obtain ⟨z', rfl⟩ : ∃ z' : Nat, z = z' := ⟨z.toNat, by omega⟩
  obtain ⟨e', rfl⟩ : ∃ e' : Nat, e = e' := ⟨e.toNat, by omega⟩
  have hk' : checkI (strL c).length (strL d).length z' e' = 0 := by rw [strL_length, strL_length]; exact hk
  obtain ⟨r, _, hzr, hml, hmm⟩ := mem_eq (strL c) (strL d) z' e' hk'
  have m1 := mem_code (strL c) (strL d) z' e' hk'
  have m2 := mem_data (strL c) (strL d) z' e' hk'
  have m3 := mem_byte (strL c) (strL d) z' e' hk'
  rw [strL_length] at m1 m2
  simp only [strL_length] at m2 m3 hml
  have CD := Lib.hid (fun w => DataAt_any c d z' e' w (by omega) (by omega) hz he)
  rw [show dataP c.size d.size z' e' = upN c.size by unfold dataP; rw [if_pos hk]] at CD
  rw [hk] at CC
  obtain ⟨M, hM⟩ : ∃ M : ByteArray, M = ⟨(memL (strL c) (strL d) z' e').toArray⟩ := ⟨_, rfl⟩
  rw [← hM] at CM
  have hML : strL M = memL (strL c) (strL d) z' e' := by rw [hM, strL_mk]
  rw [← hML, strL_length] at hml hmm
  rw [← hML] at m1 m2 m3
  have hu := upN_le c.size
  generalize upN c.size = at' at *
  have q1 : strL (M.extract 0 c.size) = strL c := by rw [strL_extract, List.drop_zero, Nat.sub_zero]; exact m1
  have q2 : strL (M.extract at' (at' + d.size)) = strL d := by rw [strL_extract, Nat.add_sub_cancel_left]; exact m2
  have t1 : decide ((4096 : Int) < (M.size : Int)) = false := decide_eq_false (by omega)
  have t3 : (!(M.extract 0 c.size).toList == c.toList) = false := bytes_ne _ _ true (decide_eq_true q1)
  have t4 : (!(M.extract at' (at' + d.size)).toList == d.toList) = false := bytes_ne _ _ true (decide_eq_true q2)
  have t5 : decide ((c.size : Int) < (e' : Int) + 4) = false := decide_eq_false (by omega)
  obtain ⟨ad, had⟩ : ∃ ad : Nat, (at' : Int) + (d.size : Int) = (ad : Int) := ⟨at' + d.size, by omega⟩
  have had' : at' + d.size = ad := by omega
  rw [had'] at t4
  obtain ⟨az, haz⟩ : ∃ az : Nat, (ad : Int) + (z' : Int) = (az : Int) := ⟨ad + z', by omega⟩
  have t6 : decide ((M.size : Int) < (az : Int)) = false := decide_eq_false (by omega)
  have t7 : ¬ M.size < az := by omega
  have a1 : (c.size : Int) ≤ (M.size : Int) := by omega
  have a2 : (at' : Int) ≤ (ad : Int) := by omega
  have a3 : (ad : Int) ≤ (M.size : Int) := by omega
  have a4 : c.size ≤ M.size := by omega
  have a5 : at' ≤ ad := by omega
  have a6 : ad ≤ M.size := by omega
  have a7 : M.size ≤ 4096 := hmm
  have a8 : az ≤ 8192 := by omega
  have a9 : e' ≤ 4096 := by omega
  have M3 : Hid (∀ k, (strL M).getD k 0 = 0 ∨ k < c.size ∨ (at' ≤ k ∧ k < ad)) := fun k => by have := m3 k; rw [← had']; exact this
  clear hT hM hML hml hmm m1 m2 m3 q1 q2 hk hk' hok hcr hkn hu hzr had'
  go_enter Tryd.func10, Tryd.ntmps10
  go_wp2_with (refine wpList_boxBlk rfl 23 (.tmp 0) rfl _ rfl ?_)
  intro w1 n1
  have B1 : Hid (Blk w1 w.heap.size 23 (imgC c d z' e')) := n1.blk
  have F1 := Lib.hid n1.fr
  clear n1
  generalize hg : w.heap.size = g at *
  have HG := Lib.hid hg
  clear hg
  go_wp2_with fail
  refine (CK.out _ F1.out).mono ?_
  rintro e' w2 ⟨rfl, f2⟩
  have B2 := Lib.hid (B1.out.fr f2 (fun x => x))
  have F2 := Lib.hid (F1.out.trans f2)
  clear f2 B1 F1
  obtain ⟨k0, k1, k2, k3⟩ := img_cells B2.out (Fr.refl _ _)
  go_wp2_with fail
  refine (CL.out _).mono ?_
  rintro e' w3 ⟨rfl, f3⟩
  have B3 := Lib.hid (B2.out.fr f3 (fun x => x))
  have F3 := Lib.hid (F2.out.trans f3)
  clear k0 k1 k2 k3 f3 B2 F2
  obtain ⟨k0, k1, k2, k3⟩ := img_cells B3.out (Fr.refl _ _)
  go_wp2_with fail
  refine (CT.out _).mono ?_
  rintro e'' w4 ⟨rfl, f4⟩
  have B4 := Lib.hid (B3.out.fr f4 (fun x => x))
  have F4 := Lib.hid (F3.out.trans f4)
  have Z4 : Hid (g < w4.heap.size ∧ w.heap.size ≤ w4.heap.size) := ⟨B4.out.lt, F4.out.size⟩
  clear f4 B3 F3 k0 k1 k2 k3
  go_wp2_with (refine wpList_allocBlk rfl 27 rfl (.agg zeroImg) zvI zeroImg rfl ?_)
  intro w5 nx
  have G5 := Lib.hid nx.blk
  have F5 := Lib.hid (F4.out.trans nx.fr)
  have B5 := Lib.hid (B4.out.fr nx.fr (fun x => x))
  clear nx F4 B4
  generalize w4.heap.size = g3 at *
  go_wp2_with (refine wpList_storeBlk rfl 27 (.tmp 3) _ rfl g3 (imgC c d z' e') rfl rfl _ _ G5.out (infoI _ _ _ _) rfl (img_one _ _ _ _) ?_)
  intro w6 bx fx
  have G6 := Lib.hid bx
  have F6 : Hid (Fr Nothing w w6) := F5.out.then_ fx (fun i hi e => by have e' : i = g3 := e; have := Z4.out; omega)
  have B6 := Lib.hid (B5.out.fr fx (fun e => by have e' : g = g3 := e; have := Z4.out; omega))
  clear bx fx F5 B5 G5
  obtain ⟨k0, k1, k2, k3⟩ := img_cells G6.out (Fr.refl _ _)
  go_wp2_with fail
  refine (CM.out _).mono ?_
  rintro e'' w7 ⟨rfl, f7⟩
  have F7 := Lib.hid (F6.out.trans f7)
  have G7 := Lib.hid (G6.out.fr f7 (fun x => x))
  have B7 := Lib.hid (B6.out.fr f7 (fun x => x))
  clear f7 F6 G6 B6 k0 k1 k2 k3
  obtain ⟨k0, k1, k2, k3⟩ := img_cells G7.out (Fr.refl _ _)
  go_wp2_with fail
  refine (CC.out _).mono ?_
  rintro e'' w8 ⟨rfl, f8⟩
  have F8 := Lib.hid (F7.out.trans f8)
  have G8 := Lib.hid (G7.out.fr f8 (fun x => x))
  have B8 := Lib.hid (B7.out.fr f8 (fun x => x))
  clear f8 F7 G7 B7 k0 k1 k2 k3
  obtain ⟨k0, k1, k2, k3⟩ := img_cells G8.out (Fr.refl _ _)
  go_wp2_with fail
  refine (CD.out _).mono ?_
  rintro e'' w9 ⟨rfl, f9⟩
  have F9 := Lib.hid (F8.out.trans f9)
  have B9 := Lib.hid (B8.out.fr f9 (fun x => x))
  clear f9 F8 G8 B8 k0 k1 k2 k3
  go_wp2
  have q0 : ∀ y : In (Later w9), y.w.cell? ⟨g, 0, none⟩ = some (.string c) := fun y => (img_cells B9.out y.h).1
  have q1 : ∀ y : In (Later w9), y.w.cell? ⟨g, 1, none⟩ = some (.string d) := fun y => (img_cells B9.out y.h).2.1
  have q2 : ∀ y : In (Later w9), y.w.cell? ⟨g, 2, none⟩ = some (.int .i64 z') := fun y => (img_cells B9.out y.h).2.2.1
  have q3 : ∀ y : In (Later w9), y.w.cell? ⟨g, 3, none⟩ = some (.int .i64 e') := fun y => (img_cells B9.out y.h).2.2.2
  refine wp_region_in (Later w9) ((Fr.refl _ _).drew) (by kernel_rfl) (by kernel_rfl) ?_
  repeat (go_big_quiet_step (fail))
  refine wpQuiet_nil ?_
  rintro _ ⟨y, rfl⟩
  have FY := Lib.hid (F9.out.trans y.h)
  have BQ := B9.out.fr y.h (fun x => x)
  obtain ⟨k0, k1, k2, k3⟩ := img_cells B9.out y.h
  generalize y.w = w10 at *
  clear q0 q1 q2 q3 y F9 B9
  have HK : Hid (Blk w10 g 23 (imgC c d z' e')) := BQ
  clear BQ k0 k1 k2 k3 CK CL CT CM CC CD
  go_wp2
  go_loopw [6] (fun v wr => ∃ k : Nat, k ≤ M.size ∧ v = .int .i64 k ∧ wr = w10) (fun v _ => M.size - (intOf v).toNat)
  case atStart => exact ⟨0, Nat.zero_le _, rfl, rfl⟩
  case round =>
    obtain ⟨k, hkM, rfl, rfl⟩ := hrel
    obtain ⟨k0, k1, k2, k3⟩ := img_cells HK.out (Fr.refl _ _)
    by_cases hlt : k < M.size
    · have hb : (((M[k].toNat : Nat) : Int) != 0) = false ∨ (((M[k].toNat : Nat) : Int) != 0) = true ∧ (decide ((c.size : Int) ≤ (k : Int)) = false ∨ decide ((c.size : Int) ≤ (k : Int)) = true ∧ decide ((k : Int) < (at' : Int)) = false ∧ decide ((ad : Int) ≤ (k : Int)) = false) := by
        have h3 := M3.out k
        have hg : (strL M).getD k 0 = M[k] := by
          unfold strL
          rw [List.getD_eq_getElem?_getD, List.getElem?_eq_getElem (by simpa using hlt)]
          rfl
        rw [hg] at h3
        by_cases h0 : M[k] = 0
        · exact .inl (by rw [h0]; rfl)
        · refine .inr ⟨?_, ?_⟩
          · rw [bne_iff_ne]
            intro h
            apply h0
            have : M[k].toNat = 0 := by omega
            exact UInt8.toNat_inj.1 this
          · rcases h3 with h3 | h3 | ⟨h3, h4⟩
            · exact absurd h3 h0
            · exact .inl (decide_eq_false (by omega))
            · by_cases h5 : (c.size : Int) ≤ (k : Int)
              · exact .inr ⟨decide_eq_true h5, decide_eq_false (by omega), decide_eq_false (by omega)⟩
              · exact .inl (decide_eq_false h5)
      rcases hb with hb | ⟨hb, hb2 | ⟨hb2, hb3, hb4⟩⟩
      · go_wp2
        exact ⟨⟨k + 1, by omega, by go_num, trivial⟩, by simp [intOf]; omega⟩
      · have n1 : ¬ c.size ≤ k := fun h => by rw [decide_eq_true (by omega)] at hb2; cases hb2
        go_wp2
        exact ⟨⟨k + 1, by omega, by go_num, trivial⟩, by simp [intOf]; omega⟩
      · have n1 : c.size ≤ k := by have := of_decide_eq_true hb2; omega
        have n2 : ¬ k < at' := fun h => by rw [decide_eq_true (by omega)] at hb3; cases hb3
        have n3 : ¬ ad ≤ k := fun h => by rw [decide_eq_true (by omega)] at hb4; cases hb4
        go_wp2
        exact ⟨⟨k + 1, by omega, by go_num, trivial⟩, by simp [intOf]; omega⟩
    · go_wp2
      go_ret
      exact ⟨rfl, FY.out⟩
end Go.Proofs.YtfdcmjjafngonaaDoor
