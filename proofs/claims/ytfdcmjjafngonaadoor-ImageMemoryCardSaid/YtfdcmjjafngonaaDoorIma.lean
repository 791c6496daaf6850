/- ImageMemory (written by genI14.py). -/
import Derived.Test.YtfdcmjjafngonaaDoorImZ
namespace Go.Proofs.YtfdcmjjafngonaaDoor
open Go.RowKit

set_option maxRecDepth 100000 in
set_option maxHeartbeats 4000000 in
theorem ImageMemory_any (i : ImgV) (w : World) (hi : i.good) (hT : ShaTab w) : Calls Tryd.prog 9 #[i.val] w (SameIn w (.bool true)) := by
  obtain ⟨c, d, z, e⟩ := i
  obtain ⟨hz, he⟩ := hi
  simp only at hz he
  unfold ImgV.val
  simp only
  have CK : Hid (∀ w', Fr Nothing w w' → Calls Tryd.prog 11 #[] w' (SameIn w' (.bool true))) := fun w' hf => known_any w' (hT.fr0 hf)
  have CL := Lib.hid (fun w => long_any c d z e w)
  have hlo : longB c d = true ∨ (longB c d = false ∧ c.size ≤ 6000 ∧ d.size ≤ 6000) := by
    unfold longB
    by_cases h : 6000 < c.size ∨ 6000 < d.size
    · exact .inl (decide_eq_true h)
    · exact .inr ⟨decide_eq_false h, by omega, by omega⟩
  rcases hlo with hlo | ⟨hlo, hc, hd⟩
  · rw [hlo] at CL
    clear hT
    go_enter Tryd.func9, Tryd.ntmps9
    go_wp2_with (refine wpList_boxBlk rfl 23 (.tmp 0) rfl _ rfl ?_)
    intro w1 n1
    have B1 : Hid (Blk w1 w.heap.size 23 (imgC c d z e)) := n1.blk
    have F1 := Lib.hid n1.fr
    clear n1
    generalize hg : w.heap.size = g at *
    have HG := Lib.hid hg
    clear hg
    go_wp2_with fail
    refine (CK.out _ F1.out).mono ?_
    rintro e' w2 ⟨rfl, f2⟩
    have B2 := Lib.hid (B1.out.fr f2 (fun x => x))
    have F2 := Lib.hid (F1.out.trans f2)
    clear f2 B1 F1
    obtain ⟨k0, k1, k2, k3⟩ := img_cells B2.out (Fr.refl _ _)
    go_wp2_with fail
    refine (CL.out _).mono ?_
    rintro e' w3 ⟨rfl, f3⟩
    have B3 := Lib.hid (B2.out.fr f3 (fun x => x))
    have F3 := Lib.hid (F2.out.trans f3)
    clear k0 k1 k2 k3 f3 B2 F2
    go_wp2_with fail
    refine (CK.out _ F3.out).mono ?_
    rintro e' w4 ⟨rfl, f4⟩
    have F4 := Lib.hid (F3.out.trans f4)
    clear f4
    go_wp2
    go_ret
    exact ⟨rfl, F4.out⟩
  rw [hlo] at CL
  have CT := Lib.hid (fun w => To_any c d z e w)
  have CM := Lib.hid (fun w => Memory_any c d z e w (by omega) (by omega) hz he)
  have CB := Lib.hid (fun w => Bytes_any c d z e w (by omega) (by omega) hz he)
  have hle := endP_le c.size d.size z e
  have hml := memL_length (strL c) (strL d) z e
  obtain ⟨M, hM⟩ : ∃ M : ByteArray, M = ⟨(memL (strL c) (strL d) z e).toArray⟩ := ⟨_, rfl⟩
  obtain ⟨N, hN⟩ : ∃ N : Nat, N = (endP c.size d.size z e + 63) / 64 := ⟨_, rfl⟩
  have hMs : M.size = 64 * N := by
    rw [hM, size_mk, hml, strL_length, strL_length, hN]
    unfold upN
    omega
  have hN4 : N ≤ 64 := by omega
  rw [← hM] at CM CB
  have CP := Lib.hid (fun w => Pages_any c d z e M N w CM.out hMs hN4)
  have e1 : (!M.toList == M.toList) = false := by simp
  have e2 : (M.size : Int).tdiv 64 = (N : Int) := by rw [Int.tdiv_eq_ediv_of_nonneg (by omega)]; omega
  have e3 : (M.size : Int) / 64 = (N : Int) := by rw [hMs]; omega
  have e4 : M.size / 64 = N := by omega
  have HMS := Lib.hid hMs
  clear hT hM hN hMs hle hml hc hd hlo
  go_enter Tryd.func9, Tryd.ntmps9
  go_wp2_with (refine wpList_boxBlk rfl 23 (.tmp 0) rfl _ rfl ?_)
  intro w1 n1
  have B1 : Hid (Blk w1 w.heap.size 23 (imgC c d z e)) := n1.blk
  have F1 := Lib.hid n1.fr
  clear n1
  generalize hg : w.heap.size = g at *
  have HG := Lib.hid hg
  clear hg
  go_wp2_with fail
  refine (CK.out _ F1.out).mono ?_
  rintro e' w2 ⟨rfl, f2⟩
  have B2 := Lib.hid (B1.out.fr f2 (fun x => x))
  have F2 := Lib.hid (F1.out.trans f2)
  clear f2 B1 F1
  obtain ⟨k0, k1, k2, k3⟩ := img_cells B2.out (Fr.refl _ _)
  go_wp2_with fail
  refine (CL.out _).mono ?_
  rintro e' w3 ⟨rfl, f3⟩
  have B3 := Lib.hid (B2.out.fr f3 (fun x => x))
  have F3 := Lib.hid (F2.out.trans f3)
  clear k0 k1 k2 k3 f3 B2 F2
  obtain ⟨k0, k1, k2, k3⟩ := img_cells B3.out (Fr.refl _ _)
  go_wp2_with fail
  refine (CT.out _).mono ?_
  rintro e'' w4 ⟨rfl, f4⟩
  have B4 := Lib.hid (B3.out.fr f4 (fun x => x))
  have F4 := Lib.hid (F3.out.trans f4)
  have Z4 : Hid (g < w4.heap.size ∧ w.heap.size ≤ w4.heap.size) := ⟨B4.out.lt, F4.out.size⟩
  clear f4 B3 F3 k0 k1 k2 k3
  go_wp2_with (refine wpList_allocBlk rfl 27 rfl (.agg zeroImg) zvI zeroImg rfl ?_)
  intro w5 nx
  have G5 := Lib.hid nx.blk
  have F5 := Lib.hid (F4.out.trans nx.fr)
  have B5 := Lib.hid (B4.out.fr nx.fr (fun x => x))
  clear nx F4 B4
  generalize w4.heap.size = g3 at *
  go_wp2_with (refine wpList_storeBlk rfl 27 (.tmp 3) _ rfl g3 (imgC c d z e) rfl rfl _ _ G5.out (infoI _ _ _ _) rfl (img_one _ _ _ _) ?_)
  intro w6 bx fx
  have G6 := Lib.hid bx
  have F6 : Hid (Fr Nothing w w6) := F5.out.then_ fx (fun i hi e => by have e' : i = g3 := e; have := Z4.out; omega)
  have B6 := Lib.hid (B5.out.fr fx (fun e => by have e' : g = g3 := e; have := Z4.out; omega))
  clear bx fx F5 B5 G5
  obtain ⟨k0, k1, k2, k3⟩ := img_cells B6.out (Fr.refl _ _)
  go_wp2_with fail
  refine (CB.out _).mono ?_
  rintro e'' w7 ⟨rfl, f7⟩
  have F7 := Lib.hid (F6.out.trans f7)
  have G7 := Lib.hid (G6.out.fr f7 (fun x => x))
  clear f7 F6 G6 B6 k0 k1 k2 k3
  obtain ⟨k0, k1, k2, k3⟩ := img_cells G7.out (Fr.refl _ _)
  go_wp2_with fail
  refine (CP.out _).mono ?_
  rintro e'' w8 ⟨v, rfl, hG⟩
  obtain ⟨A1, m1, c1, rfl, H1, H2⟩ := own_slice hG.own
  have F8 := Lib.hid (F7.out.trans hG.fr0)
  have G8 := Lib.hid (G7.out.fr hG.fr0 (fun x => x))
  obtain rfl : m1 = N := H1.out
  have HR := Lib.hid (Rd.of_own hG.own)
  clear hG F7 G7 k0 k1 k2 k3
  obtain ⟨k0, k1, k2, k3⟩ := img_cells G8.out (Fr.refl _ _)
  go_wp2_with fail
  refine (CM.out _).mono ?_
  rintro e'' w9 ⟨rfl, f9⟩
  have F9 := Lib.hid (F8.out.trans f9)
  have HR9 := Lib.hid (HR.out.fr0 f9)
  clear f9 F8 G8 HR k0 k1 k2 k3 CK CL CT CM CB CP
  go_wp2
  go_loopw [6] (fun v wr => ∃ k : Nat, k ≤ m1 ∧ v = .int .i64 k ∧ Fr Nothing w9 wr) (fun v _ => m1 - (intOf v).toNat)
  case atStart => exact ⟨0, Nat.zero_le _, rfl, Fr.refl _ _⟩
  case round =>
    obtain ⟨k, hk, rfl, hf⟩ := hrel
    have HF := Lib.hid hf
    clear hf
    by_cases hlt : k < m1
    · obtain ⟨ad, u, rfl, _, hu, hc⟩ := (HR9.out.fr0 HF.out).at_ hlt
      rw [List.getElem?_map, List.getElem?_range hlt] at hu
      obtain rfl : pageV M k = u := Option.some.inj hu
      have HC := Lib.hid hc
      have q0 : ∀ y : In (Later wr), y.w.cell? (ad.add k) = some (.string (M.extract (64 * k) (64 * k + 64))) := fun y => y.h.cellSome HC.out (fun x => x)
      have z0 : (64 : Int) * (k : Int) = ((64 * k : Nat) : Int) := by omega
      have hlI : (k : Int) < (m1 : Int) := by omega
      have HMQ : M.size = 64 * m1 := HMS.out
      have p1 : 64 * k ≤ 4096 := by omega
      obtain ⟨q, hq⟩ : ∃ q : Nat, q = 64 * k := ⟨_, rfl⟩
      obtain ⟨q2, hq2⟩ : ∃ q2 : Nat, q2 = q + 64 := ⟨_, rfl⟩
      have i1 : (q : Int) + 64 = (q2 : Int) := by omega
      have i2 : (q2 : Int) ≤ (M.size : Int) := by omega
      have i3 : (q : Int) ≤ (q2 : Int) := by omega
      have i4 : q2 ≤ M.size := by omega
      have i5 : q ≤ q2 := by omega
      rw [← hq] at z0 q0 p1
      rw [← hq2] at q0
      have t9 : (!(M.extract q q2).toList == (M.extract q q2).toList) = false := by simp
      clear hu hc HMQ hq hq2
      go_upto_region 11 with fail
      refine wp_region_in (Later wr) ((Fr.refl _ _).drew) (by kernel_rfl) (by kernel_rfl) ?_
      repeat (go_big_quiet_step (fail))
      refine wpQuiet_nil ?_
      rintro _ ⟨y, rfl⟩
      have FY := Lib.hid (HF.out.trans y.h)
      generalize y.w = w10 at *
      clear q0 y HF HC
      go_wp2
      exact ⟨⟨k + 1, by omega, by go_num, FY.out⟩, by simp [intOf]; omega⟩
    · obtain rfl : k = m1 := by omega
      have FE := Lib.hid (F9.out.trans HF.out)
      go_wp2
      go_ret
      exact ⟨rfl, FE.out⟩
end Go.Proofs.YtfdcmjjafngonaaDoor
