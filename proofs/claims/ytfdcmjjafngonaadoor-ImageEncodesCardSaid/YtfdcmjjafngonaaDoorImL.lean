/- ImageCuts (written by genI5.py). -/
import Derived.Test.YtfdcmjjafngonaaDoorImK
namespace Go.Proofs.YtfdcmjjafngonaaDoor
open Go.RowKit

/-- What is read again is the same image just where the text is the same. -/
theorem decV_same (c d : ByteArray) (z e : Nat) (h : checkI c.size d.size z e = 0) (l : List UInt8) (C D : ByteArray) (Z E F : Int) (hr : retI (decV l) = .tuple #[imgV C D Z E, .int .i64 F]) :
    (F = 0 → decide (C = c ∧ D = d ∧ Z = (z : Int) ∧ E = (e : Int)) = decide (l = encL (strL c) (strL d) z e)) ∧ (F ≠ 0 → l ≠ encL (strL c) (strL d) z e) := by
  have h' : checkI (strL c).length (strL d).length z e = 0 := by rw [strL_length, strL_length]; exact h
  have hs : (⟨(decV l).1.1.toArray⟩ : ByteArray) = C ∧ (⟨(decV l).1.2.1.toArray⟩ : ByteArray) = D ∧ (decV l).1.2.2.1 = Z ∧ (decV l).1.2.2.2 = E ∧ (decV l).2 = F := by
    unfold retI at hr
    simp only [Value.tuple.injEq, Array.mk.injEq, List.cons.injEq, Value.agg.injEq, Value.string.injEq, Value.int.injEq, true_and, and_true] at hr
    exact ⟨hr.1.1, hr.1.2.1, hr.1.2.2.1, hr.1.2.2.2, hr.2⟩
  obtain ⟨e1, e2, e3, e4, e5⟩ := hs
  refine ⟨fun hF => ?_, fun hF hl => ?_⟩
  · obtain ⟨c', d', z', e', hd, hk, hl⟩ := decV_canon l (e5.trans hF)
    rw [hd] at e1 e2 e3 e4
    simp only at e1 e2 e3 e4
    have hi : (C = c ∧ D = d ∧ Z = (z : Int) ∧ E = (e : Int)) ↔ l = encL (strL c) (strL d) z e := by
      constructor
      · rintro ⟨h1, h2, h3, h4⟩
        have a1 : c' = strL c := by rw [← h1, ← e1, strL_mk]
        have a2 : d' = strL d := by rw [← h2, ← e2, strL_mk]
        have a3 : z' = z := by omega
        have a4 : e' = e := by omega
        rw [hl, a1, a2, a3, a4]
      · intro h5
        obtain ⟨a1, a2, a3, a4⟩ := encL_inj hk h' (hl.symm.trans h5)
        refine ⟨?_, ?_, ?_, ?_⟩
        · rw [← e1, a1]; exact (ba_of c _ rfl).symm
        · rw [← e2, a2]; exact (ba_of d _ rfl).symm
        · rw [← e3, a3]
        · rw [← e4, a4]
    exact decide_eq_decide.2 hi
  · apply hF
    rw [← e5, hl, decV_enc _ _ z e h']

set_option maxRecDepth 100000 in
set_option maxHeartbeats 4000000 in
theorem ImageCuts_any (i : ImgV) (n : Int) (more : ByteArray) (w : World) (hi : i.good) (hn : 0 ≤ n ∧ n ≤ 255) (hT : ShaTab w) : Calls Tryd.prog 8 #[i.val, .int .u8 n, .string more] w (SameIn w (.bool true)) := by
  obtain ⟨c, d, z, e⟩ := i
  obtain ⟨hz, he⟩ := hi
  simp only at hz he
  unfold ImgV.val
  simp only
  have CK : Hid (∀ w', Fr Nothing w w' → Calls Tryd.prog 11 #[] w' (SameIn w' (.bool true))) := fun w' hf => known_any w' (hT.fr0 hf)
  have CL := Lib.hid (fun w => long_any c d z e w)
  have hlo : longB c d = true ∨ (longB c d = false ∧ c.size ≤ 6000 ∧ d.size ≤ 6000) := by
    unfold longB
    by_cases h : 6000 < c.size ∨ 6000 < d.size
    · exact .inl (decide_eq_true h)
    · exact .inr ⟨decide_eq_false h, by omega, by omega⟩
  rcases hlo with hlo | ⟨hlo, hc, hd⟩
  · rw [hlo] at CL
    clear hT
    go_enter Tryd.func8, Tryd.ntmps8
    go_wp2_with (refine wpList_boxBlk rfl 23 (.tmp 0) rfl _ rfl ?_)
    intro w1 n1
    have B1 : Hid (Blk w1 w.heap.size 23 (imgC c d z e)) := n1.blk
    have F1 := Lib.hid n1.fr
    clear n1
    generalize hg : w.heap.size = g at *
    have HG := Lib.hid hg
    clear hg
    go_wp2_with fail
    refine (CK.out _ F1.out).mono ?_
    rintro e' w2 ⟨rfl, f2⟩
    have B2 := Lib.hid (B1.out.fr f2 (fun x => x))
    have F2 := Lib.hid (F1.out.trans f2)
    clear f2 B1 F1
    obtain ⟨k0, k1, k2, k3⟩ := img_cells B2.out (Fr.refl _ _)
    go_wp2_with fail
    refine (CL.out _).mono ?_
    rintro e' w3 ⟨rfl, f3⟩
    have B3 := Lib.hid (B2.out.fr f3 (fun x => x))
    have F3 := Lib.hid (F2.out.trans f3)
    clear k0 k1 k2 k3 f3 B2 F2
    go_wp2_with fail
    refine (CK.out _ F3.out).mono ?_
    rintro e' w4 ⟨rfl, f4⟩
    have F4 := Lib.hid (F3.out.trans f4)
    clear f4
    go_wp2
    go_ret
    exact ⟨rfl, F4.out⟩
  rw [hlo] at CL
  by_cases hm : 100 < more.size
  · have t1 : decide ((100 : Int) < (more.size : Int)) = true := decide_eq_true (by omega)
    clear hT
    go_enter Tryd.func8, Tryd.ntmps8
    go_wp2_with (refine wpList_boxBlk rfl 23 (.tmp 0) rfl _ rfl ?_)
    intro w1 n1
    have B1 : Hid (Blk w1 w.heap.size 23 (imgC c d z e)) := n1.blk
    have F1 := Lib.hid n1.fr
    clear n1
    generalize hg : w.heap.size = g at *
    have HG := Lib.hid hg
    clear hg
    go_wp2_with fail
    refine (CK.out _ F1.out).mono ?_
    rintro e' w2 ⟨rfl, f2⟩
    have B2 := Lib.hid (B1.out.fr f2 (fun x => x))
    have F2 := Lib.hid (F1.out.trans f2)
    clear f2 B1 F1
    obtain ⟨k0, k1, k2, k3⟩ := img_cells B2.out (Fr.refl _ _)
    go_wp2_with fail
    refine (CL.out _).mono ?_
    rintro e' w3 ⟨rfl, f3⟩
    have B3 := Lib.hid (B2.out.fr f3 (fun x => x))
    have F3 := Lib.hid (F2.out.trans f3)
    clear k0 k1 k2 k3 f3 B2 F2
    go_wp2_with fail
    refine (CK.out _ F3.out).mono ?_
    rintro e' w4 ⟨rfl, f4⟩
    have F4 := Lib.hid (F3.out.trans f4)
    clear f4
    go_wp2
    go_ret
    exact ⟨rfl, F4.out⟩
  have t1 : decide ((100 : Int) < (more.size : Int)) = false := decide_eq_false (by omega)
  have CT := Lib.hid (fun w => To_any c d z e w)
  have CE := Lib.hid (fun w' (hf : Fr Nothing w w') => Encode_any c d z e w' (by omega) (by omega) hz he (hT.fr0 hf))
  have hcr := checkI_range c.size d.size z e
  by_cases hkn : checkI c.size d.size z e ≠ 0
  · have t2 : (checkI c.size d.size z e != 0) = true := by rw [bne_iff_ne]; exact hkn
    generalize (⟨(encV (strL c) (strL d) z e).toArray⟩ : ByteArray) = E at *
    generalize checkI c.size d.size z e = k at *
    clear hT
    go_enter Tryd.func8, Tryd.ntmps8
    go_wp2_with (refine wpList_boxBlk rfl 23 (.tmp 0) rfl _ rfl ?_)
    intro w1 n1
    have B1 : Hid (Blk w1 w.heap.size 23 (imgC c d z e)) := n1.blk
    have F1 := Lib.hid n1.fr
    clear n1
    generalize hg : w.heap.size = g at *
    have HG := Lib.hid hg
    clear hg
    go_wp2_with fail
    refine (CK.out _ F1.out).mono ?_
    rintro e' w2 ⟨rfl, f2⟩
    have B2 := Lib.hid (B1.out.fr f2 (fun x => x))
    have F2 := Lib.hid (F1.out.trans f2)
    clear f2 B1 F1
    obtain ⟨k0, k1, k2, k3⟩ := img_cells B2.out (Fr.refl _ _)
    go_wp2_with fail
    refine (CL.out _).mono ?_
    rintro e' w3 ⟨rfl, f3⟩
    have B3 := Lib.hid (B2.out.fr f3 (fun x => x))
    have F3 := Lib.hid (F2.out.trans f3)
    clear k0 k1 k2 k3 f3 B2 F2
    obtain ⟨k0, k1, k2, k3⟩ := img_cells B3.out (Fr.refl _ _)
    go_wp2_with fail
    refine (CT.out _).mono ?_
    rintro e'' w4 ⟨rfl, f4⟩
    have B4 := Lib.hid (B3.out.fr f4 (fun x => x))
    have F4 := Lib.hid (F3.out.trans f4)
    clear f4 B3 F3 k0 k1 k2 k3
    go_wp2_with fail
    refine (CE.out _ F4.out).mono ?_
    rintro e'' w5 ⟨rfl, f5⟩
    have B5 := Lib.hid (B4.out.fr f5 (fun x => x))
    have F5 := Lib.hid (F4.out.trans f5)
    clear f5 B4 F4
    go_wp2
    go_ret
    exact ⟨rfl, F5.out⟩
  have hk : checkI c.size d.size z e = 0 := by omega
  have hok := checkI_ok hk
  obtain ⟨z', rfl⟩ : ∃ z' : Nat, z = z' := ⟨z.toNat, by omega⟩
  obtain ⟨e', rfl⟩ : ∃ e' : Nat, e = e' := ⟨e.toNat, by omega⟩
  have hEV : encV (strL c) (strL d) z' e' = encL (strL c) (strL d) z' e' := by
    unfold encV
    rw [strL_length, strL_length, if_pos hk, Int.toNat_natCast, Int.toNat_natCast]
  have hfit := midL_fits (strL c) (strL d) z' e' (by rw [strL_length, strL_length]; exact hk)
  have hlen := encL_length (strL c) (strL d) z' e'
  rw [hEV] at CE
  obtain ⟨E, hE⟩ : ∃ E : ByteArray, E = ⟨(encL (strL c) (strL d) z' e').toArray⟩ := ⟨_, rfl⟩
  rw [← hE, hk] at CE
  have hEL : strL E = encL (strL c) (strL d) z' e' := by rw [hE, strL_mk]
  have hEs : 12 ≤ E.size ∧ E.size ≤ 4200 := by rw [← strL_length, hEL]; omega
  obtain ⟨qn, hqn⟩ : ∃ qn : Nat, min (E.size : Int) n = (qn : Int) := ⟨(min (E.size : Int) n).toNat, by omega⟩
  obtain ⟨k, hkk⟩ : ∃ k : Nat, (E.size : Int) - (qn : Int) = (k : Int) := ⟨((E.size : Int) - (qn : Int)).toNat, by omega⟩
  have gq : qn ≤ 255 := by omega
  have hk2 : k ≤ E.size := by omega
  have D1 := Lib.hid (fun w' (hf : Fr Nothing w w') => Decode_any (E ++ more) w' (by simp; omega) (hT.fr0 hf))
  have D2 := Lib.hid (fun w' (hf : Fr Nothing w w') => Decode_any (E.extract 0 k) w' (by simp; omega) (hT.fr0 hf))
  have hM : more.toList.isEmpty = decide (more.size = 0) := bytes_empty more
  have s1 : strL (E ++ more) = encL (strL c) (strL d) z' e' ↔ more.size = 0 := by
    rw [strL_append, hEL, ← strL_length more]
    constructor
    · intro h
      have := congrArg List.length h
      rw [List.length_append] at this
      omega
    · intro h
      rw [List.eq_nil_of_length_eq_zero h, List.append_nil]
  have s2 : strL (E.extract 0 k) = encL (strL c) (strL d) z' e' ↔ n = 0 := by
    rw [strL_extract, ← hEL, List.drop_zero]
    constructor
    · intro h
      have := congrArg List.length h
      rw [List.length_take, strL_length] at this
      omega
    · intro h
      rw [List.take_of_length_le (by rw [strL_length]; omega)]
  have p1 := decV_same c d z' e' hk (strL (E ++ more))
  have p2 := decV_same c d z' e' hk (strL (E.extract 0 k))
  obtain ⟨c1, d1, z1, e1, f1, hr1⟩ : ∃ c1 d1 z1 e1 f1, retI (decV (strL (E ++ more))) = .tuple #[imgV c1 d1 z1 e1, .int .i64 f1] := ⟨_, _, _, _, _, rfl⟩
  obtain ⟨c2, d2, z2, e2, f2, hr2⟩ : ∃ c2 d2 z2 e2 f2, retI (decV (strL (E.extract 0 k))) = .tuple #[imgV c2 d2 z2 e2, .int .i64 f2] := ⟨_, _, _, _, _, rfl⟩
  have p1 := p1 c1 d1 z1 e1 f1 hr1
  have p2 := p2 c2 d2 z2 e2 f2 hr2
  rw [hr1] at D1
  rw [hr2] at D2
  have Q1 : Hid (∀ w, (binOp .eql 27 (imgV c1 d1 z1 e1) (imgV c d z' e')).run Tryd.prog w = .ok (.bool (decide (c1 = c ∧ d1 = d ∧ z1 = (z' : Int) ∧ e1 = (e' : Int)))) w) := fun w => run_eqI _ _ _ _ _ _ _ _ w
  have Q2 : Hid (∀ w, (binOp .eql 27 (imgV c2 d2 z2 e2) (imgV c d z' e')).run Tryd.prog w = .ok (.bool (decide (c2 = c ∧ d2 = d ∧ z2 = (z' : Int) ∧ e2 = (e' : Int)))) w) := fun w => run_eqI _ _ _ _ _ _ _ _ w
  have x1 : (f1 = 0 → decide (c1 = c ∧ d1 = d ∧ z1 = (z' : Int) ∧ e1 = (e' : Int)) = decide (more.size = 0)) ∧ (f1 ≠ 0 → decide (more.size = 0) = false) := by
    refine ⟨fun h => (p1.1 h).trans (decide_eq_decide.2 s1), fun h => decide_eq_false (fun hm => p1.2 h (s1.2 hm))⟩
  have x2 : (f2 = 0 → decide (c2 = c ∧ d2 = d ∧ z2 = (z' : Int) ∧ e2 = (e' : Int)) = decide (n = 0)) ∧ (f2 ≠ 0 → decide (n = 0) = false) := by
    refine ⟨fun h => (p2.1 h).trans (decide_eq_decide.2 s2), fun h => decide_eq_false (fun hm => p2.2 h (s2.2 hm))⟩
  have hN : (n == 0) = decide (n = 0) := by rw [Bool.eq_iff_iff]; simp
  rw [← hM] at x1
  rw [← hN] at x2
  have cn : IntKind.i64.wrap n = n := IntWalk.i64_in _ (by omega)
  have gk : k ≤ 4200 := by omega
  have gE : E.size ≤ 4200 := hEs.2
  have gm : more.size ≤ 100 := by omega
  clear hT hE hEL hEV hfit hlen hM hN s1 s2 p1 p2 hr1 hr2 hk hok hcr hkn
  generalize decide (c1 = c ∧ d1 = d ∧ z1 = (z' : Int) ∧ e1 = (e' : Int)) = X1 at *
  generalize decide (c2 = c ∧ d2 = d ∧ z2 = (z' : Int) ∧ e2 = (e' : Int)) = X2 at *
  generalize hMM : more.toList.isEmpty = M at *
  generalize hNN : (n == 0) = N at *
  by_cases hf1 : f1 = 0
  · have u1 : (f1 == 0) = true := by rw [beq_iff_eq]; exact hf1
    have y1 : (X1 == M) = true := by rw [x1.1 hf1]; simp
    by_cases hf2 : f2 = 0
    · have u2 : (f2 == 0) = true := by rw [beq_iff_eq]; exact hf2
      have y2 : (X2 == N) = true := by rw [x2.1 hf2]; simp
      clear x1 x2 hf1 hf2
      go_enter Tryd.func8, Tryd.ntmps8
      go_wp2_with (refine wpList_boxBlk rfl 23 (.tmp 0) rfl _ rfl ?_)
      intro w1 n1
      have B1 : Hid (Blk w1 w.heap.size 23 (imgC c d z' e')) := n1.blk
      have F1 := Lib.hid n1.fr
      clear n1
      generalize hg : w.heap.size = g at *
      have HG := Lib.hid hg
      clear hg
      go_wp2_with fail
      refine (CK.out _ F1.out).mono ?_
      rintro e' w2 ⟨rfl, f2⟩
      have B2 := Lib.hid (B1.out.fr f2 (fun x => x))
      have F2 := Lib.hid (F1.out.trans f2)
      clear f2 B1 F1
      obtain ⟨k0, k1, k2, k3⟩ := img_cells B2.out (Fr.refl _ _)
      go_wp2_with fail
      refine (CL.out _).mono ?_
      rintro e' w3 ⟨rfl, f3⟩
      have B3 := Lib.hid (B2.out.fr f3 (fun x => x))
      have F3 := Lib.hid (F2.out.trans f3)
      clear k0 k1 k2 k3 f3 B2 F2
      obtain ⟨k0, k1, k2, k3⟩ := img_cells B3.out (Fr.refl _ _)
      go_wp2_with fail
      refine (CT.out _).mono ?_
      rintro e'' w4 ⟨rfl, f4⟩
      have B4 := Lib.hid (B3.out.fr f4 (fun x => x))
      have F4 := Lib.hid (F3.out.trans f4)
      clear f4 B3 F3 k0 k1 k2 k3
      go_wp2_with fail
      refine (CE.out _ F4.out).mono ?_
      rintro e'' w5 ⟨rfl, f5⟩
      have B5 := Lib.hid (B4.out.fr f5 (fun x => x))
      have F5 := Lib.hid (F4.out.trans f5)
      clear f5 B4 F4
      go_wp2_with fail
      refine (D1.out _ F5.out).mono ?_
      rintro e'' w6 ⟨rfl, fx⟩
      have B6 := Lib.hid (B5.out.fr fx (fun x => x))
      have F6 := Lib.hid (F5.out.trans fx)
      have Z6 : Hid (g < w6.heap.size) := B6.out.lt
      clear fx B5 F5 
      go_wp2_with (refine wpList_allocBlk rfl 27 rfl (.agg zeroImg) zvI zeroImg rfl ?_)
      intro w7 nx
      have B7 := Lib.hid (B6.out.fr nx.fr (fun x => x))
      have F7 := Lib.hid (F6.out.trans nx.fr)
      have G7 := Lib.hid nx.blk
      clear nx B6 F6 
      generalize w6.heap.size = g9 at *
      go_wp2_with (refine wpList_storeBlk rfl 27 (.tmp 9) _ rfl g9 (imgC c1 d1 z1 e1) rfl rfl _ _ G7.out (infoI _ _ _ _) rfl (img_one _ _ _ _) ?_)
      intro w8 bx fx
      have B8 := Lib.hid (B7.out.fr fx (fun e => by have e' : g = g9 := e; have := Z6.out; omega))
      have F8 : Hid (Fr Nothing w w8) := F7.out.then_ fx (fun i hi e => by have e' : i = g9 := e; have := Z6.out; have := HG.out; omega)
      have G8 := Lib.hid bx
      clear bx fx B7 F7 G7 
      go_wp2_with fail
      refine (D2.out _ F8.out).mono ?_
      rintro e'' w9 ⟨rfl, fx⟩
      have B9 := Lib.hid (B8.out.fr fx (fun x => x))
      have F9 := Lib.hid (F8.out.trans fx)
      have G9 := Lib.hid (G8.out.fr fx (fun x => x))
      have Z9 : Hid (g < w9.heap.size) := B9.out.lt
      have ZP9 : Hid (g9 < w9.heap.size) := G9.out.lt
      clear fx B8 F8 G8
      go_wp2_with (refine wpList_allocBlk rfl 27 rfl (.agg zeroImg) zvI zeroImg rfl ?_)
      intro w10 nx
      have B10 := Lib.hid (B9.out.fr nx.fr (fun x => x))
      have F10 := Lib.hid (F9.out.trans nx.fr)
      have H10 := Lib.hid nx.blk
      have G10 := Lib.hid (G9.out.fr nx.fr (fun x => x))
      clear nx B9 F9 G9
      generalize w9.heap.size = g11 at *
      go_wp2_with (refine wpList_storeBlk rfl 27 (.tmp 11) _ rfl g11 (imgC c2 d2 z2 e2) rfl rfl _ _ H10.out (infoI _ _ _ _) rfl (img_one _ _ _ _) ?_)
      intro w11 bx fx
      have B11 := Lib.hid (B10.out.fr fx (fun e => by have e' : g = g11 := e; have := Z9.out; omega))
      have F11 : Hid (Fr Nothing w w11) := F10.out.then_ fx (fun i hi e => by have e' : i = g11 := e; have := Z9.out; have := HG.out; omega)
      have H11 := Lib.hid bx
      have G11 := Lib.hid (G10.out.fr fx (fun e => by have e' : g9 = g11 := e; have := ZP9.out; omega))
      clear bx fx B10 F10 H10 G10
      go_wp2
      have q0 : ∀ y : In (Later w11), y.w.cell? ⟨g, 0, none⟩ = some (.string c) := fun y => (img_cells B11.out y.h).1
      have q1 : ∀ y : In (Later w11), y.w.cell? ⟨g, 1, none⟩ = some (.string d) := fun y => (img_cells B11.out y.h).2.1
      have q2 : ∀ y : In (Later w11), y.w.cell? ⟨g, 2, none⟩ = some (.int .i64 z') := fun y => (img_cells B11.out y.h).2.2.1
      have q3 : ∀ y : In (Later w11), y.w.cell? ⟨g, 3, none⟩ = some (.int .i64 e') := fun y => (img_cells B11.out y.h).2.2.2
      have q4 : ∀ y : In (Later w11), y.w.cell? ⟨g9, 0, none⟩ = some (.string c1) := fun y => (img_cells G11.out y.h).1
      have q5 : ∀ y : In (Later w11), y.w.cell? ⟨g9, 1, none⟩ = some (.string d1) := fun y => (img_cells G11.out y.h).2.1
      have q6 : ∀ y : In (Later w11), y.w.cell? ⟨g9, 2, none⟩ = some (.int .i64 z1) := fun y => (img_cells G11.out y.h).2.2.1
      have q7 : ∀ y : In (Later w11), y.w.cell? ⟨g9, 3, none⟩ = some (.int .i64 e1) := fun y => (img_cells G11.out y.h).2.2.2
      have q8 : ∀ y : In (Later w11), y.w.cell? ⟨g11, 0, none⟩ = some (.string c2) := fun y => (img_cells H11.out y.h).1
      have q9 : ∀ y : In (Later w11), y.w.cell? ⟨g11, 1, none⟩ = some (.string d2) := fun y => (img_cells H11.out y.h).2.1
      have q10 : ∀ y : In (Later w11), y.w.cell? ⟨g11, 2, none⟩ = some (.int .i64 z2) := fun y => (img_cells H11.out y.h).2.2.1
      have q11 : ∀ y : In (Later w11), y.w.cell? ⟨g11, 3, none⟩ = some (.int .i64 e2) := fun y => (img_cells H11.out y.h).2.2.2
      have qa := Q1.out
      have qb := Q2.out
      refine wp_region_in (Later w11) ((Fr.refl _ _).drew) (by kernel_rfl) (by kernel_rfl) ?_
      repeat (go_big_quiet_step (first | (go_at_call 13; exact In.later (CT.out _))))
      refine wpQuiet_nil ?_
      rintro _ ⟨y, rfl⟩
      have FY := Lib.hid (F11.out.trans y.h)
      generalize y.w = w12 at *
      clear q0 q1 q2 q3 q4 q5 q6 q7 q8 q9 q10 q11 y qa qb
      go_wp2
      go_ret
      exact ⟨rfl, FY.out⟩
    · have u2 : (f2 == 0) = false := by rw [beq_eq_false_iff_ne]; exact hf2
      obtain rfl := x2.2 hf2
      clear x1 x2 hf1 hf2
      go_enter Tryd.func8, Tryd.ntmps8
      go_wp2_with (refine wpList_boxBlk rfl 23 (.tmp 0) rfl _ rfl ?_)
      intro w1 n1
      have B1 : Hid (Blk w1 w.heap.size 23 (imgC c d z' e')) := n1.blk
      have F1 := Lib.hid n1.fr
      clear n1
      generalize hg : w.heap.size = g at *
      have HG := Lib.hid hg
      clear hg
      go_wp2_with fail
      refine (CK.out _ F1.out).mono ?_
      rintro e' w2 ⟨rfl, f2⟩
      have B2 := Lib.hid (B1.out.fr f2 (fun x => x))
      have F2 := Lib.hid (F1.out.trans f2)
      clear f2 B1 F1
      obtain ⟨k0, k1, k2, k3⟩ := img_cells B2.out (Fr.refl _ _)
      go_wp2_with fail
      refine (CL.out _).mono ?_
      rintro e' w3 ⟨rfl, f3⟩
      have B3 := Lib.hid (B2.out.fr f3 (fun x => x))
      have F3 := Lib.hid (F2.out.trans f3)
      clear k0 k1 k2 k3 f3 B2 F2
      obtain ⟨k0, k1, k2, k3⟩ := img_cells B3.out (Fr.refl _ _)
      go_wp2_with fail
      refine (CT.out _).mono ?_
      rintro e'' w4 ⟨rfl, f4⟩
      have B4 := Lib.hid (B3.out.fr f4 (fun x => x))
      have F4 := Lib.hid (F3.out.trans f4)
      clear f4 B3 F3 k0 k1 k2 k3
      go_wp2_with fail
      refine (CE.out _ F4.out).mono ?_
      rintro e'' w5 ⟨rfl, f5⟩
      have B5 := Lib.hid (B4.out.fr f5 (fun x => x))
      have F5 := Lib.hid (F4.out.trans f5)
      clear f5 B4 F4
      go_wp2_with fail
      refine (D1.out _ F5.out).mono ?_
      rintro e'' w6 ⟨rfl, fx⟩
      have B6 := Lib.hid (B5.out.fr fx (fun x => x))
      have F6 := Lib.hid (F5.out.trans fx)
      have Z6 : Hid (g < w6.heap.size) := B6.out.lt
      clear fx B5 F5 
      go_wp2_with (refine wpList_allocBlk rfl 27 rfl (.agg zeroImg) zvI zeroImg rfl ?_)
      intro w7 nx
      have B7 := Lib.hid (B6.out.fr nx.fr (fun x => x))
      have F7 := Lib.hid (F6.out.trans nx.fr)
      have G7 := Lib.hid nx.blk
      clear nx B6 F6 
      generalize w6.heap.size = g9 at *
      go_wp2_with (refine wpList_storeBlk rfl 27 (.tmp 9) _ rfl g9 (imgC c1 d1 z1 e1) rfl rfl _ _ G7.out (infoI _ _ _ _) rfl (img_one _ _ _ _) ?_)
      intro w8 bx fx
      have B8 := Lib.hid (B7.out.fr fx (fun e => by have e' : g = g9 := e; have := Z6.out; omega))
      have F8 : Hid (Fr Nothing w w8) := F7.out.then_ fx (fun i hi e => by have e' : i = g9 := e; have := Z6.out; have := HG.out; omega)
      have G8 := Lib.hid bx
      clear bx fx B7 F7 G7 
      go_wp2_with fail
      refine (D2.out _ F8.out).mono ?_
      rintro e'' w9 ⟨rfl, fx⟩
      have B9 := Lib.hid (B8.out.fr fx (fun x => x))
      have F9 := Lib.hid (F8.out.trans fx)
      have G9 := Lib.hid (G8.out.fr fx (fun x => x))
      have Z9 : Hid (g < w9.heap.size) := B9.out.lt
      have ZP9 : Hid (g9 < w9.heap.size) := G9.out.lt
      clear fx B8 F8 G8
      go_wp2_with (refine wpList_allocBlk rfl 27 rfl (.agg zeroImg) zvI zeroImg rfl ?_)
      intro w10 nx
      have B10 := Lib.hid (B9.out.fr nx.fr (fun x => x))
      have F10 := Lib.hid (F9.out.trans nx.fr)
      have H10 := Lib.hid nx.blk
      have G10 := Lib.hid (G9.out.fr nx.fr (fun x => x))
      clear nx B9 F9 G9
      generalize w9.heap.size = g11 at *
      go_wp2_with (refine wpList_storeBlk rfl 27 (.tmp 11) _ rfl g11 (imgC c2 d2 z2 e2) rfl rfl _ _ H10.out (infoI _ _ _ _) rfl (img_one _ _ _ _) ?_)
      intro w11 bx fx
      have B11 := Lib.hid (B10.out.fr fx (fun e => by have e' : g = g11 := e; have := Z9.out; omega))
      have F11 : Hid (Fr Nothing w w11) := F10.out.then_ fx (fun i hi e => by have e' : i = g11 := e; have := Z9.out; have := HG.out; omega)
      have H11 := Lib.hid bx
      have G11 := Lib.hid (G10.out.fr fx (fun e => by have e' : g9 = g11 := e; have := ZP9.out; omega))
      clear bx fx B10 F10 H10 G10
      go_wp2
      have q0 : ∀ y : In (Later w11), y.w.cell? ⟨g, 0, none⟩ = some (.string c) := fun y => (img_cells B11.out y.h).1
      have q1 : ∀ y : In (Later w11), y.w.cell? ⟨g, 1, none⟩ = some (.string d) := fun y => (img_cells B11.out y.h).2.1
      have q2 : ∀ y : In (Later w11), y.w.cell? ⟨g, 2, none⟩ = some (.int .i64 z') := fun y => (img_cells B11.out y.h).2.2.1
      have q3 : ∀ y : In (Later w11), y.w.cell? ⟨g, 3, none⟩ = some (.int .i64 e') := fun y => (img_cells B11.out y.h).2.2.2
      have q4 : ∀ y : In (Later w11), y.w.cell? ⟨g9, 0, none⟩ = some (.string c1) := fun y => (img_cells G11.out y.h).1
      have q5 : ∀ y : In (Later w11), y.w.cell? ⟨g9, 1, none⟩ = some (.string d1) := fun y => (img_cells G11.out y.h).2.1
      have q6 : ∀ y : In (Later w11), y.w.cell? ⟨g9, 2, none⟩ = some (.int .i64 z1) := fun y => (img_cells G11.out y.h).2.2.1
      have q7 : ∀ y : In (Later w11), y.w.cell? ⟨g9, 3, none⟩ = some (.int .i64 e1) := fun y => (img_cells G11.out y.h).2.2.2
      have q8 : ∀ y : In (Later w11), y.w.cell? ⟨g11, 0, none⟩ = some (.string c2) := fun y => (img_cells H11.out y.h).1
      have q9 : ∀ y : In (Later w11), y.w.cell? ⟨g11, 1, none⟩ = some (.string d2) := fun y => (img_cells H11.out y.h).2.1
      have q10 : ∀ y : In (Later w11), y.w.cell? ⟨g11, 2, none⟩ = some (.int .i64 z2) := fun y => (img_cells H11.out y.h).2.2.1
      have q11 : ∀ y : In (Later w11), y.w.cell? ⟨g11, 3, none⟩ = some (.int .i64 e2) := fun y => (img_cells H11.out y.h).2.2.2
      have qa := Q1.out
      have qb := Q2.out
      refine wp_region_in (Later w11) ((Fr.refl _ _).drew) (by kernel_rfl) (by kernel_rfl) ?_
      repeat (go_big_quiet_step (first | (go_at_call 13; exact In.later (CT.out _))))
      refine wpQuiet_nil ?_
      rintro _ ⟨y, rfl⟩
      have FY := Lib.hid (F11.out.trans y.h)
      generalize y.w = w12 at *
      clear q0 q1 q2 q3 q4 q5 q6 q7 q8 q9 q10 q11 y qa qb
      go_wp2
      go_ret
      exact ⟨rfl, FY.out⟩
  · have u1 : (f1 == 0) = false := by rw [beq_eq_false_iff_ne]; exact hf1
    obtain rfl := x1.2 hf1
    by_cases hf2 : f2 = 0
    · have u2 : (f2 == 0) = true := by rw [beq_iff_eq]; exact hf2
      have y2 : (X2 == N) = true := by rw [x2.1 hf2]; simp
      clear x1 x2 hf1 hf2
      go_enter Tryd.func8, Tryd.ntmps8
      go_wp2_with (refine wpList_boxBlk rfl 23 (.tmp 0) rfl _ rfl ?_)
      intro w1 n1
      have B1 : Hid (Blk w1 w.heap.size 23 (imgC c d z' e')) := n1.blk
      have F1 := Lib.hid n1.fr
      clear n1
      generalize hg : w.heap.size = g at *
      have HG := Lib.hid hg
      clear hg
      go_wp2_with fail
      refine (CK.out _ F1.out).mono ?_
      rintro e' w2 ⟨rfl, f2⟩
      have B2 := Lib.hid (B1.out.fr f2 (fun x => x))
      have F2 := Lib.hid (F1.out.trans f2)
      clear f2 B1 F1
      obtain ⟨k0, k1, k2, k3⟩ := img_cells B2.out (Fr.refl _ _)
      go_wp2_with fail
      refine (CL.out _).mono ?_
      rintro e' w3 ⟨rfl, f3⟩
      have B3 := Lib.hid (B2.out.fr f3 (fun x => x))
      have F3 := Lib.hid (F2.out.trans f3)
      clear k0 k1 k2 k3 f3 B2 F2
      obtain ⟨k0, k1, k2, k3⟩ := img_cells B3.out (Fr.refl _ _)
      go_wp2_with fail
      refine (CT.out _).mono ?_
      rintro e'' w4 ⟨rfl, f4⟩
      have B4 := Lib.hid (B3.out.fr f4 (fun x => x))
      have F4 := Lib.hid (F3.out.trans f4)
      clear f4 B3 F3 k0 k1 k2 k3
      go_wp2_with fail
      refine (CE.out _ F4.out).mono ?_
      rintro e'' w5 ⟨rfl, f5⟩
      have B5 := Lib.hid (B4.out.fr f5 (fun x => x))
      have F5 := Lib.hid (F4.out.trans f5)
      clear f5 B4 F4
      go_wp2_with fail
      refine (D1.out _ F5.out).mono ?_
      rintro e'' w6 ⟨rfl, fx⟩
      have B6 := Lib.hid (B5.out.fr fx (fun x => x))
      have F6 := Lib.hid (F5.out.trans fx)
      have Z6 : Hid (g < w6.heap.size) := B6.out.lt
      clear fx B5 F5 
      go_wp2_with (refine wpList_allocBlk rfl 27 rfl (.agg zeroImg) zvI zeroImg rfl ?_)
      intro w7 nx
      have B7 := Lib.hid (B6.out.fr nx.fr (fun x => x))
      have F7 := Lib.hid (F6.out.trans nx.fr)
      have G7 := Lib.hid nx.blk
      clear nx B6 F6 
      generalize w6.heap.size = g9 at *
      go_wp2_with (refine wpList_storeBlk rfl 27 (.tmp 9) _ rfl g9 (imgC c1 d1 z1 e1) rfl rfl _ _ G7.out (infoI _ _ _ _) rfl (img_one _ _ _ _) ?_)
      intro w8 bx fx
      have B8 := Lib.hid (B7.out.fr fx (fun e => by have e' : g = g9 := e; have := Z6.out; omega))
      have F8 : Hid (Fr Nothing w w8) := F7.out.then_ fx (fun i hi e => by have e' : i = g9 := e; have := Z6.out; have := HG.out; omega)
      have G8 := Lib.hid bx
      clear bx fx B7 F7 G7 
      go_wp2_with fail
      refine (D2.out _ F8.out).mono ?_
      rintro e'' w9 ⟨rfl, fx⟩
      have B9 := Lib.hid (B8.out.fr fx (fun x => x))
      have F9 := Lib.hid (F8.out.trans fx)
      have G9 := Lib.hid (G8.out.fr fx (fun x => x))
      have Z9 : Hid (g < w9.heap.size) := B9.out.lt
      have ZP9 : Hid (g9 < w9.heap.size) := G9.out.lt
      clear fx B8 F8 G8
      go_wp2_with (refine wpList_allocBlk rfl 27 rfl (.agg zeroImg) zvI zeroImg rfl ?_)
      intro w10 nx
      have B10 := Lib.hid (B9.out.fr nx.fr (fun x => x))
      have F10 := Lib.hid (F9.out.trans nx.fr)
      have H10 := Lib.hid nx.blk
      have G10 := Lib.hid (G9.out.fr nx.fr (fun x => x))
      clear nx B9 F9 G9
      generalize w9.heap.size = g11 at *
      go_wp2_with (refine wpList_storeBlk rfl 27 (.tmp 11) _ rfl g11 (imgC c2 d2 z2 e2) rfl rfl _ _ H10.out (infoI _ _ _ _) rfl (img_one _ _ _ _) ?_)
      intro w11 bx fx
      have B11 := Lib.hid (B10.out.fr fx (fun e => by have e' : g = g11 := e; have := Z9.out; omega))
      have F11 : Hid (Fr Nothing w w11) := F10.out.then_ fx (fun i hi e => by have e' : i = g11 := e; have := Z9.out; have := HG.out; omega)
      have H11 := Lib.hid bx
      have G11 := Lib.hid (G10.out.fr fx (fun e => by have e' : g9 = g11 := e; have := ZP9.out; omega))
      clear bx fx B10 F10 H10 G10
      go_wp2
      have q0 : ∀ y : In (Later w11), y.w.cell? ⟨g, 0, none⟩ = some (.string c) := fun y => (img_cells B11.out y.h).1
      have q1 : ∀ y : In (Later w11), y.w.cell? ⟨g, 1, none⟩ = some (.string d) := fun y => (img_cells B11.out y.h).2.1
      have q2 : ∀ y : In (Later w11), y.w.cell? ⟨g, 2, none⟩ = some (.int .i64 z') := fun y => (img_cells B11.out y.h).2.2.1
      have q3 : ∀ y : In (Later w11), y.w.cell? ⟨g, 3, none⟩ = some (.int .i64 e') := fun y => (img_cells B11.out y.h).2.2.2
      have q4 : ∀ y : In (Later w11), y.w.cell? ⟨g9, 0, none⟩ = some (.string c1) := fun y => (img_cells G11.out y.h).1
      have q5 : ∀ y : In (Later w11), y.w.cell? ⟨g9, 1, none⟩ = some (.string d1) := fun y => (img_cells G11.out y.h).2.1
      have q6 : ∀ y : In (Later w11), y.w.cell? ⟨g9, 2, none⟩ = some (.int .i64 z1) := fun y => (img_cells G11.out y.h).2.2.1
      have q7 : ∀ y : In (Later w11), y.w.cell? ⟨g9, 3, none⟩ = some (.int .i64 e1) := fun y => (img_cells G11.out y.h).2.2.2
      have q8 : ∀ y : In (Later w11), y.w.cell? ⟨g11, 0, none⟩ = some (.string c2) := fun y => (img_cells H11.out y.h).1
      have q9 : ∀ y : In (Later w11), y.w.cell? ⟨g11, 1, none⟩ = some (.string d2) := fun y => (img_cells H11.out y.h).2.1
      have q10 : ∀ y : In (Later w11), y.w.cell? ⟨g11, 2, none⟩ = some (.int .i64 z2) := fun y => (img_cells H11.out y.h).2.2.1
      have q11 : ∀ y : In (Later w11), y.w.cell? ⟨g11, 3, none⟩ = some (.int .i64 e2) := fun y => (img_cells H11.out y.h).2.2.2
      have qa := Q1.out
      have qb := Q2.out
      refine wp_region_in (Later w11) ((Fr.refl _ _).drew) (by kernel_rfl) (by kernel_rfl) ?_
      repeat (go_big_quiet_step (first | (go_at_call 13; exact In.later (CT.out _))))
      refine wpQuiet_nil ?_
      rintro _ ⟨y, rfl⟩
      have FY := Lib.hid (F11.out.trans y.h)
      generalize y.w = w12 at *
      clear q0 q1 q2 q3 q4 q5 q6 q7 q8 q9 q10 q11 y qa qb
      go_wp2
      go_ret
      exact ⟨rfl, FY.out⟩
    · have u2 : (f2 == 0) = false := by rw [beq_eq_false_iff_ne]; exact hf2
      obtain rfl := x2.2 hf2
      clear x1 x2 hf1 hf2
      go_enter Tryd.func8, Tryd.ntmps8
      go_wp2_with (refine wpList_boxBlk rfl 23 (.tmp 0) rfl _ rfl ?_)
      intro w1 n1
      have B1 : Hid (Blk w1 w.heap.size 23 (imgC c d z' e')) := n1.blk
      have F1 := Lib.hid n1.fr
      clear n1
      generalize hg : w.heap.size = g at *
      have HG := Lib.hid hg
      clear hg
      go_wp2_with fail
      refine (CK.out _ F1.out).mono ?_
      rintro e' w2 ⟨rfl, f2⟩
      have B2 := Lib.hid (B1.out.fr f2 (fun x => x))
      have F2 := Lib.hid (F1.out.trans f2)
      clear f2 B1 F1
      obtain ⟨k0, k1, k2, k3⟩ := img_cells B2.out (Fr.refl _ _)
      go_wp2_with fail
      refine (CL.out _).mono ?_
      rintro e' w3 ⟨rfl, f3⟩
      have B3 := Lib.hid (B2.out.fr f3 (fun x => x))
      have F3 := Lib.hid (F2.out.trans f3)
      clear k0 k1 k2 k3 f3 B2 F2
      obtain ⟨k0, k1, k2, k3⟩ := img_cells B3.out (Fr.refl _ _)
      go_wp2_with fail
      refine (CT.out _).mono ?_
      rintro e'' w4 ⟨rfl, f4⟩
      have B4 := Lib.hid (B3.out.fr f4 (fun x => x))
      have F4 := Lib.hid (F3.out.trans f4)
      clear f4 B3 F3 k0 k1 k2 k3
      go_wp2_with fail
      refine (CE.out _ F4.out).mono ?_
      rintro e'' w5 ⟨rfl, f5⟩
      have B5 := Lib.hid (B4.out.fr f5 (fun x => x))
      have F5 := Lib.hid (F4.out.trans f5)
      clear f5 B4 F4
      go_wp2_with fail
      refine (D1.out _ F5.out).mono ?_
      rintro e'' w6 ⟨rfl, fx⟩
      have B6 := Lib.hid (B5.out.fr fx (fun x => x))
      have F6 := Lib.hid (F5.out.trans fx)
      have Z6 : Hid (g < w6.heap.size) := B6.out.lt
      clear fx B5 F5 
      go_wp2_with (refine wpList_allocBlk rfl 27 rfl (.agg zeroImg) zvI zeroImg rfl ?_)
      intro w7 nx
      have B7 := Lib.hid (B6.out.fr nx.fr (fun x => x))
      have F7 := Lib.hid (F6.out.trans nx.fr)
      have G7 := Lib.hid nx.blk
      clear nx B6 F6 
      generalize w6.heap.size = g9 at *
      go_wp2_with (refine wpList_storeBlk rfl 27 (.tmp 9) _ rfl g9 (imgC c1 d1 z1 e1) rfl rfl _ _ G7.out (infoI _ _ _ _) rfl (img_one _ _ _ _) ?_)
      intro w8 bx fx
      have B8 := Lib.hid (B7.out.fr fx (fun e => by have e' : g = g9 := e; have := Z6.out; omega))
      have F8 : Hid (Fr Nothing w w8) := F7.out.then_ fx (fun i hi e => by have e' : i = g9 := e; have := Z6.out; have := HG.out; omega)
      have G8 := Lib.hid bx
      clear bx fx B7 F7 G7 
      go_wp2_with fail
      refine (D2.out _ F8.out).mono ?_
      rintro e'' w9 ⟨rfl, fx⟩
      have B9 := Lib.hid (B8.out.fr fx (fun x => x))
      have F9 := Lib.hid (F8.out.trans fx)
      have G9 := Lib.hid (G8.out.fr fx (fun x => x))
      have Z9 : Hid (g < w9.heap.size) := B9.out.lt
      have ZP9 : Hid (g9 < w9.heap.size) := G9.out.lt
      clear fx B8 F8 G8
      go_wp2_with (refine wpList_allocBlk rfl 27 rfl (.agg zeroImg) zvI zeroImg rfl ?_)
      intro w10 nx
      have B10 := Lib.hid (B9.out.fr nx.fr (fun x => x))
      have F10 := Lib.hid (F9.out.trans nx.fr)
      have H10 := Lib.hid nx.blk
      have G10 := Lib.hid (G9.out.fr nx.fr (fun x => x))
      clear nx B9 F9 G9
      generalize w9.heap.size = g11 at *
      go_wp2_with (refine wpList_storeBlk rfl 27 (.tmp 11) _ rfl g11 (imgC c2 d2 z2 e2) rfl rfl _ _ H10.out (infoI _ _ _ _) rfl (img_one _ _ _ _) ?_)
      intro w11 bx fx
      have B11 := Lib.hid (B10.out.fr fx (fun e => by have e' : g = g11 := e; have := Z9.out; omega))
      have F11 : Hid (Fr Nothing w w11) := F10.out.then_ fx (fun i hi e => by have e' : i = g11 := e; have := Z9.out; have := HG.out; omega)
      have H11 := Lib.hid bx
      have G11 := Lib.hid (G10.out.fr fx (fun e => by have e' : g9 = g11 := e; have := ZP9.out; omega))
      clear bx fx B10 F10 H10 G10
      go_wp2
      have q0 : ∀ y : In (Later w11), y.w.cell? ⟨g, 0, none⟩ = some (.string c) := fun y => (img_cells B11.out y.h).1
      have q1 : ∀ y : In (Later w11), y.w.cell? ⟨g, 1, none⟩ = some (.string d) := fun y => (img_cells B11.out y.h).2.1
      have q2 : ∀ y : In (Later w11), y.w.cell? ⟨g, 2, none⟩ = some (.int .i64 z') := fun y => (img_cells B11.out y.h).2.2.1
      have q3 : ∀ y : In (Later w11), y.w.cell? ⟨g, 3, none⟩ = some (.int .i64 e') := fun y => (img_cells B11.out y.h).2.2.2
      have q4 : ∀ y : In (Later w11), y.w.cell? ⟨g9, 0, none⟩ = some (.string c1) := fun y => (img_cells G11.out y.h).1
      have q5 : ∀ y : In (Later w11), y.w.cell? ⟨g9, 1, none⟩ = some (.string d1) := fun y => (img_cells G11.out y.h).2.1
      have q6 : ∀ y : In (Later w11), y.w.cell? ⟨g9, 2, none⟩ = some (.int .i64 z1) := fun y => (img_cells G11.out y.h).2.2.1
      have q7 : ∀ y : In (Later w11), y.w.cell? ⟨g9, 3, none⟩ = some (.int .i64 e1) := fun y => (img_cells G11.out y.h).2.2.2
      have q8 : ∀ y : In (Later w11), y.w.cell? ⟨g11, 0, none⟩ = some (.string c2) := fun y => (img_cells H11.out y.h).1
      have q9 : ∀ y : In (Later w11), y.w.cell? ⟨g11, 1, none⟩ = some (.string d2) := fun y => (img_cells H11.out y.h).2.1
      have q10 : ∀ y : In (Later w11), y.w.cell? ⟨g11, 2, none⟩ = some (.int .i64 z2) := fun y => (img_cells H11.out y.h).2.2.1
      have q11 : ∀ y : In (Later w11), y.w.cell? ⟨g11, 3, none⟩ = some (.int .i64 e2) := fun y => (img_cells H11.out y.h).2.2.2
      have qa := Q1.out
      have qb := Q2.out
      refine wp_region_in (Later w11) ((Fr.refl _ _).drew) (by kernel_rfl) (by kernel_rfl) ?_
      repeat (go_big_quiet_step (first | (go_at_call 13; exact In.later (CT.out _))))
      refine wpQuiet_nil ?_
      rintro _ ⟨y, rfl⟩
      have FY := Lib.hid (F11.out.trans y.h)
      generalize y.w = w12 at *
      clear q0 q1 q2 q3 q4 q5 q6 q7 q8 q9 q10 q11 y qa qb
      go_wp2
      go_ret
      exact ⟨rfl, FY.out⟩
end Go.Proofs.YtfdcmjjafngonaaDoor
