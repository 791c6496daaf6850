/- ImageSpoils (written by genI11.py). -/
import Derived.Test.YtfdcmjjafngonaaDoorImS
namespace Go.Proofs.YtfdcmjjafngonaaDoor
open Go.RowKit

theorem wp_allocBlk {P : Program} {op : Oper} {a : Act} {w : World} {K : Act → World → Prop} {Q : Exit → Act → World → Prop} (t : TypeId) (ho : op.op = .alloc t) (z : Value) (hz : ∀ w, (zeroValue t).run P w = .ok z w) (cells : Array Value) (hc : z.cells = cells)
    (h : ∀ w', NewBlk w w' t cells → K (a.put op.dst (.pointer (some ⟨w.heap.size, 0, none⟩))) w') : op.wp P a w K Q := by
  subst hc
  unfold Oper.wp execOp
  simp only [ho, Instr.alloc, Sem.run_bind, hz, newVar, newRow, run_newObj_alloc, Sem.run_pure, Result.andThen_ok]
  exact h _ (NewBlk.alloc w t z.cells)

set_option maxRecDepth 100000 in
set_option maxHeartbeats 4000000 in
theorem ImageSpoils_any (i : ImgV) (a y : Int) (w : World) (hi : i.good) (ha : 0 ≤ a ∧ a ≤ 65535) (hy : 0 ≤ y ∧ y ≤ 255) (hT : ShaTab w) : Calls Tryd.prog 7 #[i.val, .int .u16 a, .int .u8 y] w (SameIn w (.bool true)) := by
  obtain ⟨c, d, z, e⟩ := i
  obtain ⟨hz, he⟩ := hi
  simp only at hz he
  unfold ImgV.val
  simp only
  have CK : Hid (∀ w', Fr Nothing w w' → Calls Tryd.prog 11 #[] w' (SameIn w' (.bool true))) := fun w' hf => known_any w' (hT.fr0 hf)
  have CL := Lib.hid (fun w => long_any c d z e w)
  have hlo : longB c d = true ∨ (longB c d = false ∧ c.size ≤ 6000 ∧ d.size ≤ 6000) := by
    unfold longB
    by_cases h : 6000 < c.size ∨ 6000 < d.size
    · exact .inl (decide_eq_true h)
    · exact .inr ⟨decide_eq_false h, by omega, by omega⟩
  rcases hlo with hlo | ⟨hlo, hc, hd⟩
  · rw [hlo] at CL
    clear hT
    go_enter Tryd.func7, Tryd.ntmps7
    go_wp2_with (refine wpList_boxBlk rfl 23 (.tmp 0) rfl _ rfl ?_)
    intro w1 n1
    have B1 : Hid (Blk w1 w.heap.size 23 (imgC c d z e)) := n1.blk
    have F1 := Lib.hid n1.fr
    clear n1
    generalize hg : w.heap.size = g at *
    have HG := Lib.hid hg
    clear hg
    go_wp2_with fail
    refine (CK.out _ F1.out).mono ?_
    rintro e' w2 ⟨rfl, f2⟩
    have B2 := Lib.hid (B1.out.fr f2 (fun x => x))
    have F2 := Lib.hid (F1.out.trans f2)
    clear f2 B1 F1
    obtain ⟨k0, k1, k2, k3⟩ := img_cells B2.out (Fr.refl _ _)
    go_wp2_with fail
    refine (CL.out _).mono ?_
    rintro e' w3 ⟨rfl, f3⟩
    have B3 := Lib.hid (B2.out.fr f3 (fun x => x))
    have F3 := Lib.hid (F2.out.trans f3)
    clear k0 k1 k2 k3 f3 B2 F2
    go_wp2_with fail
    refine (CK.out _ F3.out).mono ?_
    rintro e' w4 ⟨rfl, f4⟩
    have F4 := Lib.hid (F3.out.trans f4)
    clear f4
    go_wp2
    go_ret
    exact ⟨rfl, F4.out⟩
  rw [hlo] at CL
  by_cases hm : y = 0
  · have t1 : (y == 0) = true := by rw [beq_iff_eq]; exact hm
    clear hT
    go_enter Tryd.func7, Tryd.ntmps7
    go_wp2_with (refine wpList_boxBlk rfl 23 (.tmp 0) rfl _ rfl ?_)
    intro w1 n1
    have B1 : Hid (Blk w1 w.heap.size 23 (imgC c d z e)) := n1.blk
    have F1 := Lib.hid n1.fr
    clear n1
    generalize hg : w.heap.size = g at *
    have HG := Lib.hid hg
    clear hg
    go_wp2_with fail
    refine (CK.out _ F1.out).mono ?_
    rintro e' w2 ⟨rfl, f2⟩
    have B2 := Lib.hid (B1.out.fr f2 (fun x => x))
    have F2 := Lib.hid (F1.out.trans f2)
    clear f2 B1 F1
    obtain ⟨k0, k1, k2, k3⟩ := img_cells B2.out (Fr.refl _ _)
    go_wp2_with fail
    refine (CL.out _).mono ?_
    rintro e' w3 ⟨rfl, f3⟩
    have B3 := Lib.hid (B2.out.fr f3 (fun x => x))
    have F3 := Lib.hid (F2.out.trans f3)
    clear k0 k1 k2 k3 f3 B2 F2
    go_wp2_with fail
    refine (CK.out _ F3.out).mono ?_
    rintro e' w4 ⟨rfl, f4⟩
    have F4 := Lib.hid (F3.out.trans f4)
    clear f4
    go_wp2
    go_ret
    exact ⟨rfl, F4.out⟩
  have t1 : (y == 0) = false := by rw [beq_eq_false_iff_ne]; exact hm
  have CT := Lib.hid (fun w => To_any c d z e w)
  have CE := Lib.hid (fun w' (hf : Fr Nothing w w') => Encode_any c d z e w' (by omega) (by omega) hz he (hT.fr0 hf))
  have hcr := checkI_range c.size d.size z e
  by_cases hkn : checkI c.size d.size z e ≠ 0
  · have t2 : (checkI c.size d.size z e != 0) = true := by rw [bne_iff_ne]; exact hkn
    generalize (⟨(encV (strL c) (strL d) z e).toArray⟩ : ByteArray) = E at *
    generalize checkI c.size d.size z e = k at *
    clear hT
    go_enter Tryd.func7, Tryd.ntmps7
    go_wp2_with (refine wpList_boxBlk rfl 23 (.tmp 0) rfl _ rfl ?_)
    intro w1 n1
    have B1 : Hid (Blk w1 w.heap.size 23 (imgC c d z e)) := n1.blk
    have F1 := Lib.hid n1.fr
    clear n1
    generalize hg : w.heap.size = g at *
    have HG := Lib.hid hg
    clear hg
    go_wp2_with fail
    refine (CK.out _ F1.out).mono ?_
    rintro e' w2 ⟨rfl, f2⟩
    have B2 := Lib.hid (B1.out.fr f2 (fun x => x))
    have F2 := Lib.hid (F1.out.trans f2)
    clear f2 B1 F1
    obtain ⟨k0, k1, k2, k3⟩ := img_cells B2.out (Fr.refl _ _)
    go_wp2_with fail
    refine (CL.out _).mono ?_
    rintro e' w3 ⟨rfl, f3⟩
    have B3 := Lib.hid (B2.out.fr f3 (fun x => x))
    have F3 := Lib.hid (F2.out.trans f3)
    clear k0 k1 k2 k3 f3 B2 F2
    obtain ⟨k0, k1, k2, k3⟩ := img_cells B3.out (Fr.refl _ _)
    go_wp2_with fail
    refine (CT.out _).mono ?_
    rintro e'' w4 ⟨rfl, f4⟩
    have F4 := Lib.hid (F3.out.trans f4)
    clear f4 B3 F3 k0 k1 k2 k3
    go_wp2_with fail
    refine (CE.out _ F4.out).mono ?_
    rintro e'' w5 ⟨rfl, f5⟩
    have F5 := Lib.hid (F4.out.trans f5)
    clear f5 F4
    go_wp2
    go_ret
    exact ⟨rfl, F5.out⟩
  have hk : checkI c.size d.size z e = 0 := by omega
  have hok := checkI_ok hk
  obtain ⟨z', rfl⟩ : ∃ z' : Nat, z = z' := ⟨z.toNat, by omega⟩
  obtain ⟨e', rfl⟩ : ∃ e' : Nat, e = e' := ⟨e.toNat, by omega⟩
  have hEV : encV (strL c) (strL d) z' e' = encL (strL c) (strL d) z' e' := by
    unfold encV
    rw [strL_length, strL_length, if_pos hk, Int.toNat_natCast, Int.toNat_natCast]
  have hfit := midL_fits (strL c) (strL d) z' e' (by rw [strL_length, strL_length]; exact hk)
  have hlen := encL_length (strL c) (strL d) z' e'
  rw [hEV] at CE
  have hch : chk8 ((encL (strL c) (strL d) z' e').take ((encL (strL c) (strL d) z' e').length - 8)) = (encL (strL c) (strL d) z' e').drop ((encL (strL c) (strL d) z' e').length - 8) := by rw [encL_take, encL_drop]
  obtain ⟨E, hE⟩ : ∃ E : ByteArray, E = ⟨(encL (strL c) (strL d) z' e').toArray⟩ := ⟨_, rfl⟩
  rw [← hE, hk] at CE
  have hEL : strL E = encL (strL c) (strL d) z' e' := by rw [hE, strL_mk]
  have hEs : 12 ≤ E.size ∧ E.size ≤ 4200 := by rw [← strL_length, hEL]; omega
  rw [← hEL] at hch
  clear hE hEL hEV hfit hlen hk hok hcr hkn
  have lE := strL_length E
  obtain ⟨n, hn⟩ : ∃ n, n = E.size := ⟨_, rfl⟩
  rw [← hn] at lE hEs
  have cn : IntKind.i64.wrap a = a := IntWalk.i64_in _ (by omega)
  obtain ⟨p, hp⟩ : ∃ p : Nat, Int.tmod a (n : Int) = p := ⟨(a.toNat % n), by
    obtain ⟨a', rfl⟩ : ∃ a' : Nat, a = a' := ⟨a.toNat, by omega⟩
    rw [Int.toNat_natCast]
    exact Int.ofNat_tmod a' n |>.symm ▸ rfl⟩
  have hpn : p < n := by
    have := Int.tmod_lt_of_pos a (show (0 : Int) < n by omega)
    omega
  have hpl : p < (strL E).length := by omega
  obtain ⟨b0, hb0⟩ : ∃ b0, (strL E)[p]? = some b0 := ⟨_, List.getElem?_eq_getElem hpl⟩
  obtain ⟨xb, hxb, hxn⟩ := xor_byte b0 y hy.1 hy.2 hm
  obtain ⟨T, hTT⟩ : ∃ T : ByteArray, T = ⟨((strL E).set p xb).toArray⟩ := ⟨_, rfl⟩
  have hTL : strL T = (strL E).set p xb := by rw [hTT, strL_mk]
  have hTs : T.size = n := by rw [← strL_length, hTL, List.length_set, lE]
  have hsp := spoils (strL E) p xb hpl (by rw [hb0]; simpa using fun h => hxn h.symm) (by omega) (by omega) hch
  rw [← hTL] at hsp
  have D1 := Lib.hid (fun w' (hf : Fr Nothing w w') => Decode_any T w' (by omega) (hT.fr0 hf))
  obtain ⟨c1, d1, z1, e1, f1, hr1⟩ : ∃ c1 d1 z1 e1 f1, retI (decV (strL T)) = .tuple #[imgV c1 d1 z1 e1, .int .i64 f1] := ⟨_, _, _, _, _, rfl⟩
  have hf1 : (decV (strL T)).2 = f1 := by
    unfold retI at hr1
    simp only [Value.tuple.injEq, Array.mk.injEq, List.cons.injEq, Value.agg.injEq, Value.string.injEq, Value.int.injEq, true_and, and_true] at hr1
    exact hr1.2
  rw [hr1] at D1
  rw [hf1] at hsp
  have HBL := Lib.hid hb0
  have HTT := Lib.hid hTT
  have hn0 : (n = 0) = False := eq_false (by omega)
  have hn42 : n ≤ 4200 := hEs.2
  obtain ⟨k, hkk⟩ : ∃ k, k = n - 8 := ⟨_, rfl⟩
  rw [lE, ← hkk] at hsp
  have s1 : (n : Int) - 8 = (k : Int) := by omega
  have s2 : k ≤ n := by omega
  have cw : IntKind.i64.wrap (k : Int) = (k : Int) := IntWalk.i64_in _ (by omega)
  have s3 : (k : Int) ≤ (n : Int) := by omega
  have hEn : E.size = n := hn.symm
  have x1 : strL (E.extract 0 k) = (strL E).take k := by rw [strL_extract]; simp
  have x2 : strL (T.extract 0 k) = (strL T).take k := by rw [strL_extract]; simp
  have y1 : (E.extract 0 k).size = k := by rw [← strL_length, x1, List.length_take, lE]; omega
  have y2 : (T.extract 0 k).size = k := by rw [← strL_length, x2, List.length_take, strL_length, hTs]; omega
  have CS1' := Lib.hid (fun w' (hf : Fr Nothing w w') => Sum_any (E.extract 0 k) w' (hT.fr0 hf) (by omega) (by omega))
  have CS2' := Lib.hid (fun w' (hf : Fr Nothing w w') => Sum_any (T.extract 0 k) w' (hT.fr0 hf) (by omega) (by omega))
  have HPL := Lib.hid hpl
  have hpn' : (p : Int) < (n : Int) := by omega
  clear hT hch hb0 hTT hr1 hf1 hkk hn hxn hEs hm hpl
  rcases hsp with hsp | hsp | ⟨hsp, hne, heq⟩
  · subst hsp
    clear CS1' CS2'
    go_enter Tryd.func7, Tryd.ntmps7
    go_wp2_with (refine wpList_boxBlk rfl 23 (.tmp 0) rfl _ rfl ?_)
    intro w1 n1
    have B1 : Hid (Blk w1 w.heap.size 23 (imgC c d z' e')) := n1.blk
    have F1 := Lib.hid n1.fr
    clear n1
    generalize hg : w.heap.size = g at *
    have HG := Lib.hid hg
    clear hg
    go_wp2_with fail
    refine (CK.out _ F1.out).mono ?_
    rintro e' w2 ⟨rfl, f2⟩
    have B2 := Lib.hid (B1.out.fr f2 (fun x => x))
    have F2 := Lib.hid (F1.out.trans f2)
    clear f2 B1 F1
    obtain ⟨k0, k1, k2, k3⟩ := img_cells B2.out (Fr.refl _ _)
    go_wp2_with fail
    refine (CL.out _).mono ?_
    rintro e' w3 ⟨rfl, f3⟩
    have B3 := Lib.hid (B2.out.fr f3 (fun x => x))
    have F3 := Lib.hid (F2.out.trans f3)
    clear k0 k1 k2 k3 f3 B2 F2
    obtain ⟨k0, k1, k2, k3⟩ := img_cells B3.out (Fr.refl _ _)
    go_wp2_with fail
    refine (CT.out _).mono ?_
    rintro e'' w4 ⟨rfl, f4⟩
    have F4 := Lib.hid (F3.out.trans f4)
    clear f4 B3 F3 k0 k1 k2 k3
    go_wp2_with fail
    refine (CE.out _ F4.out).mono ?_
    rintro e'' w5 ⟨rfl, f5⟩
    have F5 := Lib.hid (F4.out.trans f5)
    clear f5 F4
    obtain ⟨vb, wb, hcv, hb⟩ := BGrew.conv w5 E (by omega)
    have hbb : BGrew w5 wb vb (strL E) := hb
    have hS := hbb
    obtain ⟨_, gb, cap, rfl, _⟩ := hS
    rw [lE] at hcv hbb
    have HB := Lib.hid hbb
    clear hb hbb
    go_upto_region 7 with fail
    have HC : Hid (∀ w', Fr Nothing wb w' → w'.cell? ⟨gb, p, none⟩ = some (.int .u8 (b0.toNat : Int))) := fun w' hf => by
      obtain ⟨_, _, _, hv, _, hlt, _, _, _, _, hr⟩ := HB.out
      cases hv
      rw [hf.cell hlt (fun x => x)]
      exact hr p (bv b0) (by rw [List.getElem?_map, HBL.out]; rfl)
    clear hcv
    refine wp_region_new 17 27 [fun v => v = .slice (some ⟨gb, 0, none⟩) n cap, fun v => v = .int .u16 a, fun v => v = .int .i64 a, fun v => v = .slice (some ⟨gb, 0, none⟩) n cap, fun v => v = .int .i64 n, fun v => v = .int .i64 p, fun v => v = .slice (some ⟨gb, 0, none⟩) n cap, fun v => v = .int .u16 a, fun v => v = .int .i64 a, fun v => v = .slice (some ⟨gb, 0, none⟩) n cap, fun v => v = .int .i64 n, fun v => v = .int .i64 p, fun v => v = .pointer (some ⟨gb, p, none⟩), fun v => v = .int .u8 (b0.toNat : Int), fun v => v = .int .u8 y, fun v => v = .int .u8 (xb.toNat : Int), fun v => v = .pointer (some ⟨gb, p, none⟩)] [] [] [] (by kernel_rfl) (by kernel_rfl) (by kernel_rfl) trivial ?_ ?_
    · refine ⟨fun u w' hf hR hW => ?_, fun u w' hf hR hW => ?_, fun u w' hf hR hW => ?_, fun u w' hf hR hW => ?_, fun u w' hf hR hW => ?_, fun u w' hf hR hW => ?_, fun u w' hf hR hW => ?_, fun u w' hf hR hW => ?_, fun u w' hf hR hW => ?_, fun u w' hf hR hW => ?_, fun u w' hf hR hW => ?_, fun u w' hf hR hW => ?_, fun u w' hf hR hW => ?_, fun u w' hf hR hW => ?_, fun u w' hf hR hW => ?_, fun u w' hf hR hW => ?_, fun u w' hf hR hW => ?_, trivial⟩
      all_goals simp only [List.take_succ_cons, List.take_zero, List.map_cons, List.map_nil, puts, Act.put, List.setIfInBounds_toArray, List.set_cons_zero, List.set_cons_succ, Nat.reduceAdd, Nat.zero_add]
      · clear hR hW
        refine .inl ⟨by kernel_rfl, ?_⟩
        go_simp
        exact ⟨_, rfl, rfl, trivial, Fr.refl _ _⟩
      · clear hR hW
        refine .inl ⟨by kernel_rfl, ?_⟩
        go_simp
        exact ⟨_, rfl, rfl, trivial, Fr.refl _ _⟩
      · have h1 : u 1 = _ := hR 1 (by kernel_rfl)
        clear hR hW
        simp only [h1]
        refine .inl ⟨by kernel_rfl, ?_⟩
        go_simp
        exact ⟨_, rfl, rfl, trivial, Fr.refl _ _⟩
      · clear hR hW
        refine .inl ⟨by kernel_rfl, ?_⟩
        go_simp
        exact ⟨_, rfl, rfl, trivial, Fr.refl _ _⟩
      · have h3 : u 3 = _ := hR 3 (by kernel_rfl)
        clear hR hW
        simp only [h3]
        refine .inl ⟨by kernel_rfl, ?_⟩
        go_simp
        exact ⟨_, rfl, rfl, trivial, Fr.refl _ _⟩
      · have h2 : u 2 = _ := hR 2 (by kernel_rfl)
        have h4 : u 4 = _ := hR 4 (by kernel_rfl)
        clear hR hW
        simp only [h2, h4]
        refine .inl ⟨by kernel_rfl, ?_⟩
        go_simp
        exact ⟨_, rfl, rfl, trivial, Fr.refl _ _⟩
      · clear hR hW
        refine .inl ⟨by kernel_rfl, ?_⟩
        go_simp
        exact ⟨_, rfl, rfl, trivial, Fr.refl _ _⟩
      · clear hR hW
        refine .inl ⟨by kernel_rfl, ?_⟩
        go_simp
        exact ⟨_, rfl, rfl, trivial, Fr.refl _ _⟩
      · have h7 : u 7 = _ := hR 7 (by kernel_rfl)
        clear hR hW
        simp only [h7]
        refine .inl ⟨by kernel_rfl, ?_⟩
        go_simp
        exact ⟨_, rfl, rfl, trivial, Fr.refl _ _⟩
      · clear hR hW
        refine .inl ⟨by kernel_rfl, ?_⟩
        go_simp
        exact ⟨_, rfl, rfl, trivial, Fr.refl _ _⟩
      · have h9 : u 9 = _ := hR 9 (by kernel_rfl)
        clear hR hW
        simp only [h9]
        refine .inl ⟨by kernel_rfl, ?_⟩
        go_simp
        exact ⟨_, rfl, rfl, trivial, Fr.refl _ _⟩
      · have h8 : u 8 = _ := hR 8 (by kernel_rfl)
        have h10 : u 10 = _ := hR 10 (by kernel_rfl)
        clear hR hW
        simp only [h8, h10]
        refine .inl ⟨by kernel_rfl, ?_⟩
        go_simp
        exact ⟨_, rfl, rfl, trivial, Fr.refl _ _⟩
      · have h6 : u 6 = _ := hR 6 (by kernel_rfl)
        have h11 : u 11 = _ := hR 11 (by kernel_rfl)
        clear hR hW
        simp only [h6, h11]
        refine .inl ⟨by kernel_rfl, ?_⟩
        go_simp
        exact ⟨_, rfl, rfl, trivial, Fr.refl _ _⟩
      · have h12 : u 12 = _ := hR 12 (by kernel_rfl)
        clear hR hW
        simp only [h12]
        refine .inl ⟨by kernel_rfl, ?_⟩
        have hc := HC.out _ hf
        go_simp
        exact ⟨_, rfl, rfl, trivial, Fr.refl _ _⟩
      · clear hR hW
        refine .inl ⟨by kernel_rfl, ?_⟩
        go_simp
        exact ⟨_, rfl, rfl, trivial, Fr.refl _ _⟩
      · have h13 : u 13 = _ := hR 13 (by kernel_rfl)
        have h14 : u 14 = _ := hR 14 (by kernel_rfl)
        clear hR hW
        simp only [h13, h14]
        refine .inl ⟨by kernel_rfl, ?_⟩
        go_simp
        exact ⟨_, rfl, rfl, trivial, Fr.refl _ _⟩
      · have h0 : u 0 = _ := hR 0 (by kernel_rfl)
        have h5 : u 5 = _ := hR 5 (by kernel_rfl)
        clear hR hW
        simp only [h0, h5]
        refine .inl ⟨by kernel_rfl, ?_⟩
        go_simp
        exact ⟨_, rfl, rfl, trivial, Fr.refl _ _⟩
    · intro u w' hf hR hN hA
      have h15 : u 15 = _ := hR 15 (by omega)
      have h16 : u 16 = _ := hR 16 (by omega)
      have h0 : u 0 = _ := hR 0 (by omega)
      have HB2 := Lib.hid (HB.out.behind hf)
      clear hR hN hA hf HC HB
      simp only [List.take_succ_cons, List.take_zero, List.map_cons, List.map_nil, puts, Act.put, List.setIfInBounds_toArray, List.set_cons_zero, List.set_cons_succ, List.drop_succ_cons, List.drop_zero, Nat.reduceAdd, Nat.zero_add, h15, h16]
      go_wp2_with (refine wpList_storeB rfl _ _ rfl gb p n cap xb rfl rfl HB2.out HPL.out ?_)
      intro w6 hb6
      have HB6 := Lib.hid hb6
      have F6 := Lib.hid (F5.out.trans hb6.fr)
      have hcv : (convert 42 9 (.slice (some ⟨gb, 0, none⟩) n cap)).run Tryd.prog w6 = .ok (.string T) w6 := by
        obtain ⟨g', c', hv, hR⟩ := hb6.slice
        cases hv
        rw [HTT.out]
        have hR' := hR
        exact run_str w6 42 9 5 Tryd.underlying42 Tryd.underlying5 Tryd.underlying9 _ _ _ cap _ hR'
      clear hb6 HB2
      go_wp2_with fail
      refine (D1.out _ F6.out).mono ?_
      rintro e'' w7 ⟨rfl, f7⟩
      have F7 := Lib.hid (F6.out.trans f7)
      have Z7 : Hid (w.heap.size ≤ w7.heap.size) := F7.out.size
      clear f7 F6 HB6 hcv D1
      go_wp2_with (refine wpList_allocBlk rfl 27 rfl (.agg zeroImg) zvI zeroImg rfl ?_)
      intro w8 nx
      have F8 := Lib.hid (F7.out.trans nx.fr)
      have G8 := Lib.hid nx.blk
      clear nx F7
      generalize w7.heap.size = g7 at *
      go_wp2_with (refine wpList_storeBlk rfl 27 (.tmp 11) _ rfl g7 (imgC c1 d1 z1 e1) rfl rfl _ _ G8.out (infoI _ _ _ _) rfl (img_one _ _ _ _) ?_)
      intro w9 bx fx
      have F9 : Hid (Fr Nothing w w9) := F8.out.then_ fx (fun i hi e => by have e' : i = g7 := e; have := Z7.out; omega)
      clear bx fx F8 G8
      go_wp2
      go_ret
      exact ⟨rfl, F9.out⟩
  · subst hsp
    clear CS1' CS2'
    go_enter Tryd.func7, Tryd.ntmps7
    go_wp2_with (refine wpList_boxBlk rfl 23 (.tmp 0) rfl _ rfl ?_)
    intro w1 n1
    have B1 : Hid (Blk w1 w.heap.size 23 (imgC c d z' e')) := n1.blk
    have F1 := Lib.hid n1.fr
    clear n1
    generalize hg : w.heap.size = g at *
    have HG := Lib.hid hg
    clear hg
    go_wp2_with fail
    refine (CK.out _ F1.out).mono ?_
    rintro e' w2 ⟨rfl, f2⟩
    have B2 := Lib.hid (B1.out.fr f2 (fun x => x))
    have F2 := Lib.hid (F1.out.trans f2)
    clear f2 B1 F1
    obtain ⟨k0, k1, k2, k3⟩ := img_cells B2.out (Fr.refl _ _)
    go_wp2_with fail
    refine (CL.out _).mono ?_
    rintro e' w3 ⟨rfl, f3⟩
    have B3 := Lib.hid (B2.out.fr f3 (fun x => x))
    have F3 := Lib.hid (F2.out.trans f3)
    clear k0 k1 k2 k3 f3 B2 F2
    obtain ⟨k0, k1, k2, k3⟩ := img_cells B3.out (Fr.refl _ _)
    go_wp2_with fail
    refine (CT.out _).mono ?_
    rintro e'' w4 ⟨rfl, f4⟩
    have F4 := Lib.hid (F3.out.trans f4)
    clear f4 B3 F3 k0 k1 k2 k3
    go_wp2_with fail
    refine (CE.out _ F4.out).mono ?_
    rintro e'' w5 ⟨rfl, f5⟩
    have F5 := Lib.hid (F4.out.trans f5)
    clear f5 F4
    obtain ⟨vb, wb, hcv, hb⟩ := BGrew.conv w5 E (by omega)
    have hbb : BGrew w5 wb vb (strL E) := hb
    have hS := hbb
    obtain ⟨_, gb, cap, rfl, _⟩ := hS
    rw [lE] at hcv hbb
    have HB := Lib.hid hbb
    clear hb hbb
    go_upto_region 7 with fail
    have HC : Hid (∀ w', Fr Nothing wb w' → w'.cell? ⟨gb, p, none⟩ = some (.int .u8 (b0.toNat : Int))) := fun w' hf => by
      obtain ⟨_, _, _, hv, _, hlt, _, _, _, _, hr⟩ := HB.out
      cases hv
      rw [hf.cell hlt (fun x => x)]
      exact hr p (bv b0) (by rw [List.getElem?_map, HBL.out]; rfl)
    clear hcv
    refine wp_region_new 17 27 [fun v => v = .slice (some ⟨gb, 0, none⟩) n cap, fun v => v = .int .u16 a, fun v => v = .int .i64 a, fun v => v = .slice (some ⟨gb, 0, none⟩) n cap, fun v => v = .int .i64 n, fun v => v = .int .i64 p, fun v => v = .slice (some ⟨gb, 0, none⟩) n cap, fun v => v = .int .u16 a, fun v => v = .int .i64 a, fun v => v = .slice (some ⟨gb, 0, none⟩) n cap, fun v => v = .int .i64 n, fun v => v = .int .i64 p, fun v => v = .pointer (some ⟨gb, p, none⟩), fun v => v = .int .u8 (b0.toNat : Int), fun v => v = .int .u8 y, fun v => v = .int .u8 (xb.toNat : Int), fun v => v = .pointer (some ⟨gb, p, none⟩)] [] [] [] (by kernel_rfl) (by kernel_rfl) (by kernel_rfl) trivial ?_ ?_
    · refine ⟨fun u w' hf hR hW => ?_, fun u w' hf hR hW => ?_, fun u w' hf hR hW => ?_, fun u w' hf hR hW => ?_, fun u w' hf hR hW => ?_, fun u w' hf hR hW => ?_, fun u w' hf hR hW => ?_, fun u w' hf hR hW => ?_, fun u w' hf hR hW => ?_, fun u w' hf hR hW => ?_, fun u w' hf hR hW => ?_, fun u w' hf hR hW => ?_, fun u w' hf hR hW => ?_, fun u w' hf hR hW => ?_, fun u w' hf hR hW => ?_, fun u w' hf hR hW => ?_, fun u w' hf hR hW => ?_, trivial⟩
      all_goals simp only [List.take_succ_cons, List.take_zero, List.map_cons, List.map_nil, puts, Act.put, List.setIfInBounds_toArray, List.set_cons_zero, List.set_cons_succ, Nat.reduceAdd, Nat.zero_add]
      · clear hR hW
        refine .inl ⟨by kernel_rfl, ?_⟩
        go_simp
        exact ⟨_, rfl, rfl, trivial, Fr.refl _ _⟩
      · clear hR hW
        refine .inl ⟨by kernel_rfl, ?_⟩
        go_simp
        exact ⟨_, rfl, rfl, trivial, Fr.refl _ _⟩
      · have h1 : u 1 = _ := hR 1 (by kernel_rfl)
        clear hR hW
        simp only [h1]
        refine .inl ⟨by kernel_rfl, ?_⟩
        go_simp
        exact ⟨_, rfl, rfl, trivial, Fr.refl _ _⟩
      · clear hR hW
        refine .inl ⟨by kernel_rfl, ?_⟩
        go_simp
        exact ⟨_, rfl, rfl, trivial, Fr.refl _ _⟩
      · have h3 : u 3 = _ := hR 3 (by kernel_rfl)
        clear hR hW
        simp only [h3]
        refine .inl ⟨by kernel_rfl, ?_⟩
        go_simp
        exact ⟨_, rfl, rfl, trivial, Fr.refl _ _⟩
      · have h2 : u 2 = _ := hR 2 (by kernel_rfl)
        have h4 : u 4 = _ := hR 4 (by kernel_rfl)
        clear hR hW
        simp only [h2, h4]
        refine .inl ⟨by kernel_rfl, ?_⟩
        go_simp
        exact ⟨_, rfl, rfl, trivial, Fr.refl _ _⟩
      · clear hR hW
        refine .inl ⟨by kernel_rfl, ?_⟩
        go_simp
        exact ⟨_, rfl, rfl, trivial, Fr.refl _ _⟩
      · clear hR hW
        refine .inl ⟨by kernel_rfl, ?_⟩
        go_simp
        exact ⟨_, rfl, rfl, trivial, Fr.refl _ _⟩
      · have h7 : u 7 = _ := hR 7 (by kernel_rfl)
        clear hR hW
        simp only [h7]
        refine .inl ⟨by kernel_rfl, ?_⟩
        go_simp
        exact ⟨_, rfl, rfl, trivial, Fr.refl _ _⟩
      · clear hR hW
        refine .inl ⟨by kernel_rfl, ?_⟩
        go_simp
        exact ⟨_, rfl, rfl, trivial, Fr.refl _ _⟩
      · have h9 : u 9 = _ := hR 9 (by kernel_rfl)
        clear hR hW
        simp only [h9]
        refine .inl ⟨by kernel_rfl, ?_⟩
        go_simp
        exact ⟨_, rfl, rfl, trivial, Fr.refl _ _⟩
      · have h8 : u 8 = _ := hR 8 (by kernel_rfl)
        have h10 : u 10 = _ := hR 10 (by kernel_rfl)
        clear hR hW
        simp only [h8, h10]
        refine .inl ⟨by kernel_rfl, ?_⟩
        go_simp
        exact ⟨_, rfl, rfl, trivial, Fr.refl _ _⟩
      · have h6 : u 6 = _ := hR 6 (by kernel_rfl)
        have h11 : u 11 = _ := hR 11 (by kernel_rfl)
        clear hR hW
        simp only [h6, h11]
        refine .inl ⟨by kernel_rfl, ?_⟩
        go_simp
        exact ⟨_, rfl, rfl, trivial, Fr.refl _ _⟩
      · have h12 : u 12 = _ := hR 12 (by kernel_rfl)
        clear hR hW
        simp only [h12]
        refine .inl ⟨by kernel_rfl, ?_⟩
        have hc := HC.out _ hf
        go_simp
        exact ⟨_, rfl, rfl, trivial, Fr.refl _ _⟩
      · clear hR hW
        refine .inl ⟨by kernel_rfl, ?_⟩
        go_simp
        exact ⟨_, rfl, rfl, trivial, Fr.refl _ _⟩
      · have h13 : u 13 = _ := hR 13 (by kernel_rfl)
        have h14 : u 14 = _ := hR 14 (by kernel_rfl)
        clear hR hW
        simp only [h13, h14]
        refine .inl ⟨by kernel_rfl, ?_⟩
        go_simp
        exact ⟨_, rfl, rfl, trivial, Fr.refl _ _⟩
      · have h0 : u 0 = _ := hR 0 (by kernel_rfl)
        have h5 : u 5 = _ := hR 5 (by kernel_rfl)
        clear hR hW
        simp only [h0, h5]
        refine .inl ⟨by kernel_rfl, ?_⟩
        go_simp
        exact ⟨_, rfl, rfl, trivial, Fr.refl _ _⟩
    · intro u w' hf hR hN hA
      have h15 : u 15 = _ := hR 15 (by omega)
      have h16 : u 16 = _ := hR 16 (by omega)
      have h0 : u 0 = _ := hR 0 (by omega)
      have HB2 := Lib.hid (HB.out.behind hf)
      clear hR hN hA hf HC HB
      simp only [List.take_succ_cons, List.take_zero, List.map_cons, List.map_nil, puts, Act.put, List.setIfInBounds_toArray, List.set_cons_zero, List.set_cons_succ, List.drop_succ_cons, List.drop_zero, Nat.reduceAdd, Nat.zero_add, h15, h16]
      go_wp2_with (refine wpList_storeB rfl _ _ rfl gb p n cap xb rfl rfl HB2.out HPL.out ?_)
      intro w6 hb6
      have HB6 := Lib.hid hb6
      have F6 := Lib.hid (F5.out.trans hb6.fr)
      have hcv : (convert 42 9 (.slice (some ⟨gb, 0, none⟩) n cap)).run Tryd.prog w6 = .ok (.string T) w6 := by
        obtain ⟨g', c', hv, hR⟩ := hb6.slice
        cases hv
        rw [HTT.out]
        have hR' := hR
        exact run_str w6 42 9 5 Tryd.underlying42 Tryd.underlying5 Tryd.underlying9 _ _ _ cap _ hR'
      clear hb6 HB2
      go_wp2_with fail
      refine (D1.out _ F6.out).mono ?_
      rintro e'' w7 ⟨rfl, f7⟩
      have F7 := Lib.hid (F6.out.trans f7)
      have Z7 : Hid (w.heap.size ≤ w7.heap.size) := F7.out.size
      clear f7 F6 HB6 hcv D1
      go_wp2_with (refine wpList_allocBlk rfl 27 rfl (.agg zeroImg) zvI zeroImg rfl ?_)
      intro w8 nx
      have F8 := Lib.hid (F7.out.trans nx.fr)
      have G8 := Lib.hid nx.blk
      clear nx F7
      generalize w7.heap.size = g7 at *
      go_wp2_with (refine wpList_storeBlk rfl 27 (.tmp 11) _ rfl g7 (imgC c1 d1 z1 e1) rfl rfl _ _ G8.out (infoI _ _ _ _) rfl (img_one _ _ _ _) ?_)
      intro w9 bx fx
      have F9 : Hid (Fr Nothing w w9) := F8.out.then_ fx (fun i hi e => by have e' : i = g7 := e; have := Z7.out; omega)
      clear bx fx F8 G8
      go_wp2
      go_ret
      exact ⟨rfl, F9.out⟩
  · subst hsp
    have hl1 : (shaL (txL (E.extract 0 k))).length = 32 := shaL_length _
    have hl2 : (shaL (txL (T.extract 0 k))).length = 32 := shaL_length _
    have tne : (!(E.extract 0 k).toList == (T.extract 0 k).toList) = true := bytes_ne _ _ false (decide_eq_false (by rw [x1, x2]; exact hne))
    have heq' : (shaL (txL (E.extract 0 k))).take 8 = (shaL (txL (T.extract 0 k))).take 8 := by
      have e1 : txL (E.extract 0 k) = (strL E).take k := x1
      have e2 : txL (T.extract 0 k) = (strL T).take k := x2
      rw [e1, e2]
      exact heq
    clear hne heq
    obtain ⟨CKs, hCK⟩ : ∃ CKs : ByteArray, CKs = ⟨((shaL (txL (E.extract 0 k))).take 8).toArray⟩ := ⟨_, rfl⟩
    have hCK2 : CKs = ⟨((shaL (txL (T.extract 0 k))).take 8).toArray⟩ := by rw [← heq']; exact hCK
    clear heq'
    unfold digV at CS1' CS2'
    generalize shaL (txL (E.extract 0 k)) = q1 at *
    generalize shaL (txL (T.extract 0 k)) = q2 at *
    have sz1 : (q1.map bvI).toArray.size = 32 := by rw [List.size_toArray, List.length_map, hl1]
    have HI1 : Hid ((Tryd.prog.info? 44).map (·.size) = some (q1.map bvI).toArray.size) := by simp only [Hid]; rw [sz1]; exact infoD
    have HZ1 : Hid (zero32c.size = (q1.map bvI).toArray.size) := by simp only [Hid]; rw [sz1]; rfl
    have HO1 : Hid ((q1.map bvI).toArray.all (·.oneCell') = true) := bytes_one _
    have RA1 : Hid (∀ {w' : World} {g : Nat} {t : TypeId}, Blk w' g t (q1.map bvI).toArray → (convert 42 9 (.slice (some ⟨g, 0, none⟩) 8 32)).run Tryd.prog w' = .ok (.string CKs) w') := fun hb => by
      rw [hCK]
      exact run_str (P := Tryd.prog) _ 42 9 5 Tryd.underlying42 Tryd.underlying5 Tryd.underlying9 _ _ 8 32 _ (rd_take8 hb hl1)
    have sz2 : (q2.map bvI).toArray.size = 32 := by rw [List.size_toArray, List.length_map, hl2]
    have HI2 : Hid ((Tryd.prog.info? 44).map (·.size) = some (q2.map bvI).toArray.size) := by simp only [Hid]; rw [sz2]; exact infoD
    have HZ2 : Hid (zero32c.size = (q2.map bvI).toArray.size) := by simp only [Hid]; rw [sz2]; rfl
    have HO2 : Hid ((q2.map bvI).toArray.all (·.oneCell') = true) := bytes_one _
    have RA2 : Hid (∀ {w' : World} {g : Nat} {t : TypeId}, Blk w' g t (q2.map bvI).toArray → (convert 42 9 (.slice (some ⟨g, 0, none⟩) 8 32)).run Tryd.prog w' = .ok (.string CKs) w') := fun hb => by
      rw [hCK2]
      exact run_str (P := Tryd.prog) _ 42 9 5 Tryd.underlying42 Tryd.underlying5 Tryd.underlying9 _ _ 8 32 _ (rd_take8 hb hl2)
    generalize (q1.map bvI).toArray = RV1 at *
    generalize (q2.map bvI).toArray = RV2 at *
    clear hCK hCK2 hl1 hl2 sz1 sz2
    go_enter Tryd.func7, Tryd.ntmps7
    go_wp2_with (refine wpList_boxBlk rfl 23 (.tmp 0) rfl _ rfl ?_)
    intro w1 n1
    have B1 : Hid (Blk w1 w.heap.size 23 (imgC c d z' e')) := n1.blk
    have F1 := Lib.hid n1.fr
    clear n1
    generalize hg : w.heap.size = g at *
    have HG := Lib.hid hg
    clear hg
    go_wp2_with fail
    refine (CK.out _ F1.out).mono ?_
    rintro e' w2 ⟨rfl, f2⟩
    have B2 := Lib.hid (B1.out.fr f2 (fun x => x))
    have F2 := Lib.hid (F1.out.trans f2)
    clear f2 B1 F1
    obtain ⟨k0, k1, k2, k3⟩ := img_cells B2.out (Fr.refl _ _)
    go_wp2_with fail
    refine (CL.out _).mono ?_
    rintro e' w3 ⟨rfl, f3⟩
    have B3 := Lib.hid (B2.out.fr f3 (fun x => x))
    have F3 := Lib.hid (F2.out.trans f3)
    clear k0 k1 k2 k3 f3 B2 F2
    obtain ⟨k0, k1, k2, k3⟩ := img_cells B3.out (Fr.refl _ _)
    go_wp2_with fail
    refine (CT.out _).mono ?_
    rintro e'' w4 ⟨rfl, f4⟩
    have F4 := Lib.hid (F3.out.trans f4)
    clear f4 B3 F3 k0 k1 k2 k3
    go_wp2_with fail
    refine (CE.out _ F4.out).mono ?_
    rintro e'' w5 ⟨rfl, f5⟩
    have F5 := Lib.hid (F4.out.trans f5)
    clear f5 F4
    obtain ⟨vb, wb, hcv, hb⟩ := BGrew.conv w5 E (by omega)
    have hbb : BGrew w5 wb vb (strL E) := hb
    have hS := hbb
    obtain ⟨_, gb, cap, rfl, _⟩ := hS
    rw [lE] at hcv hbb
    have HB := Lib.hid hbb
    clear hb hbb
    go_upto_region 7 with fail
    have HC : Hid (∀ w', Fr Nothing wb w' → w'.cell? ⟨gb, p, none⟩ = some (.int .u8 (b0.toNat : Int))) := fun w' hf => by
      obtain ⟨_, _, _, hv, _, hlt, _, _, _, _, hr⟩ := HB.out
      cases hv
      rw [hf.cell hlt (fun x => x)]
      exact hr p (bv b0) (by rw [List.getElem?_map, HBL.out]; rfl)
    clear hcv
    refine wp_region_new 17 27 [fun v => v = .slice (some ⟨gb, 0, none⟩) n cap, fun v => v = .int .u16 a, fun v => v = .int .i64 a, fun v => v = .slice (some ⟨gb, 0, none⟩) n cap, fun v => v = .int .i64 n, fun v => v = .int .i64 p, fun v => v = .slice (some ⟨gb, 0, none⟩) n cap, fun v => v = .int .u16 a, fun v => v = .int .i64 a, fun v => v = .slice (some ⟨gb, 0, none⟩) n cap, fun v => v = .int .i64 n, fun v => v = .int .i64 p, fun v => v = .pointer (some ⟨gb, p, none⟩), fun v => v = .int .u8 (b0.toNat : Int), fun v => v = .int .u8 y, fun v => v = .int .u8 (xb.toNat : Int), fun v => v = .pointer (some ⟨gb, p, none⟩)] [] [] [] (by kernel_rfl) (by kernel_rfl) (by kernel_rfl) trivial ?_ ?_
    · refine ⟨fun u w' hf hR hW => ?_, fun u w' hf hR hW => ?_, fun u w' hf hR hW => ?_, fun u w' hf hR hW => ?_, fun u w' hf hR hW => ?_, fun u w' hf hR hW => ?_, fun u w' hf hR hW => ?_, fun u w' hf hR hW => ?_, fun u w' hf hR hW => ?_, fun u w' hf hR hW => ?_, fun u w' hf hR hW => ?_, fun u w' hf hR hW => ?_, fun u w' hf hR hW => ?_, fun u w' hf hR hW => ?_, fun u w' hf hR hW => ?_, fun u w' hf hR hW => ?_, fun u w' hf hR hW => ?_, trivial⟩
      all_goals simp only [List.take_succ_cons, List.take_zero, List.map_cons, List.map_nil, puts, Act.put, List.setIfInBounds_toArray, List.set_cons_zero, List.set_cons_succ, Nat.reduceAdd, Nat.zero_add]
      · clear hR hW
        refine .inl ⟨by kernel_rfl, ?_⟩
        go_simp
        exact ⟨_, rfl, rfl, trivial, Fr.refl _ _⟩
      · clear hR hW
        refine .inl ⟨by kernel_rfl, ?_⟩
        go_simp
        exact ⟨_, rfl, rfl, trivial, Fr.refl _ _⟩
      · have h1 : u 1 = _ := hR 1 (by kernel_rfl)
        clear hR hW
        simp only [h1]
        refine .inl ⟨by kernel_rfl, ?_⟩
        go_simp
        exact ⟨_, rfl, rfl, trivial, Fr.refl _ _⟩
      · clear hR hW
        refine .inl ⟨by kernel_rfl, ?_⟩
        go_simp
        exact ⟨_, rfl, rfl, trivial, Fr.refl _ _⟩
      · have h3 : u 3 = _ := hR 3 (by kernel_rfl)
        clear hR hW
        simp only [h3]
        refine .inl ⟨by kernel_rfl, ?_⟩
        go_simp
        exact ⟨_, rfl, rfl, trivial, Fr.refl _ _⟩
      · have h2 : u 2 = _ := hR 2 (by kernel_rfl)
        have h4 : u 4 = _ := hR 4 (by kernel_rfl)
        clear hR hW
        simp only [h2, h4]
        refine .inl ⟨by kernel_rfl, ?_⟩
        go_simp
        exact ⟨_, rfl, rfl, trivial, Fr.refl _ _⟩
      · clear hR hW
        refine .inl ⟨by kernel_rfl, ?_⟩
        go_simp
        exact ⟨_, rfl, rfl, trivial, Fr.refl _ _⟩
      · clear hR hW
        refine .inl ⟨by kernel_rfl, ?_⟩
        go_simp
        exact ⟨_, rfl, rfl, trivial, Fr.refl _ _⟩
      · have h7 : u 7 = _ := hR 7 (by kernel_rfl)
        clear hR hW
        simp only [h7]
        refine .inl ⟨by kernel_rfl, ?_⟩
        go_simp
        exact ⟨_, rfl, rfl, trivial, Fr.refl _ _⟩
      · clear hR hW
        refine .inl ⟨by kernel_rfl, ?_⟩
        go_simp
        exact ⟨_, rfl, rfl, trivial, Fr.refl _ _⟩
      · have h9 : u 9 = _ := hR 9 (by kernel_rfl)
        clear hR hW
        simp only [h9]
        refine .inl ⟨by kernel_rfl, ?_⟩
        go_simp
        exact ⟨_, rfl, rfl, trivial, Fr.refl _ _⟩
      · have h8 : u 8 = _ := hR 8 (by kernel_rfl)
        have h10 : u 10 = _ := hR 10 (by kernel_rfl)
        clear hR hW
        simp only [h8, h10]
        refine .inl ⟨by kernel_rfl, ?_⟩
        go_simp
        exact ⟨_, rfl, rfl, trivial, Fr.refl _ _⟩
      · have h6 : u 6 = _ := hR 6 (by kernel_rfl)
        have h11 : u 11 = _ := hR 11 (by kernel_rfl)
        clear hR hW
        simp only [h6, h11]
        refine .inl ⟨by kernel_rfl, ?_⟩
        go_simp
        exact ⟨_, rfl, rfl, trivial, Fr.refl _ _⟩
      · have h12 : u 12 = _ := hR 12 (by kernel_rfl)
        clear hR hW
        simp only [h12]
        refine .inl ⟨by kernel_rfl, ?_⟩
        have hc := HC.out _ hf
        go_simp
        exact ⟨_, rfl, rfl, trivial, Fr.refl _ _⟩
      · clear hR hW
        refine .inl ⟨by kernel_rfl, ?_⟩
        go_simp
        exact ⟨_, rfl, rfl, trivial, Fr.refl _ _⟩
      · have h13 : u 13 = _ := hR 13 (by kernel_rfl)
        have h14 : u 14 = _ := hR 14 (by kernel_rfl)
        clear hR hW
        simp only [h13, h14]
        refine .inl ⟨by kernel_rfl, ?_⟩
        go_simp
        exact ⟨_, rfl, rfl, trivial, Fr.refl _ _⟩
      · have h0 : u 0 = _ := hR 0 (by kernel_rfl)
        have h5 : u 5 = _ := hR 5 (by kernel_rfl)
        clear hR hW
        simp only [h0, h5]
        refine .inl ⟨by kernel_rfl, ?_⟩
        go_simp
        exact ⟨_, rfl, rfl, trivial, Fr.refl _ _⟩
    · intro u w' hf hR hN hA
      have h15 : u 15 = _ := hR 15 (by omega)
      have h16 : u 16 = _ := hR 16 (by omega)
      have h0 : u 0 = _ := hR 0 (by omega)
      have HB2 := Lib.hid (HB.out.behind hf)
      clear hR hN hA hf HC HB
      simp only [List.take_succ_cons, List.take_zero, List.map_cons, List.map_nil, puts, Act.put, List.setIfInBounds_toArray, List.set_cons_zero, List.set_cons_succ, List.drop_succ_cons, List.drop_zero, Nat.reduceAdd, Nat.zero_add, h15, h16]
      go_wp2_with (refine wpList_storeB rfl _ _ rfl gb p n cap xb rfl rfl HB2.out HPL.out ?_)
      intro w6 hb6
      have HB6 := Lib.hid hb6
      have F6 := Lib.hid (F5.out.trans hb6.fr)
      have hcv : (convert 42 9 (.slice (some ⟨gb, 0, none⟩) n cap)).run Tryd.prog w6 = .ok (.string T) w6 := by
        obtain ⟨g', c', hv, hR⟩ := hb6.slice
        cases hv
        rw [HTT.out]
        have hR' := hR
        exact run_str w6 42 9 5 Tryd.underlying42 Tryd.underlying5 Tryd.underlying9 _ _ _ cap _ hR'
      clear hb6 HB2
      go_wp2_with fail
      refine (D1.out _ F6.out).mono ?_
      rintro e'' w7 ⟨rfl, f7⟩
      have F7 := Lib.hid (F6.out.trans f7)
      have Z7 : Hid (w.heap.size ≤ w7.heap.size) := F7.out.size
      clear f7 F6 HB6 hcv D1
      go_wp2_with (refine wpList_allocBlk rfl 27 rfl (.agg zeroImg) zvI zeroImg rfl ?_)
      intro w8 nx
      have F8 := Lib.hid (F7.out.trans nx.fr)
      have G8 := Lib.hid nx.blk
      clear nx F7
      generalize w7.heap.size = g7 at *
      go_wp2_with (refine wpList_storeBlk rfl 27 (.tmp 11) _ rfl g7 (imgC c1 d1 z1 e1) rfl rfl _ _ G8.out (infoI _ _ _ _) rfl (img_one _ _ _ _) ?_)
      intro w9 bx fx
      have F9 : Hid (Fr Nothing w w9) := F8.out.then_ fx (fun i hi e => by have e' : i = g7 := e; have := Z7.out; omega)
      clear bx fx F8 G8
      have CS1 := CS1'
      have CS2 := CS2'
      clear CS1' CS2'
      go_upto_region 12 with fail
      refine wp_region_new 14 44 [fun v => v = .string E, fun v => v = .string E, fun v => v = .int .i64 n, fun v => v = .int .i64 k, fun v => v = .string (E.extract 0 k), fun v => v = .agg RV1, fun v => v = .string T, fun v => v = .string T, fun v => v = .int .i64 n, fun v => v = .int .i64 k, fun v => v = .string (T.extract 0 k), fun v => v = .agg RV2, fun _ => True, fun _ => True] [] [(12, zero32c), (13, zero32c)] [] (by kernel_rfl) (by kernel_rfl) (by kernel_rfl) trivial ?_ ?_
      · refine ⟨fun u w' hf hR hW => ?_, fun u w' hf hR hW => ?_, fun u w' hf hR hW => ?_, fun u w' hf hR hW => ?_, fun u w' hf hR hW => ?_, fun u w' hf hR hW => ?_, fun u w' hf hR hW => ?_, fun u w' hf hR hW => ?_, fun u w' hf hR hW => ?_, fun u w' hf hR hW => ?_, fun u w' hf hR hW => ?_, fun u w' hf hR hW => ?_, fun u w' hf hR => ?_, fun u w' hf hR => ?_, trivial⟩
        all_goals simp only [List.take_succ_cons, List.take_zero, List.map_cons, List.map_nil, puts, Act.put, List.setIfInBounds_toArray, List.set_cons_zero, List.set_cons_succ, Nat.reduceAdd, Nat.zero_add]
        · clear hR hW
          refine .inl ⟨by kernel_rfl, ?_⟩
          go_simp
          exact ⟨_, rfl, rfl, trivial, Fr.refl _ _⟩
        · clear hR hW
          refine .inl ⟨by kernel_rfl, ?_⟩
          go_simp
          exact ⟨_, rfl, rfl, trivial, Fr.refl _ _⟩
        · have h1 : u 1 = _ := hR 1 (by kernel_rfl)
          clear hR hW
          simp only [h1]
          refine .inl ⟨by kernel_rfl, ?_⟩
          go_simp
          exact ⟨_, rfl, rfl, trivial, Fr.refl _ _⟩
        · have h2 : u 2 = _ := hR 2 (by kernel_rfl)
          clear hR hW
          simp only [h2]
          refine .inl ⟨by kernel_rfl, ?_⟩
          go_simp
          exact ⟨_, rfl, rfl, trivial, Fr.refl _ _⟩
        · have h0 : u 0 = _ := hR 0 (by kernel_rfl)
          have h3 : u 3 = _ := hR 3 (by kernel_rfl)
          clear hR hW
          simp only [h0, h3]
          refine .inl ⟨by kernel_rfl, ?_⟩
          go_simp
          exact ⟨_, rfl, rfl, trivial, Fr.refl _ _⟩
        · have h4 : u 4 = _ := hR 4 (by kernel_rfl)
          clear hR hW
          simp only [h4]
          refine .inl ⟨by kernel_rfl, ?_⟩
          go_simp
          refine (CS1.out _ (F9.out.trans hf)).mono ?_
          rintro e w4 ⟨rfl, f4⟩
          exact ⟨_, rfl, rfl, trivial, f4⟩
        · clear hR hW
          refine .inl ⟨by kernel_rfl, ?_⟩
          go_simp
          exact ⟨_, rfl, rfl, trivial, Fr.refl _ _⟩
        · clear hR hW
          refine .inl ⟨by kernel_rfl, ?_⟩
          go_simp
          exact ⟨_, rfl, rfl, trivial, Fr.refl _ _⟩
        · have h7 : u 7 = _ := hR 7 (by kernel_rfl)
          clear hR hW
          simp only [h7]
          refine .inl ⟨by kernel_rfl, ?_⟩
          go_simp
          exact ⟨_, rfl, rfl, trivial, Fr.refl _ _⟩
        · have h8 : u 8 = _ := hR 8 (by kernel_rfl)
          clear hR hW
          simp only [h8]
          refine .inl ⟨by kernel_rfl, ?_⟩
          go_simp
          exact ⟨_, rfl, rfl, trivial, Fr.refl _ _⟩
        · have h6 : u 6 = _ := hR 6 (by kernel_rfl)
          have h9 : u 9 = _ := hR 9 (by kernel_rfl)
          clear hR hW
          simp only [h6, h9]
          refine .inl ⟨by kernel_rfl, ?_⟩
          go_simp
          exact ⟨_, rfl, rfl, trivial, Fr.refl _ _⟩
        · have h10 : u 10 = _ := hR 10 (by kernel_rfl)
          clear hR hW
          simp only [h10]
          refine .inl ⟨by kernel_rfl, ?_⟩
          go_simp
          refine (CS2.out _ (F9.out.trans hf)).mono ?_
          rintro e w4 ⟨rfl, f4⟩
          exact ⟨_, rfl, rfl, trivial, f4⟩
        · clear hR
          refine .inl ⟨by kernel_rfl, ?_⟩
          refine wp_allocBlk 44 rfl zero32 zvD zero32c rfl ?_
          intro w4 n4
          exact ⟨_, rfl, trivial, trivial, rfl, n4⟩
        · clear hR
          refine .inl ⟨by kernel_rfl, ?_⟩
          refine wp_allocBlk 44 rfl zero32 zvD zero32c rfl ?_
          intro w4 n4
          exact ⟨_, rfl, trivial, trivial, rfl, n4⟩
      · intro u w' hf hR hN hA
        obtain ⟨gx, hx12, lx, bx⟩ := hN 12 zero32c (by simp)
        obtain ⟨gy, hy13, ly, by_⟩ := hN 13 zero32c (by simp)
        have hxy : gx ≠ gy := fun e => hA 12 zero32c 13 zero32c (by simp) (by simp) (by decide) (by rw [hx12, hy13, e])
        have h5 : u 5 = _ := hR 5 (by omega)
        have h11 : u 11 = _ := hR 11 (by omega)
        have BX : Hid (Blk w' gx 44 zero32c) := bx
        have BY : Hid (Blk w' gy 44 zero32c) := by_
        have F10 := Lib.hid (F9.out.trans hf)
        have SEP : Hid (gx ≠ gy ∧ w.heap.size ≤ gx ∧ w.heap.size ≤ gy) := ⟨hxy, Nat.le_trans F9.out.size lx, Nat.le_trans F9.out.size ly⟩
        clear hR hN hA hf bx by_ lx ly hxy CS1 CS2 F9
        simp only [List.take_succ_cons, List.take_zero, List.map_cons, List.map_nil, puts, Act.put, List.setIfInBounds_toArray, List.set_cons_zero, List.set_cons_succ, List.drop_succ_cons, List.drop_zero, Nat.reduceAdd, Nat.zero_add, h5, h11, hx12, hy13]
        go_wp2_with (refine wpList_storeBlk rfl 44 (.tmp 13) _ rfl gx RV1 rfl rfl _ _ BX.out HI1.out HZ1.out HO1.out ?_)
        intro wx hb fx
        have BX1 := Lib.hid hb
        have BY1 := Lib.hid (BY.out.fr fx (fun e => by have e' : gy = gx := e; exact SEP.out.1 e'.symm))
        have FX1 : Hid (Fr Nothing w wx) := F10.out.then_ fx (fun i hi e => by have e' : i = gx := e; have := SEP.out; omega)
        clear hb fx BX BY F10
        go_wp2_with (refine wpList_storeBlk rfl 44 (.tmp 14) _ rfl gy RV2 rfl rfl _ _ BY1.out HI2.out HZ2.out HO2.out ?_)
        intro wy hb fx
        have BY2 := Lib.hid hb
        have BX2 := Lib.hid (BX1.out.fr fx (fun e => by have e' : gx = gy := e; exact SEP.out.1 e'))
        have FX2 : Hid (Fr Nothing w wy) := FX1.out.then_ fx (fun i hi e => by have e' : i = gy := e; have := SEP.out; omega)
        clear hb fx BX1 BY1 FX1
        go_wp2_with fail
        have hcv1 : ∀ y : In (Later wy), (convert 42 9 (.slice (some ⟨gx, 0, none⟩) 8 32)).run Tryd.prog y.w = .ok (.string CKs) y.w := fun y => RA1.out (BX2.out.fr y.h (fun x => x))
        have hcv2 : ∀ y : In (Later wy), (convert 42 9 (.slice (some ⟨gy, 0, none⟩) 8 32)).run Tryd.prog y.w = .ok (.string CKs) y.w := fun y => RA2.out (BY2.out.fr y.h (fun x => x))
        refine wp_region_in (Later wy) ((Fr.refl _ _).drew) (by kernel_rfl) (by kernel_rfl) ?_
        repeat (go_big_quiet_step (fail))
        refine wpQuiet_nil ?_
        rintro _ ⟨y, rfl⟩
        have FY := Lib.hid (FX2.out.trans y.h)
        generalize y.w = w12 at *
        clear hcv1 hcv2 y
        go_wp2
        go_ret
        exact ⟨rfl, FY.out⟩
end Go.Proofs.YtfdcmjjafngonaaDoor
