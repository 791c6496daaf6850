/- State: without (written by genSbB.py). -/
import Derived.Test.YtpnchdgplpdefaaGreatDoorEnSbA
namespace Go.Proofs.YtpnchdgplpdefaaGreatDoor
open Go.RowKit Go.Shelf
set_option maxRecDepth 100000 in
set_option maxHeartbeats 8000000 in
theorem without_any (t : Tr) : ∀ (nm : NameV) (a : Option Addr) (w : World), nm.owner.size ≤ 1099511627776 → (∃ v, (nm, v) ∈ t.toL) → NodH w a t → SortL t.toL → OwnS t.toL → t.size ≤ 1048575 → t.bytes ≤ 1099511627776 →
  Calls Tryz.prog 47 #[.pointer a, .agg nm.cells.toArray] w (Balanced w (delL nm t.toL)) := by
 induction t with
 | leaf =>
  intro nm a w _ h
  obtain ⟨v, h⟩ := h
  cases h
 | node l tnm tv r ihl ihr =>
  intro nm a w hno hmem hN hS hO hz hb
  have hsz : l.size + r.size + 1 ≤ 1048575 := by simp only [Tr.size] at hz; omega
  have hby : tv.size + l.bytes + r.bytes ≤ 1099511627776 := by simp only [Tr.bytes] at hb; omega
  have HSP := Lib.hid (SortL.parts hS)
  have HOP := Lib.hid (OwnS.parts hO)
  have HME := Lib.hid hmem
  obtain ⟨gq, la, ra, rfl, hl, hr, hbq⟩ := hN
  have HL := Lib.hid hl
  have HR := Lib.hid hr
  have HM : Hid (Mid w gq tnm tv) := Mid.of hbq
  have C0 : Hid (w.cell? ⟨gq, 0, none⟩ = some (.pointer la)) := hbq.cell 0
  have C1 : Hid (w.cell? ⟨gq, 1, none⟩ = some (.pointer ra)) := hbq.cell 1
  have CC : Hid (∀ w', Calls Tryz.prog 32 #[.agg nm.cells.toArray, .agg tnm.cells.toArray] w' (Same' w' (.int .i64 (cmpN nm tnm)))) := fun w' => objCompare_any nm tnm w' hno HOP.out.2.2
  obtain ⟨cc, hcc⟩ : ∃ cc, cc = cmpN nm tnm := ⟨_, rfl⟩
  rw [← hcc] at CC
  have HCC := Lib.hid hcc
  have inL : Hid (cc < 0 → ∃ v, (nm, v) ∈ l.toL) := fun h => by
   obtain ⟨v, hv⟩ := HME.out
   rw [HCC.out] at h
   simp only [Tr.toL, List.mem_append, List.mem_cons] at hv
   rcases hv with hv | hv | hv
   ·exact ⟨v, hv⟩
   ·simp only [Prod.mk.injEq] at hv
    rw [hv.1, cmpN_is.refl] at h
    omega
   ·have h2 := HSP.out.2.2.2 _ hv
    have h3 := cmpN_is.anti nm tnm
    simp only at h2
    omega
  have inR : Hid (0 < cc → ∃ v, (nm, v) ∈ r.toL) := fun h => by
   obtain ⟨v, hv⟩ := HME.out
   rw [HCC.out] at h
   simp only [Tr.toL, List.mem_append, List.mem_cons] at hv
   rcases hv with hv | hv | hv
   ·have h2 := HSP.out.2.2.1 _ hv
    simp only at h2
    omega
   ·simp only [Prod.mk.injEq] at hv
    rw [hv.1, cmpN_is.refl] at h
    omega
   ·exact ⟨v, hv⟩
  have WL : Hid (∀ w', cc < 0 → Fr Nothing w w' → Calls Tryz.prog 47 #[.pointer la, .agg nm.cells.toArray] w' (Balanced w' (delL nm l.toL))) := fun w' hc f => ihl nm la w' hno (inL.out hc) (HL.out.fr0 f) HSP.out.1 HOP.out.1 (by omega) (by omega)
  have WR : Hid (∀ w' n, n.owner.size ≤ 1099511627776 → (∃ v, (n, v) ∈ r.toL) → Fr Nothing w w' → Calls Tryz.prog 47 #[.pointer ra, .agg n.cells.toArray] w' (Balanced w' (delL n r.toL))) := fun w' n hn hm f => ihr n ra w' hn hm (HR.out.fr0 f) HSP.out.2.1 HOP.out.2.1 (by omega) (by omega)
  have BL : Hid (∀ w' b u, Fr Nothing w w' → NodH w' b u → u.toL = delL nm l.toL → Calls Tryz.prog 81 #[.pointer b, .pointer (some ⟨gq, 0, none⟩), .pointer ra] w' (Balanced w' (delL nm l.toL ++ (tnm, tv) :: r.toL))) := fun w' b u f hn e => by
   have h1 := delL_size (nm := nm) l.toL
   rw [Tr.toL_length, ← Tr.bytes_toL] at h1
   exact balance_of hn (HR.out.fr0 f) (HM.out.fr0 f) e rfl (by rw [Tr.toL_length]; omega) (by rw [← Tr.bytes_toL]; omega)
  have BR : Hid (∀ w' b u n m v, Fr Nothing w w' → Mid w' m n v → v.size ≤ tv.size + r.bytes → bytesL (delL n r.toL) + v.size ≤ tv.size + r.bytes → NodH w' b u → u.toL = delL n r.toL → Calls Tryz.prog 81 #[.pointer la, .pointer (some ⟨m, 0, none⟩), .pointer b] w' (Balanced w' (l.toL ++ (n, v) :: delL n r.toL))) := fun w' b u n m v f hm _ hv hn e => by
   have h1 := delL_size (nm := n) r.toL
   rw [Tr.toL_length, ← Tr.bytes_toL] at h1
   exact balance_of (HL.out.fr0 f) hn hm rfl e (by rw [Tr.toL_length]; omega) (by rw [← Tr.bytes_toL]; omega)
  have HNO := Lib.hid hno
  have HSZ := Lib.hid hsz
  have HBY := Lib.hid hby
  clear hl hr hbq hS hO hz hb hsz hby hcc ihl ihr hmem hno
  go_enter Tryz.func47, Tryz.ntmps47
  go_wp2_with (refine wpList_boxBlk rfl 44 (.tmp 1) rfl nm.cells.toArray rfl ?_)
  intro w1 n1
  have F1 := Lib.hid n1.fr
  have NB0 := Lib.hid n1.blk
  clear n1
  generalize w.heap.size = gb at *
  have NB : Hid (Blk w1 gb 44 nm.cells.toArray) := NB0.out
  clear NB0
  go_upto_region 1 with fail
  refine wp_region_st 7 Nothing [Is (.agg nm.cells.toArray), Is (.pointer (some ⟨gq, 0, none⟩)), Is (.pointer (some ⟨gq, 0, none⟩)), Is (.pointer (some ⟨gq, 2, none⟩)), Is (.agg tnm.cells.toArray), Is (.int .i64 cc), Is (.int .i64 cc)] [] (fun _ => True) (fun _ _ => false) (by kernel_rfl) (by kernel_rfl) (by kernel_rfl) (by kernel_rfl) ⟨Is.stable _, Is.stable _, Is.stable _, Is.stable _, Is.stable _, Is.stable _, Is.stable _, trivial⟩ trivial (fun _ _ _ _ h => h) trivial ?_ ?_
  ·refine ⟨fun u w' d hf hR k1 k0 kM => ?_, fun u w' d hf hR k1 k0 kM => ?_, fun u w' d hf hR k1 k0 kM => ?_, fun u w' d hf hR k1 k0 kM => ?_, fun u w' d hf hR k1 k0 kM => ?_, fun u w' d hf hR k1 k0 kM => ?_, fun u w' d hf hR k1 k0 kM => ?_, trivial⟩
   all_goals simp only [List.take_succ_cons, List.take_zero, List.map_cons, List.map_nil, puts, Act.put, List.setIfInBounds_toArray, List.set_cons_zero, List.set_cons_succ, Nat.reduceAdd, Nat.zero_add]
   ·clear hR k1 k0 kM
    refine .inl ⟨by kernel_rfl, ?_⟩
    exact wp_load_add _ _ rfl ⟨gb, 0, none⟩ rfl nm.cells _ (fun j x hx => by rw [Addr.add_mid, Nat.zero_add]; exact (NB.out.fr hf (fun x => x)).cell j |>.trans (by rw [List.getElem?_toArray]; exact hx)) Tryz.underlying44 rfl infoName ⟨_, rfl, Fr.refl _ _, rfl, trivial⟩
   ·clear hR k1 k0 kM
    refine .inl ⟨by kernel_rfl, ?_⟩
    go_simp
    exact ⟨_, rfl, Fr.refl _ _, rfl, trivial⟩
   ·have h1 : u 1 = _ := hR 1 (by kernel_rfl)
    clear hR k1 k0 kM
    simp only [h1]
    refine .inl ⟨by kernel_rfl, ?_⟩
    go_simp
    exact ⟨_, rfl, Fr.refl _ _, rfl, trivial⟩
   ·have h2 : u 2 = _ := hR 2 (by kernel_rfl)
    clear hR k1 k0 kM
    simp only [h2]
    refine .inl ⟨by kernel_rfl, ?_⟩
    go_simp
    exact ⟨_, rfl, Fr.refl _ _, rfl, trivial⟩
   ·have h3 : u 3 = _ := hR 3 (by kernel_rfl)
    clear hR k1 k0 kM
    simp only [h3]
    refine .inl ⟨by kernel_rfl, ?_⟩
    exact wp_load_add _ _ rfl ⟨gq, 2, none⟩ rfl tnm.cells _ (fun j x hx => by rw [Addr.add_mid]; exact (F1.out.trans hf).cellSome (HM.out.name j x hx) (fun x => x)) Tryz.underlying44 rfl infoName ⟨_, rfl, Fr.refl _ _, rfl, trivial⟩
   ·have h0 : u 0 = _ := hR 0 (by kernel_rfl)
    have h4 : u 4 = _ := hR 4 (by kernel_rfl)
    clear hR k1 k0 kM
    simp only [h0, h4]
    refine .inl ⟨by kernel_rfl, ?_⟩
    go_simp
    refine (CC.out _).mono ?_
    rintro e w4 ⟨rfl, f4⟩
    exact ⟨_, rfl, f4.weak, rfl, trivial⟩
   ·have h5 : u 5 = _ := hR 5 (by kernel_rfl)
    clear hR k1 k0 kM
    simp only [h5]
    refine .inl ⟨by kernel_rfl, ?_⟩
    go_simp
    exact ⟨_, rfl, Fr.refl _ _, rfl, trivial⟩
  ·intro u w' hf hR kM
   have k6 : u 6 = _ := hR 6 (by omega)
   clear hR kM
   simp only [List.take_succ_cons, List.take_zero, List.map_cons, List.map_nil, puts, Act.put, List.setIfInBounds_toArray, List.set_cons_zero, List.set_cons_succ, List.drop_succ_cons, List.drop_zero, Nat.reduceAdd, Nat.zero_add, k6]
   have FA := Lib.hid (F1.out.trans hf)
   have NB2 := Lib.hid (NB.out.fr hf (fun x => x))
   clear hf k6
   by_cases h1 : cc < 0
   ·have t1 : decide (cc < 0) = true := decide_eq_true h1
    have H1 := Lib.hid h1
    clear h1
    go_upto_region 3 with fail
    refine wp_region_st 13 Nothing [Is (.pointer (some ⟨gq, 0, none⟩)), Is (.pointer (some ⟨gq, 0, none⟩)), Is (.pointer (some ⟨gq, 0, none⟩)), Is (.pointer la), Is (.agg nm.cells.toArray), (fun zv zW => NodL zW zv (delL nm l.toL)), Is (.pointer (some ⟨gq, 0, none⟩)), Is (.pointer (some ⟨gq, 0, none⟩)), Is (.pointer (some ⟨gq, 0, none⟩)), Is (.pointer (some ⟨gq, 1, none⟩)), Is (.pointer ra), (fun zv zW => NodL zW zv ((delL nm l.toL ++ (tnm, tv) :: r.toL))), (fun zv zW => NodL zW zv ((delL nm l.toL ++ (tnm, tv) :: r.toL)))] [] (fun _ => True) (fun _ _ => false) (by kernel_rfl) (by kernel_rfl) (by kernel_rfl) (by kernel_rfl) ⟨Is.stable _, Is.stable _, Is.stable _, Is.stable _, Is.stable _, fun v w1 w2 _ f h => by obtain ⟨a, t, e, hn, hl⟩ := h; exact ⟨a, t, e, hn.fr0 f, hl⟩, Is.stable _, Is.stable _, Is.stable _, Is.stable _, Is.stable _, fun v w1 w2 _ f h => by obtain ⟨a, t, e, hn, hl⟩ := h; exact ⟨a, t, e, hn.fr0 f, hl⟩, fun v w1 w2 _ f h => by obtain ⟨a, t, e, hn, hl⟩ := h; exact ⟨a, t, e, hn.fr0 f, hl⟩, trivial⟩ trivial (fun _ _ _ _ h => h) trivial ?_ ?_
    ·refine ⟨fun u w' d hf hR k1 k0 kM => ?_, fun u w' d hf hR k1 k0 kM => ?_, fun u w' d hf hR k1 k0 kM => ?_, fun u w' d hf hR k1 k0 kM => ?_, fun u w' d hf hR k1 k0 kM => ?_, fun u w' d hf hR k1 k0 kM => ?_, fun u w' d hf hR k1 k0 kM => ?_, fun u w' d hf hR k1 k0 kM => ?_, fun u w' d hf hR k1 k0 kM => ?_, fun u w' d hf hR k1 k0 kM => ?_, fun u w' d hf hR k1 k0 kM => ?_, fun u w' d hf hR k1 k0 kM => ?_, fun u w' d hf hR k1 k0 kM => ?_, trivial⟩
     all_goals simp only [List.take_succ_cons, List.take_zero, List.map_cons, List.map_nil, puts, Act.put, List.setIfInBounds_toArray, List.set_cons_zero, List.set_cons_succ, Nat.reduceAdd, Nat.zero_add]
     ·clear hR k1 k0 kM
      refine .inl ⟨by kernel_rfl, ?_⟩
      go_simp
      exact ⟨_, rfl, Fr.refl _ _, rfl, trivial⟩
     ·have h0 : u 0 = _ := hR 0 (by kernel_rfl)
      clear hR k1 k0 kM
      simp only [h0]
      refine .inl ⟨by kernel_rfl, ?_⟩
      go_simp
      exact ⟨_, rfl, Fr.refl _ _, rfl, trivial⟩
     ·have h1 : u 1 = _ := hR 1 (by kernel_rfl)
      clear hR k1 k0 kM
      simp only [h1]
      refine .inl ⟨by kernel_rfl, ?_⟩
      go_simp
      exact ⟨_, rfl, Fr.refl _ _, rfl, trivial⟩
     ·have h2 : u 2 = _ := hR 2 (by kernel_rfl)
      clear hR k1 k0 kM
      simp only [h2]
      refine .inl ⟨by kernel_rfl, ?_⟩
      have q := hf.cellSome (FA.out.cellSome C0.out (fun x => x)) (fun x => x)
      go_simp
      exact ⟨_, rfl, Fr.refl _ _, rfl, trivial⟩
     ·clear hR k1 k0 kM
      refine .inl ⟨by kernel_rfl, ?_⟩
      exact wp_load_add _ _ rfl ⟨gb, 0, none⟩ rfl nm.cells _ (fun j x hx => by rw [Addr.add_mid, Nat.zero_add]; exact (NB2.out.fr hf (fun x => x)).cell j |>.trans (by rw [List.getElem?_toArray]; exact hx)) Tryz.underlying44 rfl infoName ⟨_, rfl, Fr.refl _ _, rfl, trivial⟩
     ·have h3 : u 3 = _ := hR 3 (by kernel_rfl)
      have h4 : u 4 = _ := hR 4 (by kernel_rfl)
      clear hR k1 k0 kM
      simp only [h3, h4]
      refine .inl ⟨by kernel_rfl, ?_⟩
      go_simp
      refine (WL.out _ H1.out (FA.out.trans hf)).mono ?_
      rintro e w4 ⟨za, zt, rfl, hn, hl, f4⟩
      exact ⟨_, rfl, f4.weak, ⟨za, zt, rfl, hn, hl⟩, trivial⟩
     ·clear hR k1 k0 kM
      refine .inl ⟨by kernel_rfl, ?_⟩
      go_simp
      exact ⟨_, rfl, Fr.refl _ _, rfl, trivial⟩
     ·clear hR k1 k0 kM
      refine .inl ⟨by kernel_rfl, ?_⟩
      go_simp
      exact ⟨_, rfl, Fr.refl _ _, rfl, trivial⟩
     ·have h7 : u 7 = _ := hR 7 (by kernel_rfl)
      clear hR k1 k0 kM
      simp only [h7]
      refine .inl ⟨by kernel_rfl, ?_⟩
      go_simp
      exact ⟨_, rfl, Fr.refl _ _, rfl, trivial⟩
     ·have h8 : u 8 = _ := hR 8 (by kernel_rfl)
      clear hR k1 k0 kM
      simp only [h8]
      refine .inl ⟨by kernel_rfl, ?_⟩
      go_simp
      exact ⟨_, rfl, Fr.refl _ _, rfl, trivial⟩
     ·have h9 : u 9 = _ := hR 9 (by kernel_rfl)
      clear hR k1 k0 kM
      simp only [h9]
      refine .inl ⟨by kernel_rfl, ?_⟩
      have q := hf.cellSome (FA.out.cellSome C1.out (fun x => x)) (fun x => x)
      go_simp
      exact ⟨_, rfl, Fr.refl _ _, rfl, trivial⟩
     ·obtain ⟨a5, t5, e5, n5, l5⟩ := hR 5 (by kernel_rfl)
      have h6 : u 6 = _ := hR 6 (by kernel_rfl)
      have h10 : u 10 = _ := hR 10 (by kernel_rfl)
      clear hR k1 k0 kM
      simp only [e5, h6, h10]
      refine .inl ⟨by kernel_rfl, ?_⟩
      go_simp
      refine (BL.out _ _ _ (FA.out.trans hf) n5 l5).mono ?_
      rintro e w4 ⟨za, zt, rfl, hn, hl, f4⟩
      exact ⟨_, rfl, f4.weak, ⟨za, zt, rfl, hn, hl⟩, trivial⟩
     ·obtain ⟨a11, t11, e11, n11, l11⟩ := hR 11 (by kernel_rfl)
      clear hR k1 k0 kM
      simp only [e11]
      refine .inl ⟨by kernel_rfl, ?_⟩
      go_simp
      exact ⟨_, rfl, Fr.refl _ _, ⟨_, _, rfl, n11, l11⟩, trivial⟩
    ·intro u w' hf hR kM
     obtain ⟨a12, t12, e12, n12, l12⟩ := hR 12 (by omega)
     clear hR kM
     simp only [List.take_succ_cons, List.take_zero, List.map_cons, List.map_nil, puts, Act.put, List.setIfInBounds_toArray, List.set_cons_zero, List.set_cons_succ, List.drop_succ_cons, List.drop_zero, Nat.reduceAdd, Nat.zero_add, e12]
     have HF := Lib.hid (FA.out.trans hf)
     have HN := Lib.hid n12
     have HLE := Lib.hid l12
     clear hf n12 e12 l12
     go_wp2
     go_ret
     refine ⟨_, _, rfl, HN.out, ?_, HF.out⟩
     have hn : cmpN nm tnm < 0 := by have h := H1.out; rw [HCC.out] at h; exact h
     rw [HLE.out, Tr.toL, delL_lt _ _ (fun y hy => ?_) (inL.out H1.out)]
     rcases List.mem_cons.1 hy with rfl | hy
     ·exact hn
     ·exact cmpN_is.trans _ _ _ hn (HSP.out.2.2.2 y hy)
   ·have t1 : decide (cc < 0) = false := decide_eq_false h1
    by_cases h2 : 0 < cc
    ·have t2 : decide (0 < cc) = true := decide_eq_true h2
     have H2 := Lib.hid h2
     have BR1 : Hid (∀ w' b u, Fr Nothing w w' → NodH w' b u → u.toL = delL nm r.toL → Calls Tryz.prog 81 #[.pointer la, .pointer (some ⟨gq, 0, none⟩), .pointer b] w' (Balanced w' (l.toL ++ (tnm, tv) :: delL nm r.toL))) := fun w' b u f hn e => by
      have h1 := delL_size (nm := nm) r.toL
      rw [Tr.toL_length, ← Tr.bytes_toL] at h1
      exact balance_of (HL.out.fr0 f) hn (HM.out.fr0 f) rfl e (by have h := HSZ.out; rw [Tr.toL_length]; omega) (by have h := HBY.out; rw [← Tr.bytes_toL]; omega)
     clear h1 h2
     go_upto_region 5 with fail
     refine wp_region_st 13 Nothing [Is (.pointer (some ⟨gq, 0, none⟩)), Is (.pointer (some ⟨gq, 0, none⟩)), Is (.pointer (some ⟨gq, 0, none⟩)), Is (.pointer la), Is (.pointer (some ⟨gq, 0, none⟩)), Is (.pointer (some ⟨gq, 0, none⟩)), Is (.pointer (some ⟨gq, 0, none⟩)), Is (.pointer (some ⟨gq, 1, none⟩)), Is (.pointer ra), Is (.agg nm.cells.toArray), (fun zv zW => NodL zW zv (delL nm r.toL)), (fun zv zW => NodL zW zv ((l.toL ++ (tnm, tv) :: delL nm r.toL))), (fun zv zW => NodL zW zv ((l.toL ++ (tnm, tv) :: delL nm r.toL)))] [] (fun _ => True) (fun _ _ => false) (by kernel_rfl) (by kernel_rfl) (by kernel_rfl) (by kernel_rfl) ⟨Is.stable _, Is.stable _, Is.stable _, Is.stable _, Is.stable _, Is.stable _, Is.stable _, Is.stable _, Is.stable _, Is.stable _, fun v w1 w2 _ f h => by obtain ⟨a, t, e, hn, hl⟩ := h; exact ⟨a, t, e, hn.fr0 f, hl⟩, fun v w1 w2 _ f h => by obtain ⟨a, t, e, hn, hl⟩ := h; exact ⟨a, t, e, hn.fr0 f, hl⟩, fun v w1 w2 _ f h => by obtain ⟨a, t, e, hn, hl⟩ := h; exact ⟨a, t, e, hn.fr0 f, hl⟩, trivial⟩ trivial (fun _ _ _ _ h => h) trivial ?_ ?_
     ·refine ⟨fun u w' d hf hR k1 k0 kM => ?_, fun u w' d hf hR k1 k0 kM => ?_, fun u w' d hf hR k1 k0 kM => ?_, fun u w' d hf hR k1 k0 kM => ?_, fun u w' d hf hR k1 k0 kM => ?_, fun u w' d hf hR k1 k0 kM => ?_, fun u w' d hf hR k1 k0 kM => ?_, fun u w' d hf hR k1 k0 kM => ?_, fun u w' d hf hR k1 k0 kM => ?_, fun u w' d hf hR k1 k0 kM => ?_, fun u w' d hf hR k1 k0 kM => ?_, fun u w' d hf hR k1 k0 kM => ?_, fun u w' d hf hR k1 k0 kM => ?_, trivial⟩
      all_goals simp only [List.take_succ_cons, List.take_zero, List.map_cons, List.map_nil, puts, Act.put, List.setIfInBounds_toArray, List.set_cons_zero, List.set_cons_succ, Nat.reduceAdd, Nat.zero_add]
      ·clear hR k1 k0 kM
       refine .inl ⟨by kernel_rfl, ?_⟩
       go_simp
       exact ⟨_, rfl, Fr.refl _ _, rfl, trivial⟩
      ·have h0 : u 0 = _ := hR 0 (by kernel_rfl)
       clear hR k1 k0 kM
       simp only [h0]
       refine .inl ⟨by kernel_rfl, ?_⟩
       go_simp
       exact ⟨_, rfl, Fr.refl _ _, rfl, trivial⟩
      ·have h1 : u 1 = _ := hR 1 (by kernel_rfl)
       clear hR k1 k0 kM
       simp only [h1]
       refine .inl ⟨by kernel_rfl, ?_⟩
       go_simp
       exact ⟨_, rfl, Fr.refl _ _, rfl, trivial⟩
      ·have h2 : u 2 = _ := hR 2 (by kernel_rfl)
       clear hR k1 k0 kM
       simp only [h2]
       refine .inl ⟨by kernel_rfl, ?_⟩
       have q := hf.cellSome (FA.out.cellSome C0.out (fun x => x)) (fun x => x)
       go_simp
       exact ⟨_, rfl, Fr.refl _ _, rfl, trivial⟩
      ·clear hR k1 k0 kM
       refine .inl ⟨by kernel_rfl, ?_⟩
       go_simp
       exact ⟨_, rfl, Fr.refl _ _, rfl, trivial⟩
      ·clear hR k1 k0 kM
       refine .inl ⟨by kernel_rfl, ?_⟩
       go_simp
       exact ⟨_, rfl, Fr.refl _ _, rfl, trivial⟩
      ·have h5 : u 5 = _ := hR 5 (by kernel_rfl)
       clear hR k1 k0 kM
       simp only [h5]
       refine .inl ⟨by kernel_rfl, ?_⟩
       go_simp
       exact ⟨_, rfl, Fr.refl _ _, rfl, trivial⟩
      ·have h6 : u 6 = _ := hR 6 (by kernel_rfl)
       clear hR k1 k0 kM
       simp only [h6]
       refine .inl ⟨by kernel_rfl, ?_⟩
       go_simp
       exact ⟨_, rfl, Fr.refl _ _, rfl, trivial⟩
      ·have h7 : u 7 = _ := hR 7 (by kernel_rfl)
       clear hR k1 k0 kM
       simp only [h7]
       refine .inl ⟨by kernel_rfl, ?_⟩
       have q := hf.cellSome (FA.out.cellSome C1.out (fun x => x)) (fun x => x)
       go_simp
       exact ⟨_, rfl, Fr.refl _ _, rfl, trivial⟩
      ·clear hR k1 k0 kM
       refine .inl ⟨by kernel_rfl, ?_⟩
       exact wp_load_add _ _ rfl ⟨gb, 0, none⟩ rfl nm.cells _ (fun j x hx => by rw [Addr.add_mid, Nat.zero_add]; exact (NB2.out.fr hf (fun x => x)).cell j |>.trans (by rw [List.getElem?_toArray]; exact hx)) Tryz.underlying44 rfl infoName ⟨_, rfl, Fr.refl _ _, rfl, trivial⟩
      ·have h8 : u 8 = _ := hR 8 (by kernel_rfl)
       have h9 : u 9 = _ := hR 9 (by kernel_rfl)
       clear hR k1 k0 kM
       simp only [h8, h9]
       refine .inl ⟨by kernel_rfl, ?_⟩
       go_simp
       refine (WR.out _ nm HNO.out (inR.out H2.out) (FA.out.trans hf)).mono ?_
       rintro e w4 ⟨za, zt, rfl, hn, hl, f4⟩
       exact ⟨_, rfl, f4.weak, ⟨za, zt, rfl, hn, hl⟩, trivial⟩
      ·have h3 : u 3 = _ := hR 3 (by kernel_rfl)
       have h4 : u 4 = _ := hR 4 (by kernel_rfl)
       obtain ⟨a10, t10, e10, n10, l10⟩ := hR 10 (by kernel_rfl)
       clear hR k1 k0 kM
       simp only [h3, h4, e10]
       refine .inl ⟨by kernel_rfl, ?_⟩
       go_simp
       refine (BR1.out _ _ _ (FA.out.trans hf) n10 l10).mono ?_
       rintro e w4 ⟨za, zt, rfl, hn, hl, f4⟩
       exact ⟨_, rfl, f4.weak, ⟨za, zt, rfl, hn, hl⟩, trivial⟩
      ·obtain ⟨a11, t11, e11, n11, l11⟩ := hR 11 (by kernel_rfl)
       clear hR k1 k0 kM
       simp only [e11]
       refine .inl ⟨by kernel_rfl, ?_⟩
       go_simp
       exact ⟨_, rfl, Fr.refl _ _, ⟨_, _, rfl, n11, l11⟩, trivial⟩
     ·intro u w' hf hR kM
      obtain ⟨a12, t12, e12, n12, l12⟩ := hR 12 (by omega)
      clear hR kM
      simp only [List.take_succ_cons, List.take_zero, List.map_cons, List.map_nil, puts, Act.put, List.setIfInBounds_toArray, List.set_cons_zero, List.set_cons_succ, List.drop_succ_cons, List.drop_zero, Nat.reduceAdd, Nat.zero_add, e12]
      have HF := Lib.hid (FA.out.trans hf)
      have HN := Lib.hid n12
      have HLE := Lib.hid l12
      clear hf n12 e12 l12
      go_wp2
      go_ret
      refine ⟨_, _, rfl, HN.out, ?_, HF.out⟩
      have hp : 0 < cmpN nm tnm := by have h := H2.out; rw [HCC.out] at h; exact h
      rw [HLE.out, Tr.toL, delL_gt _ _ (fun y hy => cmpN_pos (cmpN_is.trans _ _ _ (HSP.out.2.2.1 y hy) (cmpN_neg hp))), delL, if_neg (by simp only; omega)]
    ·have t2 : decide (0 < cc) = false := decide_eq_false h2
     have HE : Hid (nm = tnm) := cmpN_is.eq nm tnm (by have h := HCC.out; omega)
     have DL : Hid (delL nm (Tr.node l tnm tv r).toL = l.toL ++ r.toL) := by
      simp only [Hid]
      rw [Tr.toL, delL_gt _ _ (fun y hy => by rw [HE.out]; exact cmpN_pos (HSP.out.2.2.1 y hy)), delL, HE.out]
      simp only [cmpN_is.refl]
      rfl
     clear h1 h2
     cases r with
     | leaf =>
      obtain rfl : ra = none := HR.out
      have c0 := FA.out.cellSome C0.out (fun x => x)
      have c1 := FA.out.cellSome C1.out (fun x => x)
      go_wp2
      go_ret
      refine ⟨_, l, rfl, HL.out.fr0 FA.out, ?_, FA.out⟩
      rw [DL.out, Tr.toL, List.append_nil]
     | node rl rnm rv rr =>
      have c1 := FA.out.cellSome C1.out (fun x => x)
      obtain ⟨gr, rla, rra, hra, _, _, _⟩ := HR.out
      subst hra
      go_wp2
      clear c1
      go_loopw [6] (fun i wr => ∃ (b : Option Addr) (u ul ur : Tr) (unm : NameV) (uv : ByteArray) (M : List Ent), i = .pointer b ∧ u = .node ul unm uv ur ∧ NodH wr b u ∧ (Tr.node rl rnm rv rr).toL = u.toL ++ M ∧ Fr Nothing w wr) (fun i wr => hgt wr i)
      case atStart => exact ⟨_, _, rl, rr, rnm, rv, [], rfl, rfl, HR.out.fr0 FA.out, by simp, FA.out⟩
      case round =>
       obtain ⟨b, u, ul, ur, unm, uv, M, rfl, rfl, hN, hM, hfr⟩ := hrel
       have HHG := Lib.hid (hgt_eq hN)
       obtain ⟨gx, xa, ya, rfl, hxl, hxr, hbx⟩ := hN
       have HXL := Lib.hid hxl
       have MX : Hid (Mid wr gx unm uv) := Mid.of hbx
       have q0 : wr.cell? ⟨gx, 0, none⟩ = some (.pointer xa) := hbx.cell 0
       have HMM := Lib.hid hM
       have FB := Lib.hid hfr
       clear hxl hxr hbx hM hfr
       cases ul with
       | leaf =>
        obtain rfl : xa = none := HXL.out
        have HEQ : Hid ((Tr.node rl rnm rv rr).toL = (unm, uv) :: (ur.toL ++ M)) := by simp only [Hid]; rw [HMM.out]; simp [Tr.toL]
        have HDX : Hid (delL unm (Tr.node rl rnm rv rr).toL = ur.toL ++ M) := by simp only [Hid]; rw [HEQ.out, delL, if_pos (cmpN_is.refl _)]
        have HXO : Hid (unm.owner.size ≤ 1099511627776) := HOP.out.2.1 (unm, uv) (by rw [HEQ.out]; simp)
        have HXM : Hid (∃ v, (unm, v) ∈ (Tr.node rl rnm rv rr).toL) := ⟨uv, by rw [HEQ.out]; simp⟩
        have HXB : Hid (bytesL (delL unm (Tr.node rl rnm rv rr).toL) + uv.size ≤ tv.size + (Tr.node rl rnm rv rr).bytes) := by
         simp only [Hid]
         rw [HDX.out, Tr.bytes_toL, HEQ.out]
         simp only [bytesL, List.map_cons, List.sum_cons]
         omega
        go_upto_region 11 with fail
        refine wp_region_st 16 Nothing [Is (.pointer (some ⟨gq, 0, none⟩)), Is (.pointer (some ⟨gq, 0, none⟩)), Is (.pointer (some ⟨gq, 0, none⟩)), Is (.pointer la), Is (.pointer (some ⟨gx, 0, none⟩)), Is (.pointer (some ⟨gq, 0, none⟩)), Is (.pointer (some ⟨gq, 0, none⟩)), Is (.pointer (some ⟨gq, 1, none⟩)), Is (.pointer (some ⟨gr, 0, none⟩)), Is (.pointer (some ⟨gx, 0, none⟩)), Is (.pointer (some ⟨gx, 0, none⟩)), Is (.pointer (some ⟨gx, 2, none⟩)), Is (.agg unm.cells.toArray), (fun zv zW => NodL zW zv (delL unm (Tr.node rl rnm rv rr).toL)), (fun zv zW => NodL zW zv ((l.toL ++ (unm, uv) :: delL unm (Tr.node rl rnm rv rr).toL))), (fun zv zW => NodL zW zv ((l.toL ++ (unm, uv) :: delL unm (Tr.node rl rnm rv rr).toL)))] [] (fun _ => True) (fun _ _ => false) (by kernel_rfl) (by kernel_rfl) (by kernel_rfl) (by kernel_rfl) ⟨Is.stable _, Is.stable _, Is.stable _, Is.stable _, Is.stable _, Is.stable _, Is.stable _, Is.stable _, Is.stable _, Is.stable _, Is.stable _, Is.stable _, Is.stable _, fun v w1 w2 _ f h => by obtain ⟨a, t, e, hn, hl⟩ := h; exact ⟨a, t, e, hn.fr0 f, hl⟩, fun v w1 w2 _ f h => by obtain ⟨a, t, e, hn, hl⟩ := h; exact ⟨a, t, e, hn.fr0 f, hl⟩, fun v w1 w2 _ f h => by obtain ⟨a, t, e, hn, hl⟩ := h; exact ⟨a, t, e, hn.fr0 f, hl⟩, trivial⟩ trivial (fun _ _ _ _ h => h) trivial ?_ ?_
        ·refine ⟨fun u w' d hf hR k1 k0 kM => ?_, fun u w' d hf hR k1 k0 kM => ?_, fun u w' d hf hR k1 k0 kM => ?_, fun u w' d hf hR k1 k0 kM => ?_, fun u w' d hf hR k1 k0 kM => ?_, fun u w' d hf hR k1 k0 kM => ?_, fun u w' d hf hR k1 k0 kM => ?_, fun u w' d hf hR k1 k0 kM => ?_, fun u w' d hf hR k1 k0 kM => ?_, fun u w' d hf hR k1 k0 kM => ?_, fun u w' d hf hR k1 k0 kM => ?_, fun u w' d hf hR k1 k0 kM => ?_, fun u w' d hf hR k1 k0 kM => ?_, fun u w' d hf hR k1 k0 kM => ?_, fun u w' d hf hR k1 k0 kM => ?_, fun u w' d hf hR k1 k0 kM => ?_, trivial⟩
         all_goals simp only [List.take_succ_cons, List.take_zero, List.map_cons, List.map_nil, puts, Act.put, List.setIfInBounds_toArray, List.set_cons_zero, List.set_cons_succ, Nat.reduceAdd, Nat.zero_add]
         ·clear hR k1 k0 kM
          refine .inl ⟨by kernel_rfl, ?_⟩
          go_simp
          exact ⟨_, rfl, Fr.refl _ _, rfl, trivial⟩
         ·have h0 : u 0 = _ := hR 0 (by kernel_rfl)
          clear hR k1 k0 kM
          simp only [h0]
          refine .inl ⟨by kernel_rfl, ?_⟩
          go_simp
          exact ⟨_, rfl, Fr.refl _ _, rfl, trivial⟩
         ·have h1 : u 1 = _ := hR 1 (by kernel_rfl)
          clear hR k1 k0 kM
          simp only [h1]
          refine .inl ⟨by kernel_rfl, ?_⟩
          go_simp
          exact ⟨_, rfl, Fr.refl _ _, rfl, trivial⟩
         ·have h2 : u 2 = _ := hR 2 (by kernel_rfl)
          clear hR k1 k0 kM
          simp only [h2]
          refine .inl ⟨by kernel_rfl, ?_⟩
          have q := hf.cellSome (FB.out.cellSome C0.out (fun x => x)) (fun x => x)
          go_simp
          exact ⟨_, rfl, Fr.refl _ _, rfl, trivial⟩
         ·clear hR k1 k0 kM
          refine .inl ⟨by kernel_rfl, ?_⟩
          go_simp
          exact ⟨_, rfl, Fr.refl _ _, rfl, trivial⟩
         ·clear hR k1 k0 kM
          refine .inl ⟨by kernel_rfl, ?_⟩
          go_simp
          exact ⟨_, rfl, Fr.refl _ _, rfl, trivial⟩
         ·have h5 : u 5 = _ := hR 5 (by kernel_rfl)
          clear hR k1 k0 kM
          simp only [h5]
          refine .inl ⟨by kernel_rfl, ?_⟩
          go_simp
          exact ⟨_, rfl, Fr.refl _ _, rfl, trivial⟩
         ·have h6 : u 6 = _ := hR 6 (by kernel_rfl)
          clear hR k1 k0 kM
          simp only [h6]
          refine .inl ⟨by kernel_rfl, ?_⟩
          go_simp
          exact ⟨_, rfl, Fr.refl _ _, rfl, trivial⟩
         ·have h7 : u 7 = _ := hR 7 (by kernel_rfl)
          clear hR k1 k0 kM
          simp only [h7]
          refine .inl ⟨by kernel_rfl, ?_⟩
          have q := hf.cellSome (FB.out.cellSome C1.out (fun x => x)) (fun x => x)
          go_simp
          exact ⟨_, rfl, Fr.refl _ _, rfl, trivial⟩
         ·clear hR k1 k0 kM
          refine .inl ⟨by kernel_rfl, ?_⟩
          go_simp
          exact ⟨_, rfl, Fr.refl _ _, rfl, trivial⟩
         ·have h9 : u 9 = _ := hR 9 (by kernel_rfl)
          clear hR k1 k0 kM
          simp only [h9]
          refine .inl ⟨by kernel_rfl, ?_⟩
          go_simp
          exact ⟨_, rfl, Fr.refl _ _, rfl, trivial⟩
         ·have h10 : u 10 = _ := hR 10 (by kernel_rfl)
          clear hR k1 k0 kM
          simp only [h10]
          refine .inl ⟨by kernel_rfl, ?_⟩
          go_simp
          exact ⟨_, rfl, Fr.refl _ _, rfl, trivial⟩
         ·have h11 : u 11 = _ := hR 11 (by kernel_rfl)
          clear hR k1 k0 kM
          simp only [h11]
          refine .inl ⟨by kernel_rfl, ?_⟩
          exact wp_load_add _ _ rfl ⟨gx, 2, none⟩ rfl unm.cells _ (fun j x hx => by rw [Addr.add_mid]; exact hf.cellSome (MX.out.name j x hx) (fun x => x)) Tryz.underlying44 rfl infoName ⟨_, rfl, Fr.refl _ _, rfl, trivial⟩
         ·have h8 : u 8 = _ := hR 8 (by kernel_rfl)
          have h12 : u 12 = _ := hR 12 (by kernel_rfl)
          clear hR k1 k0 kM
          simp only [h8, h12]
          refine .inl ⟨by kernel_rfl, ?_⟩
          go_simp
          refine (WR.out _ unm HXO.out HXM.out (FB.out.trans hf)).mono ?_
          rintro e w4 ⟨za, zt, rfl, hn, hl, f4⟩
          exact ⟨_, rfl, f4.weak, ⟨za, zt, rfl, hn, hl⟩, trivial⟩
         ·have h3 : u 3 = _ := hR 3 (by kernel_rfl)
          have h4 : u 4 = _ := hR 4 (by kernel_rfl)
          obtain ⟨a13, t13, e13, n13, l13⟩ := hR 13 (by kernel_rfl)
          clear hR k1 k0 kM
          simp only [h3, h4, e13]
          refine .inl ⟨by kernel_rfl, ?_⟩
          go_simp
          refine (BR.out _ _ _ unm gx uv (FB.out.trans hf) (MX.out.fr0 hf) (by have := HXB.out; omega) HXB.out n13 l13).mono ?_
          rintro e w4 ⟨za, zt, rfl, hn, hl, f4⟩
          exact ⟨_, rfl, f4.weak, ⟨za, zt, rfl, hn, hl⟩, trivial⟩
         ·obtain ⟨a14, t14, e14, n14, l14⟩ := hR 14 (by kernel_rfl)
          clear hR k1 k0 kM
          simp only [e14]
          refine .inl ⟨by kernel_rfl, ?_⟩
          go_simp
          exact ⟨_, rfl, Fr.refl _ _, ⟨_, _, rfl, n14, l14⟩, trivial⟩
        ·intro u w' hf hR kM
         obtain ⟨a15, t15, e15, n15, l15⟩ := hR 15 (by omega)
         clear hR kM
         simp only [List.take_succ_cons, List.take_zero, List.map_cons, List.map_nil, puts, Act.put, List.setIfInBounds_toArray, List.set_cons_zero, List.set_cons_succ, List.drop_succ_cons, List.drop_zero, Nat.reduceAdd, Nat.zero_add, e15]
         have HF := Lib.hid (FB.out.trans hf)
         have HN := Lib.hid n15
         have HLE := Lib.hid l15
         clear hf n15 e15 l15
         go_wp2
         go_ret
         refine ⟨_, _, rfl, HN.out, ?_, HF.out⟩
         rw [HLE.out, DL.out, HDX.out, HEQ.out]
       | node vl vnm vv vr =>
        obtain ⟨gy, ya1, ya2, hxa, _, _, _⟩ := HXL.out
        subst hxa
        go_wp2
        go_roundw
        case rel =>
         exact ⟨_, _, vl, vr, vnm, vv, (unm, uv) :: ur.toL ++ M, rfl, rfl, HXL.out, by rw [HMM.out]; simp [Tr.toL], FB.out⟩
        case measure =>
         rw [hgt_eq HXL.out, HHG.out]
         simp only [Tr.height]
         omega
end Go.Proofs.YtpnchdgplpdefaaGreatDoor
