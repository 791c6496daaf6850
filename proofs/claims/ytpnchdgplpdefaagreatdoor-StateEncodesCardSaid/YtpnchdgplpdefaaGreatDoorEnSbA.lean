/- State: with, without (written by genSbA.py). -/
import Derived.Test.YtpnchdgplpdefaaGreatDoorEnSaZ
namespace Go.Proofs.YtpnchdgplpdefaaGreatDoor
open Go.RowKit Go.Shelf
def NodL (w : World) (v : Value) (L : List Ent) : Prop := ∃ za zt, v = .pointer za ∧ NodH w za zt ∧ zt.toL = L
theorem insL_size {nm : NameV} {v : ByteArray} : ∀ (L : List Ent), (insL nm v L).length ≤ L.length + 1 ∧ bytesL (insL nm v L) ≤ v.size + bytesL L
 | [] => by simp [insL, bytesL]
 | y :: L => by
  have h := insL_size (nm := nm) (v := v) L
  rw [insL]
  split
  ·simp [bytesL]
  ·split
   ·simp [bytesL]
   ·simp only [bytesL, List.map_cons, List.sum_cons, List.length_cons] at h ⊢
    omega
theorem delL_size {nm : NameV} : ∀ (L : List Ent), (delL nm L).length ≤ L.length ∧ bytesL (delL nm L) ≤ bytesL L
 | [] => by simp [delL]
 | y :: L => by
  have h := delL_size (nm := nm) L
  rw [delL]
  split
  ·simp [bytesL]
  ·simp only [bytesL, List.map_cons, List.sum_cons, List.length_cons] at h ⊢
   omega
theorem OwnS.parts {L R : List Ent} {x : Ent} (h : OwnS (L ++ x :: R)) : OwnS L ∧ OwnS R ∧ x.1.owner.size ≤ 1099511627776 :=
 ⟨fun y hy => h y (by simp [hy]), fun y hy => h y (by simp [hy]), h x (by simp)⟩
theorem balance_of {w : World} {la ra : Option Addr} {l r : Tr} {g : Nat} {nm : NameV} {v : ByteArray} {X Y : List Ent} (hl : NodH w la l) (hr : NodH w ra r) (hm : Mid w g nm v) (el : l.toL = X) (er : r.toL = Y)
  (hs : X.length + Y.length + 1 ≤ 1048576) (hb : v.size + bytesL X + bytesL Y ≤ 1099511627776) : Calls Tryz.prog 81 #[.pointer la, .pointer (some ⟨g, 0, none⟩), .pointer ra] w (Balanced w (X ++ (nm, v) :: Y)) := by
 subst el er
 refine balance_any la ra l r g nm v w hl hr hm ?_ ?_
 ·rw [Tr.toL_length, Tr.toL_length] at hs
  exact hs
 ·rw [Tr.bytes_toL, Tr.bytes_toL]
  exact hb
set_option maxRecDepth 100000 in
set_option maxHeartbeats 8000000 in
theorem with_any (nm : NameV) (v : ByteArray) (g : Nat) (hno : nm.owner.size ≤ 1099511627776) (t : Tr) : ∀ (a : Option Addr) (w : World), NodH w a t → Mid w g nm v → SortL t.toL → OwnS t.toL → t.size + 1 ≤ 1048576 → v.size + t.bytes ≤ 1099511627776 →
  Calls Tryz.prog 46 #[.pointer a, .pointer (some ⟨g, 0, none⟩)] w (Balanced w (insL nm v t.toL)) := by
 induction t with
 | leaf =>
  intro a w hN hM _ _ _ hb
  obtain rfl : a = none := hN
  refine (with_leaf nm v g w hM (by simp only [Tr.bytes] at hb; omega)).mono ?_
  rintro e w' ⟨a, rfl, hn, hf⟩
  exact ⟨a, _, rfl, hn, rfl, hf⟩
 | node l tnm tv r ihl ihr =>
  intro a w hN hM hS hO hz hb
  have hsz : l.size + r.size + 2 ≤ 1048576 := by simp only [Tr.size] at hz; omega
  have hby : v.size + tv.size + l.bytes + r.bytes ≤ 1099511627776 := by simp only [Tr.bytes] at hb; omega
  have HSP := Lib.hid (SortL.parts hS)
  have HOP := Lib.hid (OwnS.parts hO)
  obtain ⟨gq, la, ra, rfl, hl, hr, hbq⟩ := hN
  have HL := Lib.hid hl
  have HR := Lib.hid hr
  have MM := Lib.hid hM
  have HM : Hid (Mid w gq tnm tv) := Mid.of hbq
  have C0 : Hid (w.cell? ⟨gq, 0, none⟩ = some (.pointer la)) := hbq.cell 0
  have C1 : Hid (w.cell? ⟨gq, 1, none⟩ = some (.pointer ra)) := hbq.cell 1
  have CC : Hid (∀ w', Calls Tryz.prog 32 #[.agg nm.cells.toArray, .agg tnm.cells.toArray] w' (Same' w' (.int .i64 (cmpN nm tnm)))) := fun w' => objCompare_any nm tnm w' hno HOP.out.2.2
  have WL : Hid (∀ w', Fr Nothing w w' → Calls Tryz.prog 46 #[.pointer la, .pointer (some ⟨g, 0, none⟩)] w' (Balanced w' (insL nm v l.toL))) := fun w' f => ihl la w' (HL.out.fr0 f) (MM.out.fr0 f) HSP.out.1 HOP.out.1 (by omega) (by omega)
  have WR : Hid (∀ w', Fr Nothing w w' → Calls Tryz.prog 46 #[.pointer ra, .pointer (some ⟨g, 0, none⟩)] w' (Balanced w' (insL nm v r.toL))) := fun w' f => ihr ra w' (HR.out.fr0 f) (MM.out.fr0 f) HSP.out.2.1 HOP.out.2.1 (by omega) (by omega)
  have BL : Hid (∀ w' b u, Fr Nothing w w' → NodH w' b u → u.toL = insL nm v l.toL → Calls Tryz.prog 81 #[.pointer b, .pointer (some ⟨gq, 0, none⟩), .pointer ra] w' (Balanced w' (insL nm v l.toL ++ (tnm, tv) :: r.toL))) := fun w' b u f hn e => by
   have h1 := insL_size (nm := nm) (v := v) l.toL
   rw [Tr.toL_length, ← Tr.bytes_toL] at h1
   exact balance_of hn (HR.out.fr0 f) (HM.out.fr0 f) e rfl (by rw [Tr.toL_length]; omega) (by rw [← Tr.bytes_toL]; omega)
  have BR : Hid (∀ w' b u, Fr Nothing w w' → NodH w' b u → u.toL = insL nm v r.toL → Calls Tryz.prog 81 #[.pointer la, .pointer (some ⟨gq, 0, none⟩), .pointer b] w' (Balanced w' (l.toL ++ (tnm, tv) :: insL nm v r.toL))) := fun w' b u f hn e => by
   have h1 := insL_size (nm := nm) (v := v) r.toL
   rw [Tr.toL_length, ← Tr.bytes_toL] at h1
   exact balance_of (HL.out.fr0 f) hn (HM.out.fr0 f) rfl e (by rw [Tr.toL_length]; omega) (by rw [← Tr.bytes_toL]; omega)
  have JN : Hid (∀ w', Fr Nothing w w' → Calls Tryz.prog 80 #[.pointer la, .pointer (some ⟨g, 0, none⟩), .pointer ra] w' (fun e w'' => ∃ a, e = .returned (.pointer a) ∧ NodH w'' a (.node l nm v r) ∧ Fr Nothing w' w'')) := fun w' f => join_any w' la ra l r g nm v (HL.out.fr0 f) (HR.out.fr0 f) (MM.out.fr0 f) (by omega) (by omega)
  obtain ⟨cc, hcc⟩ : ∃ cc, cc = cmpN nm tnm := ⟨_, rfl⟩
  rw [← hcc] at CC
  have HCC := Lib.hid hcc
  clear hl hr hM hbq hS hO hz hb hsz hby hcc ihl ihr
  go_enter Tryz.func46, Tryz.ntmps46
  go_upto_region 3 with fail
  refine wp_region_st 10 Nothing [Is (.pointer (some ⟨g, 0, none⟩)), Is (.pointer (some ⟨g, 0, none⟩)), Is (.pointer (some ⟨g, 2, none⟩)), Is (.agg nm.cells.toArray), Is (.pointer (some ⟨gq, 0, none⟩)), Is (.pointer (some ⟨gq, 0, none⟩)), Is (.pointer (some ⟨gq, 2, none⟩)), Is (.agg tnm.cells.toArray), Is (.int .i64 cc), Is (.int .i64 cc)] [] (fun _ => True) (fun _ _ => false) (by kernel_rfl) (by kernel_rfl) (by kernel_rfl) (by kernel_rfl) ⟨Is.stable _, Is.stable _, Is.stable _, Is.stable _, Is.stable _, Is.stable _, Is.stable _, Is.stable _, Is.stable _, Is.stable _, trivial⟩ trivial (fun _ _ _ _ h => h) trivial ?_ ?_
  ·refine ⟨fun u w' d hf hR k1 k0 kM => ?_, fun u w' d hf hR k1 k0 kM => ?_, fun u w' d hf hR k1 k0 kM => ?_, fun u w' d hf hR k1 k0 kM => ?_, fun u w' d hf hR k1 k0 kM => ?_, fun u w' d hf hR k1 k0 kM => ?_, fun u w' d hf hR k1 k0 kM => ?_, fun u w' d hf hR k1 k0 kM => ?_, fun u w' d hf hR k1 k0 kM => ?_, fun u w' d hf hR k1 k0 kM => ?_, trivial⟩
   all_goals simp only [List.take_succ_cons, List.take_zero, List.map_cons, List.map_nil, puts, Act.put, List.setIfInBounds_toArray, List.set_cons_zero, List.set_cons_succ, Nat.reduceAdd, Nat.zero_add]
   ·clear hR k1 k0 kM
    refine .inl ⟨by kernel_rfl, ?_⟩
    go_simp
    exact ⟨_, rfl, Fr.refl _ _, rfl, trivial⟩
   ·have h0 : u 0 = _ := hR 0 (by kernel_rfl)
    clear hR k1 k0 kM
    simp only [h0]
    refine .inl ⟨by kernel_rfl, ?_⟩
    go_simp
    exact ⟨_, rfl, Fr.refl _ _, rfl, trivial⟩
   ·have h1 : u 1 = _ := hR 1 (by kernel_rfl)
    clear hR k1 k0 kM
    simp only [h1]
    refine .inl ⟨by kernel_rfl, ?_⟩
    go_simp
    exact ⟨_, rfl, Fr.refl _ _, rfl, trivial⟩
   ·have h2 : u 2 = _ := hR 2 (by kernel_rfl)
    clear hR k1 k0 kM
    simp only [h2]
    refine .inl ⟨by kernel_rfl, ?_⟩
    exact wp_load_add _ _ rfl ⟨g, 2, none⟩ rfl nm.cells _ (fun j x hx => by rw [Addr.add_mid]; exact hf.cellSome (MM.out.name j x hx) (fun x => x)) Tryz.underlying44 rfl infoName ⟨_, rfl, Fr.refl _ _, rfl, trivial⟩
   ·clear hR k1 k0 kM
    refine .inl ⟨by kernel_rfl, ?_⟩
    go_simp
    exact ⟨_, rfl, Fr.refl _ _, rfl, trivial⟩
   ·have h4 : u 4 = _ := hR 4 (by kernel_rfl)
    clear hR k1 k0 kM
    simp only [h4]
    refine .inl ⟨by kernel_rfl, ?_⟩
    go_simp
    exact ⟨_, rfl, Fr.refl _ _, rfl, trivial⟩
   ·have h5 : u 5 = _ := hR 5 (by kernel_rfl)
    clear hR k1 k0 kM
    simp only [h5]
    refine .inl ⟨by kernel_rfl, ?_⟩
    go_simp
    exact ⟨_, rfl, Fr.refl _ _, rfl, trivial⟩
   ·have h6 : u 6 = _ := hR 6 (by kernel_rfl)
    clear hR k1 k0 kM
    simp only [h6]
    refine .inl ⟨by kernel_rfl, ?_⟩
    exact wp_load_add _ _ rfl ⟨gq, 2, none⟩ rfl tnm.cells _ (fun j x hx => by rw [Addr.add_mid]; exact hf.cellSome (HM.out.name j x hx) (fun x => x)) Tryz.underlying44 rfl infoName ⟨_, rfl, Fr.refl _ _, rfl, trivial⟩
   ·have h3 : u 3 = _ := hR 3 (by kernel_rfl)
    have h7 : u 7 = _ := hR 7 (by kernel_rfl)
    clear hR k1 k0 kM
    simp only [h3, h7]
    refine .inl ⟨by kernel_rfl, ?_⟩
    go_simp
    refine (CC.out _).mono ?_
    rintro e w4 ⟨rfl, f4⟩
    exact ⟨_, rfl, f4.weak, rfl, trivial⟩
   ·have h8 : u 8 = _ := hR 8 (by kernel_rfl)
    clear hR k1 k0 kM
    simp only [h8]
    refine .inl ⟨by kernel_rfl, ?_⟩
    go_simp
    exact ⟨_, rfl, Fr.refl _ _, rfl, trivial⟩
  ·intro u w' hf hR kM
   have k9 : u 9 = _ := hR 9 (by omega)
   clear hR kM
   simp only [List.take_succ_cons, List.take_zero, List.map_cons, List.map_nil, puts, Act.put, List.setIfInBounds_toArray, List.set_cons_zero, List.set_cons_succ, List.drop_succ_cons, List.drop_zero, Nat.reduceAdd, Nat.zero_add, k9]
   have FA := Lib.hid hf
   clear hf k9
   by_cases h1 : cc < 0
   ·have t1 : decide (cc < 0) = true := decide_eq_true h1
    have H1 := Lib.hid h1
    clear h1
    go_upto_region 5 with fail
    refine wp_region_st 13 Nothing [Is (.pointer (some ⟨gq, 0, none⟩)), Is (.pointer (some ⟨gq, 0, none⟩)), Is (.pointer (some ⟨gq, 0, none⟩)), Is (.pointer la), Is (.pointer (some ⟨g, 0, none⟩)), (fun zv zW => NodL zW zv (insL nm v l.toL)), Is (.pointer (some ⟨gq, 0, none⟩)), Is (.pointer (some ⟨gq, 0, none⟩)), Is (.pointer (some ⟨gq, 0, none⟩)), Is (.pointer (some ⟨gq, 1, none⟩)), Is (.pointer ra), (fun zv zW => NodL zW zv ((insL nm v l.toL ++ (tnm, tv) :: r.toL))), (fun zv zW => NodL zW zv ((insL nm v l.toL ++ (tnm, tv) :: r.toL)))] [] (fun _ => True) (fun _ _ => false) (by kernel_rfl) (by kernel_rfl) (by kernel_rfl) (by kernel_rfl) ⟨Is.stable _, Is.stable _, Is.stable _, Is.stable _, Is.stable _, fun v w1 w2 _ f h => by obtain ⟨a, t, e, hn, hl⟩ := h; exact ⟨a, t, e, hn.fr0 f, hl⟩, Is.stable _, Is.stable _, Is.stable _, Is.stable _, Is.stable _, fun v w1 w2 _ f h => by obtain ⟨a, t, e, hn, hl⟩ := h; exact ⟨a, t, e, hn.fr0 f, hl⟩, fun v w1 w2 _ f h => by obtain ⟨a, t, e, hn, hl⟩ := h; exact ⟨a, t, e, hn.fr0 f, hl⟩, trivial⟩ trivial (fun _ _ _ _ h => h) trivial ?_ ?_
    ·refine ⟨fun u w' d hf hR k1 k0 kM => ?_, fun u w' d hf hR k1 k0 kM => ?_, fun u w' d hf hR k1 k0 kM => ?_, fun u w' d hf hR k1 k0 kM => ?_, fun u w' d hf hR k1 k0 kM => ?_, fun u w' d hf hR k1 k0 kM => ?_, fun u w' d hf hR k1 k0 kM => ?_, fun u w' d hf hR k1 k0 kM => ?_, fun u w' d hf hR k1 k0 kM => ?_, fun u w' d hf hR k1 k0 kM => ?_, fun u w' d hf hR k1 k0 kM => ?_, fun u w' d hf hR k1 k0 kM => ?_, fun u w' d hf hR k1 k0 kM => ?_, trivial⟩
     all_goals simp only [List.take_succ_cons, List.take_zero, List.map_cons, List.map_nil, puts, Act.put, List.setIfInBounds_toArray, List.set_cons_zero, List.set_cons_succ, Nat.reduceAdd, Nat.zero_add]
     ·clear hR k1 k0 kM
      refine .inl ⟨by kernel_rfl, ?_⟩
      go_simp
      exact ⟨_, rfl, Fr.refl _ _, rfl, trivial⟩
     ·have h0 : u 0 = _ := hR 0 (by kernel_rfl)
      clear hR k1 k0 kM
      simp only [h0]
      refine .inl ⟨by kernel_rfl, ?_⟩
      go_simp
      exact ⟨_, rfl, Fr.refl _ _, rfl, trivial⟩
     ·have h1 : u 1 = _ := hR 1 (by kernel_rfl)
      clear hR k1 k0 kM
      simp only [h1]
      refine .inl ⟨by kernel_rfl, ?_⟩
      go_simp
      exact ⟨_, rfl, Fr.refl _ _, rfl, trivial⟩
     ·have h2 : u 2 = _ := hR 2 (by kernel_rfl)
      clear hR k1 k0 kM
      simp only [h2]
      refine .inl ⟨by kernel_rfl, ?_⟩
      have q := hf.cellSome (FA.out.cellSome C0.out (fun x => x)) (fun x => x)
      go_simp
      exact ⟨_, rfl, Fr.refl _ _, rfl, trivial⟩
     ·clear hR k1 k0 kM
      refine .inl ⟨by kernel_rfl, ?_⟩
      go_simp
      exact ⟨_, rfl, Fr.refl _ _, rfl, trivial⟩
     ·have h3 : u 3 = _ := hR 3 (by kernel_rfl)
      have h4 : u 4 = _ := hR 4 (by kernel_rfl)
      clear hR k1 k0 kM
      simp only [h3, h4]
      refine .inl ⟨by kernel_rfl, ?_⟩
      go_simp
      refine (WL.out _ (FA.out.trans hf)).mono ?_
      rintro e w4 ⟨za, zt, rfl, hn, hl, f4⟩
      exact ⟨_, rfl, f4.weak, ⟨za, zt, rfl, hn, hl⟩, trivial⟩
     ·clear hR k1 k0 kM
      refine .inl ⟨by kernel_rfl, ?_⟩
      go_simp
      exact ⟨_, rfl, Fr.refl _ _, rfl, trivial⟩
     ·clear hR k1 k0 kM
      refine .inl ⟨by kernel_rfl, ?_⟩
      go_simp
      exact ⟨_, rfl, Fr.refl _ _, rfl, trivial⟩
     ·have h7 : u 7 = _ := hR 7 (by kernel_rfl)
      clear hR k1 k0 kM
      simp only [h7]
      refine .inl ⟨by kernel_rfl, ?_⟩
      go_simp
      exact ⟨_, rfl, Fr.refl _ _, rfl, trivial⟩
     ·have h8 : u 8 = _ := hR 8 (by kernel_rfl)
      clear hR k1 k0 kM
      simp only [h8]
      refine .inl ⟨by kernel_rfl, ?_⟩
      go_simp
      exact ⟨_, rfl, Fr.refl _ _, rfl, trivial⟩
     ·have h9 : u 9 = _ := hR 9 (by kernel_rfl)
      clear hR k1 k0 kM
      simp only [h9]
      refine .inl ⟨by kernel_rfl, ?_⟩
      have q := hf.cellSome (FA.out.cellSome C1.out (fun x => x)) (fun x => x)
      go_simp
      exact ⟨_, rfl, Fr.refl _ _, rfl, trivial⟩
     ·obtain ⟨a5, t5, e5, n5, l5⟩ := hR 5 (by kernel_rfl)
      have h6 : u 6 = _ := hR 6 (by kernel_rfl)
      have h10 : u 10 = _ := hR 10 (by kernel_rfl)
      clear hR k1 k0 kM
      simp only [e5, h6, h10]
      refine .inl ⟨by kernel_rfl, ?_⟩
      go_simp
      refine (BL.out _ _ _ (FA.out.trans hf) n5 l5).mono ?_
      rintro e w4 ⟨za, zt, rfl, hn, hl, f4⟩
      exact ⟨_, rfl, f4.weak, ⟨za, zt, rfl, hn, hl⟩, trivial⟩
     ·obtain ⟨a11, t11, e11, n11, l11⟩ := hR 11 (by kernel_rfl)
      clear hR k1 k0 kM
      simp only [e11]
      refine .inl ⟨by kernel_rfl, ?_⟩
      go_simp
      exact ⟨_, rfl, Fr.refl _ _, ⟨_, _, rfl, n11, l11⟩, trivial⟩
    ·intro u w' hf hR kM
     obtain ⟨a12, t12, e12, n12, l12⟩ := hR 12 (by omega)
     clear hR kM
     simp only [List.take_succ_cons, List.take_zero, List.map_cons, List.map_nil, puts, Act.put, List.setIfInBounds_toArray, List.set_cons_zero, List.set_cons_succ, List.drop_succ_cons, List.drop_zero, Nat.reduceAdd, Nat.zero_add, e12]
     have HF := Lib.hid (FA.out.trans hf)
     have HN := Lib.hid n12
     have HLE := Lib.hid l12
     clear hf n12 e12 l12
     go_wp2
     go_ret
     refine ⟨_, _, rfl, HN.out, ?_, HF.out⟩
     rw [HLE.out, Tr.toL, insL_lt (by have h := H1.out; rw [HCC.out] at h; exact h)]
   ·have t1 : decide (cc < 0) = false := decide_eq_false h1
    by_cases h2 : 0 < cc
    ·have t2 : decide (0 < cc) = true := decide_eq_true h2
     have H2 := Lib.hid h2
     clear h1 h2
     go_upto_region 7 with fail
     refine wp_region_st 13 Nothing [Is (.pointer (some ⟨gq, 0, none⟩)), Is (.pointer (some ⟨gq, 0, none⟩)), Is (.pointer (some ⟨gq, 0, none⟩)), Is (.pointer la), Is (.pointer (some ⟨gq, 0, none⟩)), Is (.pointer (some ⟨gq, 0, none⟩)), Is (.pointer (some ⟨gq, 0, none⟩)), Is (.pointer (some ⟨gq, 1, none⟩)), Is (.pointer ra), Is (.pointer (some ⟨g, 0, none⟩)), (fun zv zW => NodL zW zv (insL nm v r.toL)), (fun zv zW => NodL zW zv ((l.toL ++ (tnm, tv) :: insL nm v r.toL))), (fun zv zW => NodL zW zv ((l.toL ++ (tnm, tv) :: insL nm v r.toL)))] [] (fun _ => True) (fun _ _ => false) (by kernel_rfl) (by kernel_rfl) (by kernel_rfl) (by kernel_rfl) ⟨Is.stable _, Is.stable _, Is.stable _, Is.stable _, Is.stable _, Is.stable _, Is.stable _, Is.stable _, Is.stable _, Is.stable _, fun v w1 w2 _ f h => by obtain ⟨a, t, e, hn, hl⟩ := h; exact ⟨a, t, e, hn.fr0 f, hl⟩, fun v w1 w2 _ f h => by obtain ⟨a, t, e, hn, hl⟩ := h; exact ⟨a, t, e, hn.fr0 f, hl⟩, fun v w1 w2 _ f h => by obtain ⟨a, t, e, hn, hl⟩ := h; exact ⟨a, t, e, hn.fr0 f, hl⟩, trivial⟩ trivial (fun _ _ _ _ h => h) trivial ?_ ?_
     ·refine ⟨fun u w' d hf hR k1 k0 kM => ?_, fun u w' d hf hR k1 k0 kM => ?_, fun u w' d hf hR k1 k0 kM => ?_, fun u w' d hf hR k1 k0 kM => ?_, fun u w' d hf hR k1 k0 kM => ?_, fun u w' d hf hR k1 k0 kM => ?_, fun u w' d hf hR k1 k0 kM => ?_, fun u w' d hf hR k1 k0 kM => ?_, fun u w' d hf hR k1 k0 kM => ?_, fun u w' d hf hR k1 k0 kM => ?_, fun u w' d hf hR k1 k0 kM => ?_, fun u w' d hf hR k1 k0 kM => ?_, fun u w' d hf hR k1 k0 kM => ?_, trivial⟩
      all_goals simp only [List.take_succ_cons, List.take_zero, List.map_cons, List.map_nil, puts, Act.put, List.setIfInBounds_toArray, List.set_cons_zero, List.set_cons_succ, Nat.reduceAdd, Nat.zero_add]
      ·clear hR k1 k0 kM
       refine .inl ⟨by kernel_rfl, ?_⟩
       go_simp
       exact ⟨_, rfl, Fr.refl _ _, rfl, trivial⟩
      ·have h0 : u 0 = _ := hR 0 (by kernel_rfl)
       clear hR k1 k0 kM
       simp only [h0]
       refine .inl ⟨by kernel_rfl, ?_⟩
       go_simp
       exact ⟨_, rfl, Fr.refl _ _, rfl, trivial⟩
      ·have h1 : u 1 = _ := hR 1 (by kernel_rfl)
       clear hR k1 k0 kM
       simp only [h1]
       refine .inl ⟨by kernel_rfl, ?_⟩
       go_simp
       exact ⟨_, rfl, Fr.refl _ _, rfl, trivial⟩
      ·have h2 : u 2 = _ := hR 2 (by kernel_rfl)
       clear hR k1 k0 kM
       simp only [h2]
       refine .inl ⟨by kernel_rfl, ?_⟩
       have q := hf.cellSome (FA.out.cellSome C0.out (fun x => x)) (fun x => x)
       go_simp
       exact ⟨_, rfl, Fr.refl _ _, rfl, trivial⟩
      ·clear hR k1 k0 kM
       refine .inl ⟨by kernel_rfl, ?_⟩
       go_simp
       exact ⟨_, rfl, Fr.refl _ _, rfl, trivial⟩
      ·clear hR k1 k0 kM
       refine .inl ⟨by kernel_rfl, ?_⟩
       go_simp
       exact ⟨_, rfl, Fr.refl _ _, rfl, trivial⟩
      ·have h5 : u 5 = _ := hR 5 (by kernel_rfl)
       clear hR k1 k0 kM
       simp only [h5]
       refine .inl ⟨by kernel_rfl, ?_⟩
       go_simp
       exact ⟨_, rfl, Fr.refl _ _, rfl, trivial⟩
      ·have h6 : u 6 = _ := hR 6 (by kernel_rfl)
       clear hR k1 k0 kM
       simp only [h6]
       refine .inl ⟨by kernel_rfl, ?_⟩
       go_simp
       exact ⟨_, rfl, Fr.refl _ _, rfl, trivial⟩
      ·have h7 : u 7 = _ := hR 7 (by kernel_rfl)
       clear hR k1 k0 kM
       simp only [h7]
       refine .inl ⟨by kernel_rfl, ?_⟩
       have q := hf.cellSome (FA.out.cellSome C1.out (fun x => x)) (fun x => x)
       go_simp
       exact ⟨_, rfl, Fr.refl _ _, rfl, trivial⟩
      ·clear hR k1 k0 kM
       refine .inl ⟨by kernel_rfl, ?_⟩
       go_simp
       exact ⟨_, rfl, Fr.refl _ _, rfl, trivial⟩
      ·have h8 : u 8 = _ := hR 8 (by kernel_rfl)
       have h9 : u 9 = _ := hR 9 (by kernel_rfl)
       clear hR k1 k0 kM
       simp only [h8, h9]
       refine .inl ⟨by kernel_rfl, ?_⟩
       go_simp
       refine (WR.out _ (FA.out.trans hf)).mono ?_
       rintro e w4 ⟨za, zt, rfl, hn, hl, f4⟩
       exact ⟨_, rfl, f4.weak, ⟨za, zt, rfl, hn, hl⟩, trivial⟩
      ·have h3 : u 3 = _ := hR 3 (by kernel_rfl)
       have h4 : u 4 = _ := hR 4 (by kernel_rfl)
       obtain ⟨a10, t10, e10, n10, l10⟩ := hR 10 (by kernel_rfl)
       clear hR k1 k0 kM
       simp only [h3, h4, e10]
       refine .inl ⟨by kernel_rfl, ?_⟩
       go_simp
       refine (BR.out _ _ _ (FA.out.trans hf) n10 l10).mono ?_
       rintro e w4 ⟨za, zt, rfl, hn, hl, f4⟩
       exact ⟨_, rfl, f4.weak, ⟨za, zt, rfl, hn, hl⟩, trivial⟩
      ·obtain ⟨a11, t11, e11, n11, l11⟩ := hR 11 (by kernel_rfl)
       clear hR k1 k0 kM
       simp only [e11]
       refine .inl ⟨by kernel_rfl, ?_⟩
       go_simp
       exact ⟨_, rfl, Fr.refl _ _, ⟨_, _, rfl, n11, l11⟩, trivial⟩
     ·intro u w' hf hR kM
      obtain ⟨a12, t12, e12, n12, l12⟩ := hR 12 (by omega)
      clear hR kM
      simp only [List.take_succ_cons, List.take_zero, List.map_cons, List.map_nil, puts, Act.put, List.setIfInBounds_toArray, List.set_cons_zero, List.set_cons_succ, List.drop_succ_cons, List.drop_zero, Nat.reduceAdd, Nat.zero_add, e12]
      have HF := Lib.hid (FA.out.trans hf)
      have HN := Lib.hid n12
      have HLE := Lib.hid l12
      clear hf n12 e12 l12
      go_wp2
      go_ret
      refine ⟨_, _, rfl, HN.out, ?_, HF.out⟩
      have hp : 0 < cmpN nm tnm := by have h := H2.out; rw [HCC.out] at h; exact h
      rw [HLE.out, Tr.toL, insL_gt _ _ (fun y hy => cmpN_pos (cmpN_is.trans _ _ _ (HSP.out.2.2.1 y hy) (cmpN_neg hp))), insL, if_neg (by simp only; omega), if_neg (by simp only; omega)]
    ·have t2 : decide (0 < cc) = false := decide_eq_false h2
     have HE : Hid (nm = tnm) := cmpN_is.eq nm tnm (by have h := HCC.out; omega)
     clear h1 h2
     go_upto_region 8 with fail
     refine wp_region_st 11 Nothing [Is (.pointer (some ⟨gq, 0, none⟩)), Is (.pointer (some ⟨gq, 0, none⟩)), Is (.pointer (some ⟨gq, 0, none⟩)), Is (.pointer la), Is (.pointer (some ⟨g, 0, none⟩)), Is (.pointer (some ⟨gq, 0, none⟩)), Is (.pointer (some ⟨gq, 0, none⟩)), Is (.pointer (some ⟨gq, 1, none⟩)), Is (.pointer ra), (fun zv zW => ∃ za, zv = .pointer za ∧ NodH zW za (.node l nm v r)), (fun zv zW => ∃ za, zv = .pointer za ∧ NodH zW za (.node l nm v r))] [] (fun _ => True) (fun _ _ => false) (by kernel_rfl) (by kernel_rfl) (by kernel_rfl) (by kernel_rfl) ⟨Is.stable _, Is.stable _, Is.stable _, Is.stable _, Is.stable _, Is.stable _, Is.stable _, Is.stable _, Is.stable _, fun v w1 w2 _ f h => by obtain ⟨a, e, hn⟩ := h; exact ⟨a, e, hn.fr0 f⟩, fun v w1 w2 _ f h => by obtain ⟨a, e, hn⟩ := h; exact ⟨a, e, hn.fr0 f⟩, trivial⟩ trivial (fun _ _ _ _ h => h) trivial ?_ ?_
     ·refine ⟨fun u w' d hf hR k1 k0 kM => ?_, fun u w' d hf hR k1 k0 kM => ?_, fun u w' d hf hR k1 k0 kM => ?_, fun u w' d hf hR k1 k0 kM => ?_, fun u w' d hf hR k1 k0 kM => ?_, fun u w' d hf hR k1 k0 kM => ?_, fun u w' d hf hR k1 k0 kM => ?_, fun u w' d hf hR k1 k0 kM => ?_, fun u w' d hf hR k1 k0 kM => ?_, fun u w' d hf hR k1 k0 kM => ?_, fun u w' d hf hR k1 k0 kM => ?_, trivial⟩
      all_goals simp only [List.take_succ_cons, List.take_zero, List.map_cons, List.map_nil, puts, Act.put, List.setIfInBounds_toArray, List.set_cons_zero, List.set_cons_succ, Nat.reduceAdd, Nat.zero_add]
      ·clear hR k1 k0 kM
       refine .inl ⟨by kernel_rfl, ?_⟩
       go_simp
       exact ⟨_, rfl, Fr.refl _ _, rfl, trivial⟩
      ·have h0 : u 0 = _ := hR 0 (by kernel_rfl)
       clear hR k1 k0 kM
       simp only [h0]
       refine .inl ⟨by kernel_rfl, ?_⟩
       go_simp
       exact ⟨_, rfl, Fr.refl _ _, rfl, trivial⟩
      ·have h1 : u 1 = _ := hR 1 (by kernel_rfl)
       clear hR k1 k0 kM
       simp only [h1]
       refine .inl ⟨by kernel_rfl, ?_⟩
       go_simp
       exact ⟨_, rfl, Fr.refl _ _, rfl, trivial⟩
      ·have h2 : u 2 = _ := hR 2 (by kernel_rfl)
       clear hR k1 k0 kM
       simp only [h2]
       refine .inl ⟨by kernel_rfl, ?_⟩
       have q := hf.cellSome (FA.out.cellSome C0.out (fun x => x)) (fun x => x)
       go_simp
       exact ⟨_, rfl, Fr.refl _ _, rfl, trivial⟩
      ·clear hR k1 k0 kM
       refine .inl ⟨by kernel_rfl, ?_⟩
       go_simp
       exact ⟨_, rfl, Fr.refl _ _, rfl, trivial⟩
      ·clear hR k1 k0 kM
       refine .inl ⟨by kernel_rfl, ?_⟩
       go_simp
       exact ⟨_, rfl, Fr.refl _ _, rfl, trivial⟩
      ·have h5 : u 5 = _ := hR 5 (by kernel_rfl)
       clear hR k1 k0 kM
       simp only [h5]
       refine .inl ⟨by kernel_rfl, ?_⟩
       go_simp
       exact ⟨_, rfl, Fr.refl _ _, rfl, trivial⟩
      ·have h6 : u 6 = _ := hR 6 (by kernel_rfl)
       clear hR k1 k0 kM
       simp only [h6]
       refine .inl ⟨by kernel_rfl, ?_⟩
       go_simp
       exact ⟨_, rfl, Fr.refl _ _, rfl, trivial⟩
      ·have h7 : u 7 = _ := hR 7 (by kernel_rfl)
       clear hR k1 k0 kM
       simp only [h7]
       refine .inl ⟨by kernel_rfl, ?_⟩
       have q := hf.cellSome (FA.out.cellSome C1.out (fun x => x)) (fun x => x)
       go_simp
       exact ⟨_, rfl, Fr.refl _ _, rfl, trivial⟩
      ·have h3 : u 3 = _ := hR 3 (by kernel_rfl)
       have h4 : u 4 = _ := hR 4 (by kernel_rfl)
       have h8 : u 8 = _ := hR 8 (by kernel_rfl)
       clear hR k1 k0 kM
       simp only [h3, h4, h8]
       refine .inl ⟨by kernel_rfl, ?_⟩
       go_simp
       refine (JN.out _ (FA.out.trans hf)).mono ?_
       rintro e w4 ⟨a, rfl, hn, f4⟩
       exact ⟨_, rfl, f4.weak, ⟨a, rfl, hn⟩, trivial⟩
      ·obtain ⟨a9, e9, n9⟩ := hR 9 (by kernel_rfl)
       clear hR k1 k0 kM
       simp only [e9]
       refine .inl ⟨by kernel_rfl, ?_⟩
       go_simp
       exact ⟨_, rfl, Fr.refl _ _, ⟨_, rfl, n9⟩, trivial⟩
     ·intro u w' hf hR kM
      obtain ⟨a10, e10, n10⟩ := hR 10 (by omega)
      clear hR kM
      simp only [List.take_succ_cons, List.take_zero, List.map_cons, List.map_nil, puts, Act.put, List.setIfInBounds_toArray, List.set_cons_zero, List.set_cons_succ, List.drop_succ_cons, List.drop_zero, Nat.reduceAdd, Nat.zero_add, e10]
      have HF := Lib.hid (FA.out.trans hf)
      have HN := Lib.hid n10
      clear hf n10 e10
      go_wp2
      go_ret
      refine ⟨_, _, rfl, HN.out, ?_, HF.out⟩
      rw [Tr.toL, Tr.toL, insL_gt _ _ (fun y hy => by rw [HE.out]; exact cmpN_pos (HSP.out.2.2.1 y hy)), insL, HE.out]
      simp only [cmpN_is.refl]
      rfl
end Go.Proofs.YtpnchdgplpdefaaGreatDoor
