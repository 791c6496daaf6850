/- State: Check, balance (written by genSaY.py). -/
import Derived.Test.YtpnchdgplpdefaaGreatDoorEnSaX
namespace Go.Proofs.YtpnchdgplpdefaaGreatDoor
open Go.RowKit Go.Shelf
def bytesL (L : List (NameV × ByteArray)) : Nat := (L.map (fun x => x.2.size)).sum
theorem Tr.bytes_toL : ∀ t : Tr, t.bytes = bytesL t.toL
 | .leaf => rfl
 | .node l nm v r => by
  rw [Tr.bytes, Tr.toL, l.bytes_toL, r.bytes_toL]
  simp only [bytesL, List.map_append, List.map_cons, List.sum_append, List.sum_cons]
  omega
def Balanced (w : World) (L : List (NameV × ByteArray)) (e : Ending) (w' : World) : Prop := ∃ a t, e = .returned (.pointer a) ∧ NodH w' a t ∧ t.toL = L ∧ Fr Nothing w w'
set_option maxRecDepth 100000 in
set_option maxHeartbeats 8000000 in
theorem balance_any (la ra : Option Addr) (l r : Tr) (g : Nat) (nm : NameV) (v : ByteArray) (w : World) (hl : NodH w la l) (hr : NodH w ra r) (hm : Mid w g nm v) (hs : l.size + r.size + 1 ≤ 1048576) (hb : v.size + l.bytes + r.bytes ≤ 1099511627776) :
  Calls Tryz.prog 81 #[.pointer la, .pointer (some ⟨g, 0, none⟩), .pointer ra] w (Balanced w (l.toL ++ (nm, v) :: r.toL)) := by
 have CL := Lib.hid (heightOf_any w la l hl)
 have CR := Lib.hid (heightOf_any w ra r hr)
 have NL := Lib.hid hl
 have NR := Lib.hid hr
 have MM := Lib.hid hm
 have HSZ := Lib.hid hs
 have HBY := Lib.hid hb
 have b1 : l.height ≤ 1048576 := by have := l.height_le; omega
 have b2 : r.height ≤ 1048576 := by have := r.height_le; omega
 obtain ⟨x, hx⟩ : ∃ x : Int, x = (l.height : Nat) := ⟨_, rfl⟩
 obtain ⟨y, hy⟩ : ∃ y : Int, y = (r.height : Nat) := ⟨_, rfl⟩
 rw [← hx] at CL
 rw [← hy] at CR
 have HX := Lib.hid hx
 have HY := Lib.hid hy
 have b3 : 0 ≤ x ∧ x ≤ 1048576 := by omega
 have b4 : 0 ≤ y ∧ y ≤ 1048576 := by omega
 clear hl hr hm hs hb hx hy b1 b2
 go_enter Tryz.func81, Tryz.ntmps81
 go_wp2_with fail
 refine CL.out.mono ?_
 rintro e w' ⟨rfl, rfl⟩
 go_wp2_with fail
 refine CR.out.mono ?_
 rintro e w' ⟨rfl, rfl⟩
 clear CL CR
 obtain ⟨d, hd⟩ : ∃ d : Int, x - y = d := ⟨_, rfl⟩
 have HD := Lib.hid hd
 have b5 : -1048576 ≤ d ∧ d ≤ 1048576 := by omega
 by_cases hA : 1 < d
 ·have tA : decide ((1 : Int) < d) = true := decide_eq_true hA
  obtain ⟨ll, lnm, lv, lr, rfl⟩ : ∃ ll lnm lv lr, l = .node ll lnm lv lr := by
   cases l with
   | leaf => have h0 := HX.out; simp only [Tr.height] at h0; have := HD.out; omega
   | node a b c d => exact ⟨a, b, c, d, rfl⟩
  obtain ⟨gl, lla, lra, rfl, hll, hlr, hbl⟩ := NL.out
  have NLL := Lib.hid hll
  have NLR := Lib.hid hlr
  have ML : Hid (Mid w gl lnm lv) := Mid.of hbl
  have c0 : Hid (w.cell? ⟨gl, 0, none⟩ = some (.pointer lla)) := hbl.cell 0
  have c1 : Hid (w.cell? ⟨gl, 1, none⟩ = some (.pointer lra)) := hbl.cell 1
  have H0 : Hid (∀ w', Fr Nothing w w' → Calls Tryz.prog 97 #[.pointer lla] w' (SameW w' (.int .i64 (ll.height : Nat)))) := fun w' f => heightOf_any w' lla ll (NLL.out.fr0 f)
  have H1 : Hid (∀ w', Fr Nothing w w' → Calls Tryz.prog 97 #[.pointer lra] w' (SameW w' (.int .i64 (lr.height : Nat)))) := fun w' f => heightOf_any w' lra lr (NLR.out.fr0 f)
  obtain ⟨p, hp⟩ : ∃ p : Int, p = (ll.height : Nat) := ⟨_, rfl⟩
  obtain ⟨q, hq⟩ : ∃ q : Int, q = (lr.height : Nat) := ⟨_, rfl⟩
  rw [← hp] at H0
  rw [← hq] at H1
  have HP := Lib.hid hp
  have HQ := Lib.hid hq
  have b6 : 0 ≤ p ∧ 0 ≤ q := by omega
  clear hll hlr hbl hp hq hA
  by_cases hpq : q ≤ p
  ·have tq : decide (q ≤ p) = true := decide_eq_true hpq
   go_upto_region 2 with fail
   refine wp_region_st 16 Nothing [Is (.int .i64 d), Is (.bool true), Is (.bool true), Is (.pointer (some ⟨gl, 0, none⟩)), Is (.pointer (some ⟨gl, 0, none⟩)), Is (.pointer (some ⟨gl, 0, none⟩)), Is (.pointer lla), Is (.int .i64 p), Is (.pointer (some ⟨gl, 0, none⟩)), Is (.pointer (some ⟨gl, 0, none⟩)), Is (.pointer (some ⟨gl, 1, none⟩)), Is (.pointer lra), Is (.int .i64 q), Is (.bool true), Is (.bool true), Is (.bool true)] [] (fun _ => True) (fun _ _ => false) (by kernel_rfl) (by kernel_rfl) (by kernel_rfl) (by kernel_rfl) ⟨Is.stable _, Is.stable _, Is.stable _, Is.stable _, Is.stable _, Is.stable _, Is.stable _, Is.stable _, Is.stable _, Is.stable _, Is.stable _, Is.stable _, Is.stable _, Is.stable _, Is.stable _, Is.stable _, trivial⟩ trivial (fun _ _ _ _ h => h) trivial ?_ ?_
   ·refine ⟨?a1_0, ?a1_1, ?a1_2, ?a1_3, ?a1_4, ?a1_5, ?a1_6, ?a1_7, ?a1_8, ?a1_9, ?a1_10, ?a1_11, ?a1_12, ?a1_13, ?a1_14, ?a1_15, trivial⟩
    all_goals intro u w' d hf hR k1 k0 kM
    all_goals simp only [List.take_succ_cons, List.take_zero, List.map_cons, List.map_nil, puts, Act.put, List.setIfInBounds_toArray, List.set_cons_zero, List.set_cons_succ, Nat.reduceAdd, Nat.zero_add]
    case' a1_1 => simp only [show u 0 = _ from hR 0 (by kernel_rfl)]
    case' a1_2 => simp only [show u 1 = _ from hR 1 (by kernel_rfl)]
    case' a1_3 => simp only [show u 2 = _ from hR 2 (by kernel_rfl)]
    case' a1_4 => simp only [show u 3 = _ from hR 3 (by kernel_rfl), show u 2 = _ from hR 2 (by kernel_rfl)]
    case' a1_5 => simp only [show u 4 = _ from hR 4 (by kernel_rfl), show u 2 = _ from hR 2 (by kernel_rfl)]
    case a1_6 =>
     simp only [show u 5 = _ from hR 5 (by kernel_rfl), show u 2 = _ from hR 2 (by kernel_rfl)]
     clear hR k1 k0 kM
     refine .inl ⟨by kernel_rfl, ?_⟩
     have q := hf.cellSome (c0.out) (fun x => x)
     go_simp
     exact ⟨_, rfl, Fr.refl _ _, rfl, trivial⟩
    case a1_7 =>
     simp only [show u 6 = _ from hR 6 (by kernel_rfl), show u 2 = _ from hR 2 (by kernel_rfl)]
     clear hR k1 k0 kM
     refine .inl ⟨by kernel_rfl, ?_⟩
     go_simp
     refine (H0.out _ hf).mono ?_
     rintro e w4 ⟨rfl, rfl⟩
     exact ⟨_, rfl, Fr.refl _ _, rfl, trivial⟩
    case' a1_8 => simp only [show u 2 = _ from hR 2 (by kernel_rfl)]
    case' a1_9 => simp only [show u 8 = _ from hR 8 (by kernel_rfl), show u 2 = _ from hR 2 (by kernel_rfl)]
    case' a1_10 => simp only [show u 9 = _ from hR 9 (by kernel_rfl), show u 2 = _ from hR 2 (by kernel_rfl)]
    case a1_11 =>
     simp only [show u 10 = _ from hR 10 (by kernel_rfl), show u 2 = _ from hR 2 (by kernel_rfl)]
     clear hR k1 k0 kM
     refine .inl ⟨by kernel_rfl, ?_⟩
     have q := hf.cellSome (c1.out) (fun x => x)
     go_simp
     exact ⟨_, rfl, Fr.refl _ _, rfl, trivial⟩
    case a1_12 =>
     simp only [show u 11 = _ from hR 11 (by kernel_rfl), show u 2 = _ from hR 2 (by kernel_rfl)]
     clear hR k1 k0 kM
     refine .inl ⟨by kernel_rfl, ?_⟩
     go_simp
     refine (H1.out _ hf).mono ?_
     rintro e w4 ⟨rfl, rfl⟩
     exact ⟨_, rfl, Fr.refl _ _, rfl, trivial⟩
    case' a1_13 => simp only [show u 7 = _ from hR 7 (by kernel_rfl), show u 12 = _ from hR 12 (by kernel_rfl), show u 2 = _ from hR 2 (by kernel_rfl)]
    case' a1_14 => simp only [show u 2 = _ from hR 2 (by kernel_rfl), show u 13 = _ from hR 13 (by kernel_rfl)]
    case' a1_15 => simp only [show u 14 = _ from hR 14 (by kernel_rfl)]
    all_goals
     clear hR k1 k0 kM
     refine .inl ⟨by kernel_rfl, ?_⟩
     go_simp
     exact ⟨_, rfl, Fr.refl _ _, rfl, trivial⟩
   ·intro u w' hf hR kM
    have k15 : u 15 = _ := hR 15 (by omega)
    clear hR kM
    simp only [List.take_succ_cons, List.take_zero, List.map_cons, List.map_nil, puts, Act.put, List.setIfInBounds_toArray, List.set_cons_zero, List.set_cons_succ, List.drop_succ_cons, List.drop_zero, Nat.reduceAdd, Nat.zero_add, k15]
    have FA := Lib.hid hf
    clear hf k15
    go_upto_region 3 with fail
    refine wp_region_st 14 Nothing [Is (.pointer (some ⟨gl, 0, none⟩)), Is (.pointer (some ⟨gl, 0, none⟩)), Is (.pointer (some ⟨gl, 0, none⟩)), Is (.pointer lla), Is (.pointer (some ⟨gl, 0, none⟩)), Is (.pointer (some ⟨gl, 0, none⟩)), Is (.pointer (some ⟨gl, 0, none⟩)), Is (.pointer (some ⟨gl, 1, none⟩)), Is (.pointer lra), Is (.pointer (some ⟨g, 0, none⟩)), Is (.pointer ra), (fun zv zW => ∃ za, zv = .pointer za ∧ NodH zW za (.node lr nm v r)), (fun zv zW => ∃ za, zv = .pointer za ∧ NodH zW za (.node ll lnm lv (.node lr nm v r))), (fun zv zW => ∃ za, zv = .pointer za ∧ NodH zW za (.node ll lnm lv (.node lr nm v r)))] [] (fun _ => True) (fun _ _ => false) (by kernel_rfl) (by kernel_rfl) (by kernel_rfl) (by kernel_rfl) ⟨Is.stable _, Is.stable _, Is.stable _, Is.stable _, Is.stable _, Is.stable _, Is.stable _, Is.stable _, Is.stable _, Is.stable _, Is.stable _, fun v w1 w2 _ f h => by obtain ⟨a, e, hn⟩ := h; exact ⟨a, e, hn.fr0 f⟩, fun v w1 w2 _ f h => by obtain ⟨a, e, hn⟩ := h; exact ⟨a, e, hn.fr0 f⟩, fun v w1 w2 _ f h => by obtain ⟨a, e, hn⟩ := h; exact ⟨a, e, hn.fr0 f⟩, trivial⟩ trivial (fun _ _ _ _ h => h) trivial ?_ ?_
    ·refine ⟨?a2_0, ?a2_1, ?a2_2, ?a2_3, ?a2_4, ?a2_5, ?a2_6, ?a2_7, ?a2_8, ?a2_9, ?a2_10, ?a2_11, ?a2_12, ?a2_13, trivial⟩
     all_goals intro u w' d hf hR k1 k0 kM
     all_goals simp only [List.take_succ_cons, List.take_zero, List.map_cons, List.map_nil, puts, Act.put, List.setIfInBounds_toArray, List.set_cons_zero, List.set_cons_succ, Nat.reduceAdd, Nat.zero_add]
     case' a2_1 => simp only [show u 0 = _ from hR 0 (by kernel_rfl)]
     case' a2_2 => simp only [show u 1 = _ from hR 1 (by kernel_rfl)]
     case a2_3 =>
      simp only [show u 2 = _ from hR 2 (by kernel_rfl)]
      clear hR k1 k0 kM
      refine .inl ⟨by kernel_rfl, ?_⟩
      have q := hf.cellSome (FA.out.cellSome (c0.out) (fun x => x)) (fun x => x)
      go_simp
      exact ⟨_, rfl, Fr.refl _ _, rfl, trivial⟩
     case' a2_6 => simp only [show u 5 = _ from hR 5 (by kernel_rfl)]
     case' a2_7 => simp only [show u 6 = _ from hR 6 (by kernel_rfl)]
     case a2_8 =>
      simp only [show u 7 = _ from hR 7 (by kernel_rfl)]
      clear hR k1 k0 kM
      refine .inl ⟨by kernel_rfl, ?_⟩
      have q := hf.cellSome (FA.out.cellSome (c1.out) (fun x => x)) (fun x => x)
      go_simp
      exact ⟨_, rfl, Fr.refl _ _, rfl, trivial⟩
     case a2_11 =>
      simp only [show u 8 = _ from hR 8 (by kernel_rfl), show u 9 = _ from hR 9 (by kernel_rfl), show u 10 = _ from hR 10 (by kernel_rfl)]
      clear hR k1 k0 kM
      refine .inl ⟨by kernel_rfl, ?_⟩
      go_simp
      refine (join_any _ lra ra lr r g nm v (NLR.out.fr0 (FA.out.trans hf)) (NR.out.fr0 (FA.out.trans hf)) (MM.out.fr0 (FA.out.trans hf)) (by have h1 := HSZ.out; have h2 := HBY.out; simp only [Tr.size, Tr.bytes] at h1 h2 ⊢; omega) (by have h1 := HSZ.out; have h2 := HBY.out; simp only [Tr.size, Tr.bytes] at h1 h2 ⊢; omega)).mono ?_
      rintro e w4 ⟨a, rfl, hn, f4⟩
      exact ⟨_, rfl, f4.weak, ⟨a, rfl, hn⟩, trivial⟩
     case a2_12 =>
      obtain ⟨a11, e11, n11⟩ := hR 11 (by kernel_rfl)
      simp only [show u 3 = _ from hR 3 (by kernel_rfl), show u 4 = _ from hR 4 (by kernel_rfl), e11]
      clear hR k1 k0 kM
      refine .inl ⟨by kernel_rfl, ?_⟩
      go_simp
      refine (join_any _ lla a11 ll (.node lr nm v r) gl lnm lv (NLL.out.fr0 (FA.out.trans hf)) n11 (ML.out.fr0 (FA.out.trans hf)) (by have h1 := HSZ.out; have h2 := HBY.out; simp only [Tr.size, Tr.bytes] at h1 h2 ⊢; omega) (by have h1 := HSZ.out; have h2 := HBY.out; simp only [Tr.size, Tr.bytes] at h1 h2 ⊢; omega)).mono ?_
      rintro e w4 ⟨a, rfl, hn, f4⟩
      exact ⟨_, rfl, f4.weak, ⟨a, rfl, hn⟩, trivial⟩
     case a2_13 =>
      obtain ⟨a12, e12, n12⟩ := hR 12 (by kernel_rfl)
      simp only [e12]
      clear hR k1 k0 kM
      refine .inl ⟨by kernel_rfl, ?_⟩
      go_simp
      exact ⟨_, rfl, Fr.refl _ _, ⟨_, rfl, n12⟩, trivial⟩
     all_goals
      clear hR k1 k0 kM
      refine .inl ⟨by kernel_rfl, ?_⟩
      go_simp
      exact ⟨_, rfl, Fr.refl _ _, rfl, trivial⟩
    ·intro u w' hf hR kM
     obtain ⟨a13, e13, n13⟩ := hR 13 (by omega)
     clear hR kM
     simp only [List.take_succ_cons, List.take_zero, List.map_cons, List.map_nil, puts, Act.put, List.setIfInBounds_toArray, List.set_cons_zero, List.set_cons_succ, List.drop_succ_cons, List.drop_zero, Nat.reduceAdd, Nat.zero_add, e13]
     have HF := Lib.hid (FA.out.trans hf)
     have HN := Lib.hid n13
     clear hf n13 e13
     go_wp2
     go_ret
     exact ⟨_, _, rfl, HN.out, by simp [Tr.toL], HF.out⟩
  ·have tq : decide (q ≤ p) = false := decide_eq_false hpq
   obtain ⟨il, inm, iv, ir, rfl⟩ : ∃ il inm iv ir, lr = .node il inm iv ir := by
    cases lr with
    | leaf => have h0 := HQ.out; simp only [Tr.height] at h0; omega
    | node a b c d => exact ⟨a, b, c, d, rfl⟩
   obtain ⟨gi, ila, ira, rfl, hil, hir, hbi⟩ := NLR.out
   have NIL := Lib.hid hil
   have NIR := Lib.hid hir
   have MI : Hid (Mid w gi inm iv) := Mid.of hbi
   have d0 : Hid (w.cell? ⟨gi, 0, none⟩ = some (.pointer ila)) := hbi.cell 0
   have d1 : Hid (w.cell? ⟨gi, 1, none⟩ = some (.pointer ira)) := hbi.cell 1
   clear hil hir hbi
   go_upto_region 2 with fail
   refine wp_region_st 16 Nothing [Is (.int .i64 d), Is (.bool true), Is (.bool true), Is (.pointer (some ⟨gl, 0, none⟩)), Is (.pointer (some ⟨gl, 0, none⟩)), Is (.pointer (some ⟨gl, 0, none⟩)), Is (.pointer lla), Is (.int .i64 p), Is (.pointer (some ⟨gl, 0, none⟩)), Is (.pointer (some ⟨gl, 0, none⟩)), Is (.pointer (some ⟨gl, 1, none⟩)), Is (.pointer (some ⟨gi, 0, none⟩)), Is (.int .i64 q), Is (.bool false), Is (.bool false), Is (.bool false)] [] (fun _ => True) (fun _ _ => false) (by kernel_rfl) (by kernel_rfl) (by kernel_rfl) (by kernel_rfl) ⟨Is.stable _, Is.stable _, Is.stable _, Is.stable _, Is.stable _, Is.stable _, Is.stable _, Is.stable _, Is.stable _, Is.stable _, Is.stable _, Is.stable _, Is.stable _, Is.stable _, Is.stable _, Is.stable _, trivial⟩ trivial (fun _ _ _ _ h => h) trivial ?_ ?_
   ·refine ⟨?a3_0, ?a3_1, ?a3_2, ?a3_3, ?a3_4, ?a3_5, ?a3_6, ?a3_7, ?a3_8, ?a3_9, ?a3_10, ?a3_11, ?a3_12, ?a3_13, ?a3_14, ?a3_15, trivial⟩
    all_goals intro u w' d hf hR k1 k0 kM
    all_goals simp only [List.take_succ_cons, List.take_zero, List.map_cons, List.map_nil, puts, Act.put, List.setIfInBounds_toArray, List.set_cons_zero, List.set_cons_succ, Nat.reduceAdd, Nat.zero_add]
    case' a3_1 => simp only [show u 0 = _ from hR 0 (by kernel_rfl)]
    case' a3_2 => simp only [show u 1 = _ from hR 1 (by kernel_rfl)]
    case' a3_3 => simp only [show u 2 = _ from hR 2 (by kernel_rfl)]
    case' a3_4 => simp only [show u 3 = _ from hR 3 (by kernel_rfl), show u 2 = _ from hR 2 (by kernel_rfl)]
    case' a3_5 => simp only [show u 4 = _ from hR 4 (by kernel_rfl), show u 2 = _ from hR 2 (by kernel_rfl)]
    case a3_6 =>
     simp only [show u 5 = _ from hR 5 (by kernel_rfl), show u 2 = _ from hR 2 (by kernel_rfl)]
     clear hR k1 k0 kM
     refine .inl ⟨by kernel_rfl, ?_⟩
     have q := hf.cellSome (c0.out) (fun x => x)
     go_simp
     exact ⟨_, rfl, Fr.refl _ _, rfl, trivial⟩
    case a3_7 =>
     simp only [show u 6 = _ from hR 6 (by kernel_rfl), show u 2 = _ from hR 2 (by kernel_rfl)]
     clear hR k1 k0 kM
     refine .inl ⟨by kernel_rfl, ?_⟩
     go_simp
     refine (H0.out _ hf).mono ?_
     rintro e w4 ⟨rfl, rfl⟩
     exact ⟨_, rfl, Fr.refl _ _, rfl, trivial⟩
    case' a3_8 => simp only [show u 2 = _ from hR 2 (by kernel_rfl)]
    case' a3_9 => simp only [show u 8 = _ from hR 8 (by kernel_rfl), show u 2 = _ from hR 2 (by kernel_rfl)]
    case' a3_10 => simp only [show u 9 = _ from hR 9 (by kernel_rfl), show u 2 = _ from hR 2 (by kernel_rfl)]
    case a3_11 =>
     simp only [show u 10 = _ from hR 10 (by kernel_rfl), show u 2 = _ from hR 2 (by kernel_rfl)]
     clear hR k1 k0 kM
     refine .inl ⟨by kernel_rfl, ?_⟩
     have q := hf.cellSome (c1.out) (fun x => x)
     go_simp
     exact ⟨_, rfl, Fr.refl _ _, rfl, trivial⟩
    case a3_12 =>
     simp only [show u 11 = _ from hR 11 (by kernel_rfl), show u 2 = _ from hR 2 (by kernel_rfl)]
     clear hR k1 k0 kM
     refine .inl ⟨by kernel_rfl, ?_⟩
     go_simp
     refine (H1.out _ hf).mono ?_
     rintro e w4 ⟨rfl, rfl⟩
     exact ⟨_, rfl, Fr.refl _ _, rfl, trivial⟩
    case' a3_13 => simp only [show u 7 = _ from hR 7 (by kernel_rfl), show u 12 = _ from hR 12 (by kernel_rfl), show u 2 = _ from hR 2 (by kernel_rfl)]
    case' a3_14 => simp only [show u 2 = _ from hR 2 (by kernel_rfl), show u 13 = _ from hR 13 (by kernel_rfl)]
    case' a3_15 => simp only [show u 14 = _ from hR 14 (by kernel_rfl)]
    all_goals
     clear hR k1 k0 kM
     refine .inl ⟨by kernel_rfl, ?_⟩
     go_simp
     exact ⟨_, rfl, Fr.refl _ _, rfl, trivial⟩
   ·intro u w' hf hR kM
    have k15 : u 15 = _ := hR 15 (by omega)
    clear hR kM
    simp only [List.take_succ_cons, List.take_zero, List.map_cons, List.map_nil, puts, Act.put, List.setIfInBounds_toArray, List.set_cons_zero, List.set_cons_succ, List.drop_succ_cons, List.drop_zero, Nat.reduceAdd, Nat.zero_add, k15]
    have FA := Lib.hid hf
    have e1 := hf.cellSome c1.out (fun x => x)
    clear hf k15
    go_upto_region 6 with fail
    refine wp_region_st 20 Nothing [Is (.pointer (some ⟨gl, 0, none⟩)), Is (.pointer (some ⟨gl, 0, none⟩)), Is (.pointer (some ⟨gl, 0, none⟩)), Is (.pointer lla), Is (.pointer (some ⟨gl, 0, none⟩)), Is (.pointer (some ⟨gi, 0, none⟩)), Is (.pointer (some ⟨gi, 0, none⟩)), Is (.pointer (some ⟨gi, 0, none⟩)), Is (.pointer ila), (fun zv zW => ∃ za, zv = .pointer za ∧ NodH zW za (.node ll lnm lv il)), Is (.pointer (some ⟨gi, 0, none⟩)), Is (.pointer (some ⟨gi, 0, none⟩)), Is (.pointer (some ⟨gi, 0, none⟩)), Is (.pointer (some ⟨gi, 1, none⟩)), Is (.pointer ira), Is (.pointer (some ⟨g, 0, none⟩)), Is (.pointer ra), (fun zv zW => ∃ za, zv = .pointer za ∧ NodH zW za (.node ir nm v r)), (fun zv zW => ∃ za, zv = .pointer za ∧ NodH zW za (.node (.node ll lnm lv il) inm iv (.node ir nm v r))), (fun zv zW => ∃ za, zv = .pointer za ∧ NodH zW za (.node (.node ll lnm lv il) inm iv (.node ir nm v r)))] [] (fun _ => True) (fun _ _ => false) (by kernel_rfl) (by kernel_rfl) (by kernel_rfl) (by kernel_rfl) ⟨Is.stable _, Is.stable _, Is.stable _, Is.stable _, Is.stable _, Is.stable _, Is.stable _, Is.stable _, Is.stable _, fun v w1 w2 _ f h => by obtain ⟨a, e, hn⟩ := h; exact ⟨a, e, hn.fr0 f⟩, Is.stable _, Is.stable _, Is.stable _, Is.stable _, Is.stable _, Is.stable _, Is.stable _, fun v w1 w2 _ f h => by obtain ⟨a, e, hn⟩ := h; exact ⟨a, e, hn.fr0 f⟩, fun v w1 w2 _ f h => by obtain ⟨a, e, hn⟩ := h; exact ⟨a, e, hn.fr0 f⟩, fun v w1 w2 _ f h => by obtain ⟨a, e, hn⟩ := h; exact ⟨a, e, hn.fr0 f⟩, trivial⟩ trivial (fun _ _ _ _ h => h) trivial ?_ ?_
    ·refine ⟨?a4_0, ?a4_1, ?a4_2, ?a4_3, ?a4_4, ?a4_5, ?a4_6, ?a4_7, ?a4_8, ?a4_9, ?a4_10, ?a4_11, ?a4_12, ?a4_13, ?a4_14, ?a4_15, ?a4_16, ?a4_17, ?a4_18, ?a4_19, trivial⟩
     all_goals intro u w' d hf hR k1 k0 kM
     all_goals simp only [List.take_succ_cons, List.take_zero, List.map_cons, List.map_nil, puts, Act.put, List.setIfInBounds_toArray, List.set_cons_zero, List.set_cons_succ, Nat.reduceAdd, Nat.zero_add]
     case' a4_1 => simp only [show u 0 = _ from hR 0 (by kernel_rfl)]
     case' a4_2 => simp only [show u 1 = _ from hR 1 (by kernel_rfl)]
     case a4_3 =>
      simp only [show u 2 = _ from hR 2 (by kernel_rfl)]
      clear hR k1 k0 kM
      refine .inl ⟨by kernel_rfl, ?_⟩
      have q := hf.cellSome (FA.out.cellSome c0.out (fun x => x)) (fun x => x)
      go_simp
      exact ⟨_, rfl, Fr.refl _ _, rfl, trivial⟩
     case' a4_6 => simp only [show u 5 = _ from hR 5 (by kernel_rfl)]
     case' a4_7 => simp only [show u 6 = _ from hR 6 (by kernel_rfl)]
     case a4_8 =>
      simp only [show u 7 = _ from hR 7 (by kernel_rfl)]
      clear hR k1 k0 kM
      refine .inl ⟨by kernel_rfl, ?_⟩
      have q := hf.cellSome (FA.out.cellSome d0.out (fun x => x)) (fun x => x)
      go_simp
      exact ⟨_, rfl, Fr.refl _ _, rfl, trivial⟩
     case a4_9 =>
      simp only [show u 3 = _ from hR 3 (by kernel_rfl), show u 4 = _ from hR 4 (by kernel_rfl), show u 8 = _ from hR 8 (by kernel_rfl)]
      clear hR k1 k0 kM
      refine .inl ⟨by kernel_rfl, ?_⟩
      go_simp
      refine (join_any _ lla ila ll il gl lnm lv (NLL.out.fr0 (FA.out.trans hf)) (NIL.out.fr0 (FA.out.trans hf)) (ML.out.fr0 (FA.out.trans hf)) (by have h1 := HSZ.out; have h2 := HBY.out; simp only [Tr.size, Tr.bytes] at h1 h2 ⊢; omega) (by have h1 := HSZ.out; have h2 := HBY.out; simp only [Tr.size, Tr.bytes] at h1 h2 ⊢; omega)).mono ?_
      rintro e w4 ⟨a, rfl, hn, f4⟩
      exact ⟨_, rfl, f4.weak, ⟨a, rfl, hn⟩, trivial⟩
     case' a4_12 => simp only [show u 11 = _ from hR 11 (by kernel_rfl)]
     case' a4_13 => simp only [show u 12 = _ from hR 12 (by kernel_rfl)]
     case a4_14 =>
      simp only [show u 13 = _ from hR 13 (by kernel_rfl)]
      clear hR k1 k0 kM
      refine .inl ⟨by kernel_rfl, ?_⟩
      have q := hf.cellSome (FA.out.cellSome d1.out (fun x => x)) (fun x => x)
      go_simp
      exact ⟨_, rfl, Fr.refl _ _, rfl, trivial⟩
     case a4_17 =>
      simp only [show u 14 = _ from hR 14 (by kernel_rfl), show u 15 = _ from hR 15 (by kernel_rfl), show u 16 = _ from hR 16 (by kernel_rfl)]
      clear hR k1 k0 kM
      refine .inl ⟨by kernel_rfl, ?_⟩
      go_simp
      refine (join_any _ ira ra ir r g nm v (NIR.out.fr0 (FA.out.trans hf)) (NR.out.fr0 (FA.out.trans hf)) (MM.out.fr0 (FA.out.trans hf)) (by have h1 := HSZ.out; have h2 := HBY.out; simp only [Tr.size, Tr.bytes] at h1 h2 ⊢; omega) (by have h1 := HSZ.out; have h2 := HBY.out; simp only [Tr.size, Tr.bytes] at h1 h2 ⊢; omega)).mono ?_
      rintro e w4 ⟨a, rfl, hn, f4⟩
      exact ⟨_, rfl, f4.weak, ⟨a, rfl, hn⟩, trivial⟩
     case a4_18 =>
      obtain ⟨a9, e9, n9⟩ := hR 9 (by kernel_rfl)
      obtain ⟨a17, e17, n17⟩ := hR 17 (by kernel_rfl)
      simp only [e9, show u 10 = _ from hR 10 (by kernel_rfl), e17]
      clear hR k1 k0 kM
      refine .inl ⟨by kernel_rfl, ?_⟩
      go_simp
      refine (join_any _ a9 a17 (.node ll lnm lv il) (.node ir nm v r) gi inm iv n9 n17 (MI.out.fr0 (FA.out.trans hf)) (by have h1 := HSZ.out; have h2 := HBY.out; simp only [Tr.size, Tr.bytes] at h1 h2 ⊢; omega) (by have h1 := HSZ.out; have h2 := HBY.out; simp only [Tr.size, Tr.bytes] at h1 h2 ⊢; omega)).mono ?_
      rintro e w4 ⟨a, rfl, hn, f4⟩
      exact ⟨_, rfl, f4.weak, ⟨a, rfl, hn⟩, trivial⟩
     case a4_19 =>
      obtain ⟨a18, e18, n18⟩ := hR 18 (by kernel_rfl)
      simp only [e18]
      clear hR k1 k0 kM
      refine .inl ⟨by kernel_rfl, ?_⟩
      go_simp
      exact ⟨_, rfl, Fr.refl _ _, ⟨_, rfl, n18⟩, trivial⟩
     all_goals
      clear hR k1 k0 kM
      refine .inl ⟨by kernel_rfl, ?_⟩
      go_simp
      exact ⟨_, rfl, Fr.refl _ _, rfl, trivial⟩
    ·intro u w' hf hR kM
     obtain ⟨a19, e19, n19⟩ := hR 19 (by omega)
     clear hR kM
     simp only [List.take_succ_cons, List.take_zero, List.map_cons, List.map_nil, puts, Act.put, List.setIfInBounds_toArray, List.set_cons_zero, List.set_cons_succ, List.drop_succ_cons, List.drop_zero, Nat.reduceAdd, Nat.zero_add, e19]
     have HF := Lib.hid (FA.out.trans hf)
     have HN := Lib.hid n19
     clear hf n19 e19
     go_wp2
     go_ret
     exact ⟨_, _, rfl, HN.out, by simp [Tr.toL], HF.out⟩
 ·have tA : decide ((1 : Int) < d) = false := decide_eq_false hA
  go_upto_region 2 with fail
  refine wp_region_st 16 Nothing [Is (.int .i64 d), Is (.bool false), Is (.bool false), Is (undef), Is (undef), Is (undef), Is (undef), Is (undef), Is (undef), Is (undef), Is (undef), Is (undef), Is (undef), Is (undef), Is (.bool false), Is (.bool false)] [] (fun _ => True) (fun _ _ => false) (by kernel_rfl) (by kernel_rfl) (by kernel_rfl) (by kernel_rfl) ⟨Is.stable _, Is.stable _, Is.stable _, Is.stable _, Is.stable _, Is.stable _, Is.stable _, Is.stable _, Is.stable _, Is.stable _, Is.stable _, Is.stable _, Is.stable _, Is.stable _, Is.stable _, Is.stable _, trivial⟩ trivial (fun _ _ _ _ h => h) trivial ?_ ?_
  ·refine ⟨?a5_0, ?a5_1, ?a5_2, ?a5_3, ?a5_4, ?a5_5, ?a5_6, ?a5_7, ?a5_8, ?a5_9, ?a5_10, ?a5_11, ?a5_12, ?a5_13, ?a5_14, ?a5_15, trivial⟩
   all_goals intro u w' d hf hR k1 k0 kM
   all_goals simp only [List.take_succ_cons, List.take_zero, List.map_cons, List.map_nil, puts, Act.put, List.setIfInBounds_toArray, List.set_cons_zero, List.set_cons_succ, Nat.reduceAdd, Nat.zero_add]
   case' a5_1 => simp only [show u 0 = _ from hR 0 (by kernel_rfl)]
   case' a5_2 => simp only [show u 1 = _ from hR 1 (by kernel_rfl)]
   case a5_3 => simp only [show u 2 = _ from hR 2 (by kernel_rfl)]; exact .inr ⟨by kernel_rfl, _, rfl, Fr.refl _ _, rfl, trivial⟩
   case a5_4 => simp only [show u 2 = _ from hR 2 (by kernel_rfl)]; exact .inr ⟨by kernel_rfl, _, rfl, Fr.refl _ _, rfl, trivial⟩
   case a5_5 => simp only [show u 2 = _ from hR 2 (by kernel_rfl)]; exact .inr ⟨by kernel_rfl, _, rfl, Fr.refl _ _, rfl, trivial⟩
   case a5_6 => simp only [show u 2 = _ from hR 2 (by kernel_rfl)]; exact .inr ⟨by kernel_rfl, _, rfl, Fr.refl _ _, rfl, trivial⟩
   case a5_7 => simp only [show u 2 = _ from hR 2 (by kernel_rfl)]; exact .inr ⟨by kernel_rfl, _, rfl, Fr.refl _ _, rfl, trivial⟩
   case a5_8 => simp only [show u 2 = _ from hR 2 (by kernel_rfl)]; exact .inr ⟨by kernel_rfl, _, rfl, Fr.refl _ _, rfl, trivial⟩
   case a5_9 => simp only [show u 2 = _ from hR 2 (by kernel_rfl)]; exact .inr ⟨by kernel_rfl, _, rfl, Fr.refl _ _, rfl, trivial⟩
   case a5_10 => simp only [show u 2 = _ from hR 2 (by kernel_rfl)]; exact .inr ⟨by kernel_rfl, _, rfl, Fr.refl _ _, rfl, trivial⟩
   case a5_11 => simp only [show u 2 = _ from hR 2 (by kernel_rfl)]; exact .inr ⟨by kernel_rfl, _, rfl, Fr.refl _ _, rfl, trivial⟩
   case a5_12 => simp only [show u 2 = _ from hR 2 (by kernel_rfl)]; exact .inr ⟨by kernel_rfl, _, rfl, Fr.refl _ _, rfl, trivial⟩
   case a5_13 => simp only [show u 2 = _ from hR 2 (by kernel_rfl)]; exact .inr ⟨by kernel_rfl, _, rfl, Fr.refl _ _, rfl, trivial⟩
   case' a5_14 => simp only [show u 2 = _ from hR 2 (by kernel_rfl), show u 13 = _ from hR 13 (by kernel_rfl)]
   case' a5_15 => simp only [show u 14 = _ from hR 14 (by kernel_rfl)]
   all_goals
    clear hR k1 k0 kM
    refine .inl ⟨by kernel_rfl, ?_⟩
    go_simp
    exact ⟨_, rfl, Fr.refl _ _, rfl, trivial⟩
  ·intro u w' hf hR kM
   have k15 : u 15 = _ := hR 15 (by omega)
   clear hR kM
   simp only [List.take_succ_cons, List.take_zero, List.map_cons, List.map_nil, puts, Act.put, List.setIfInBounds_toArray, List.set_cons_zero, List.set_cons_succ, List.drop_succ_cons, List.drop_zero, Nat.reduceAdd, Nat.zero_add, k15]
   have FA := Lib.hid hf
   clear hf k15
   by_cases hB : d < -1
   ·have tB : decide (d < (-1 : Int)) = true := decide_eq_true hB
    obtain ⟨rl, rnm, rv, rr, rfl⟩ : ∃ rl rnm rv rr, r = .node rl rnm rv rr := by
     cases r with
     | leaf => have h0 := HY.out; simp only [Tr.height] at h0; have := HD.out; omega
     | node a b c d => exact ⟨a, b, c, d, rfl⟩
    obtain ⟨gr, rla, rra, rfl, hrl, hrr, hbr⟩ := NR.out
    have NRL := Lib.hid hrl
    have NRR := Lib.hid hrr
    have MR : Hid (Mid w gr rnm rv) := Mid.of hbr
    have c0 : Hid (w.cell? ⟨gr, 0, none⟩ = some (.pointer rla)) := hbr.cell 0
    have c1 : Hid (w.cell? ⟨gr, 1, none⟩ = some (.pointer rra)) := hbr.cell 1
    have H0 : Hid (∀ w', Fr Nothing w w' → Calls Tryz.prog 97 #[.pointer rla] w' (SameW w' (.int .i64 (rl.height : Nat)))) := fun w' f => heightOf_any w' rla rl (NRL.out.fr0 f)
    have H1 : Hid (∀ w', Fr Nothing w w' → Calls Tryz.prog 97 #[.pointer rra] w' (SameW w' (.int .i64 (rr.height : Nat)))) := fun w' f => heightOf_any w' rra rr (NRR.out.fr0 f)
    obtain ⟨p, hp⟩ : ∃ p : Int, p = (rl.height : Nat) := ⟨_, rfl⟩
    obtain ⟨q, hq⟩ : ∃ q : Int, q = (rr.height : Nat) := ⟨_, rfl⟩
    rw [← hp] at H0
    rw [← hq] at H1
    have HP := Lib.hid hp
    have HQ := Lib.hid hq
    have b6 : 0 ≤ p ∧ 0 ≤ q := by omega
    clear hrl hrr hbr hp hq hA hB
    by_cases hpq : p ≤ q
    ·have tq : decide (p ≤ q) = true := decide_eq_true hpq
     go_upto_region 7 with fail
     refine wp_region_st 16 Nothing [Is (.int .i64 d), Is (.bool true), Is (.bool true), Is (.pointer (some ⟨gr, 0, none⟩)), Is (.pointer (some ⟨gr, 0, none⟩)), Is (.pointer (some ⟨gr, 1, none⟩)), Is (.pointer rra), Is (.int .i64 q), Is (.pointer (some ⟨gr, 0, none⟩)), Is (.pointer (some ⟨gr, 0, none⟩)), Is (.pointer (some ⟨gr, 0, none⟩)), Is (.pointer rla), Is (.int .i64 p), Is (.bool true), Is (.bool true), Is (.bool true)] [] (fun _ => True) (fun _ _ => false) (by kernel_rfl) (by kernel_rfl) (by kernel_rfl) (by kernel_rfl) ⟨Is.stable _, Is.stable _, Is.stable _, Is.stable _, Is.stable _, Is.stable _, Is.stable _, Is.stable _, Is.stable _, Is.stable _, Is.stable _, Is.stable _, Is.stable _, Is.stable _, Is.stable _, Is.stable _, trivial⟩ trivial (fun _ _ _ _ h => h) trivial ?_ ?_
     ·refine ⟨?a6_0, ?a6_1, ?a6_2, ?a6_3, ?a6_4, ?a6_5, ?a6_6, ?a6_7, ?a6_8, ?a6_9, ?a6_10, ?a6_11, ?a6_12, ?a6_13, ?a6_14, ?a6_15, trivial⟩
      all_goals intro u w' d hf hR k1 k0 kM
      all_goals simp only [List.take_succ_cons, List.take_zero, List.map_cons, List.map_nil, puts, Act.put, List.setIfInBounds_toArray, List.set_cons_zero, List.set_cons_succ, Nat.reduceAdd, Nat.zero_add]
      case' a6_1 => simp only [show u 0 = _ from hR 0 (by kernel_rfl)]
      case' a6_2 => simp only [show u 1 = _ from hR 1 (by kernel_rfl)]
      case' a6_3 => simp only [show u 2 = _ from hR 2 (by kernel_rfl)]
      case' a6_4 => simp only [show u 3 = _ from hR 3 (by kernel_rfl), show u 2 = _ from hR 2 (by kernel_rfl)]
      case' a6_5 => simp only [show u 4 = _ from hR 4 (by kernel_rfl), show u 2 = _ from hR 2 (by kernel_rfl)]
      case a6_6 =>
       simp only [show u 5 = _ from hR 5 (by kernel_rfl), show u 2 = _ from hR 2 (by kernel_rfl)]
       clear hR k1 k0 kM
       refine .inl ⟨by kernel_rfl, ?_⟩
       have q := hf.cellSome (FA.out.cellSome c1.out (fun x => x)) (fun x => x)
       go_simp
       exact ⟨_, rfl, Fr.refl _ _, rfl, trivial⟩
      case a6_7 =>
       simp only [show u 6 = _ from hR 6 (by kernel_rfl), show u 2 = _ from hR 2 (by kernel_rfl)]
       clear hR k1 k0 kM
       refine .inl ⟨by kernel_rfl, ?_⟩
       go_simp
       refine (H1.out _ (FA.out.trans hf)).mono ?_
       rintro e w4 ⟨rfl, rfl⟩
       exact ⟨_, rfl, Fr.refl _ _, rfl, trivial⟩
      case' a6_8 => simp only [show u 2 = _ from hR 2 (by kernel_rfl)]
      case' a6_9 => simp only [show u 8 = _ from hR 8 (by kernel_rfl), show u 2 = _ from hR 2 (by kernel_rfl)]
      case' a6_10 => simp only [show u 9 = _ from hR 9 (by kernel_rfl), show u 2 = _ from hR 2 (by kernel_rfl)]
      case a6_11 =>
       simp only [show u 10 = _ from hR 10 (by kernel_rfl), show u 2 = _ from hR 2 (by kernel_rfl)]
       clear hR k1 k0 kM
       refine .inl ⟨by kernel_rfl, ?_⟩
       have q := hf.cellSome (FA.out.cellSome c0.out (fun x => x)) (fun x => x)
       go_simp
       exact ⟨_, rfl, Fr.refl _ _, rfl, trivial⟩
      case a6_12 =>
       simp only [show u 11 = _ from hR 11 (by kernel_rfl), show u 2 = _ from hR 2 (by kernel_rfl)]
       clear hR k1 k0 kM
       refine .inl ⟨by kernel_rfl, ?_⟩
       go_simp
       refine (H0.out _ (FA.out.trans hf)).mono ?_
       rintro e w4 ⟨rfl, rfl⟩
       exact ⟨_, rfl, Fr.refl _ _, rfl, trivial⟩
      case' a6_13 => simp only [show u 7 = _ from hR 7 (by kernel_rfl), show u 12 = _ from hR 12 (by kernel_rfl), show u 2 = _ from hR 2 (by kernel_rfl)]
      case' a6_14 => simp only [show u 2 = _ from hR 2 (by kernel_rfl), show u 13 = _ from hR 13 (by kernel_rfl)]
      case' a6_15 => simp only [show u 14 = _ from hR 14 (by kernel_rfl)]
      all_goals
       clear hR k1 k0 kM
       refine .inl ⟨by kernel_rfl, ?_⟩
       go_simp
       exact ⟨_, rfl, Fr.refl _ _, rfl, trivial⟩
     ·intro u w' hf hR kM
      have k15 : u 15 = _ := hR 15 (by omega)
      clear hR kM
      simp only [List.take_succ_cons, List.take_zero, List.map_cons, List.map_nil, puts, Act.put, List.setIfInBounds_toArray, List.set_cons_zero, List.set_cons_succ, List.drop_succ_cons, List.drop_zero, Nat.reduceAdd, Nat.zero_add, k15]
      have FB := Lib.hid (FA.out.trans hf)
      clear hf k15
      go_upto_region 8 with fail
      refine wp_region_st 14 Nothing [Is (.pointer la), Is (.pointer (some ⟨g, 0, none⟩)), Is (.pointer (some ⟨gr, 0, none⟩)), Is (.pointer (some ⟨gr, 0, none⟩)), Is (.pointer (some ⟨gr, 0, none⟩)), Is (.pointer rla), (fun zv zW => ∃ za, zv = .pointer za ∧ NodH zW za (.node l nm v rl)), Is (.pointer (some ⟨gr, 0, none⟩)), Is (.pointer (some ⟨gr, 0, none⟩)), Is (.pointer (some ⟨gr, 0, none⟩)), Is (.pointer (some ⟨gr, 1, none⟩)), Is (.pointer rra), (fun zv zW => ∃ za, zv = .pointer za ∧ NodH zW za (.node (.node l nm v rl) rnm rv rr)), (fun zv zW => ∃ za, zv = .pointer za ∧ NodH zW za (.node (.node l nm v rl) rnm rv rr))] [] (fun _ => True) (fun _ _ => false) (by kernel_rfl) (by kernel_rfl) (by kernel_rfl) (by kernel_rfl) ⟨Is.stable _, Is.stable _, Is.stable _, Is.stable _, Is.stable _, Is.stable _, fun v w1 w2 _ f h => by obtain ⟨a, e, hn⟩ := h; exact ⟨a, e, hn.fr0 f⟩, Is.stable _, Is.stable _, Is.stable _, Is.stable _, Is.stable _, fun v w1 w2 _ f h => by obtain ⟨a, e, hn⟩ := h; exact ⟨a, e, hn.fr0 f⟩, fun v w1 w2 _ f h => by obtain ⟨a, e, hn⟩ := h; exact ⟨a, e, hn.fr0 f⟩, trivial⟩ trivial (fun _ _ _ _ h => h) trivial ?_ ?_
      ·refine ⟨?a7_0, ?a7_1, ?a7_2, ?a7_3, ?a7_4, ?a7_5, ?a7_6, ?a7_7, ?a7_8, ?a7_9, ?a7_10, ?a7_11, ?a7_12, ?a7_13, trivial⟩
       all_goals intro u w' d hf hR k1 k0 kM
       all_goals simp only [List.take_succ_cons, List.take_zero, List.map_cons, List.map_nil, puts, Act.put, List.setIfInBounds_toArray, List.set_cons_zero, List.set_cons_succ, Nat.reduceAdd, Nat.zero_add]
       case' a7_3 => simp only [show u 2 = _ from hR 2 (by kernel_rfl)]
       case' a7_4 => simp only [show u 3 = _ from hR 3 (by kernel_rfl)]
       case a7_5 =>
        simp only [show u 4 = _ from hR 4 (by kernel_rfl)]
        clear hR k1 k0 kM
        refine .inl ⟨by kernel_rfl, ?_⟩
        have q := hf.cellSome (FB.out.cellSome c0.out (fun x => x)) (fun x => x)
        go_simp
        exact ⟨_, rfl, Fr.refl _ _, rfl, trivial⟩
       case a7_6 =>
        simp only [show u 0 = _ from hR 0 (by kernel_rfl), show u 1 = _ from hR 1 (by kernel_rfl), show u 5 = _ from hR 5 (by kernel_rfl)]
        clear hR k1 k0 kM
        refine .inl ⟨by kernel_rfl, ?_⟩
        go_simp
        refine (join_any _ la rla l rl g nm v (NL.out.fr0 (FB.out.trans hf)) (NRL.out.fr0 (FB.out.trans hf)) (MM.out.fr0 (FB.out.trans hf)) (by have h1 := HSZ.out; have h2 := HBY.out; simp only [Tr.size, Tr.bytes] at h1 h2 ⊢; omega) (by have h1 := HSZ.out; have h2 := HBY.out; simp only [Tr.size, Tr.bytes] at h1 h2 ⊢; omega)).mono ?_
        rintro e w4 ⟨a, rfl, hn, f4⟩
        exact ⟨_, rfl, f4.weak, ⟨a, rfl, hn⟩, trivial⟩
       case' a7_9 => simp only [show u 8 = _ from hR 8 (by kernel_rfl)]
       case' a7_10 => simp only [show u 9 = _ from hR 9 (by kernel_rfl)]
       case a7_11 =>
        simp only [show u 10 = _ from hR 10 (by kernel_rfl)]
        clear hR k1 k0 kM
        refine .inl ⟨by kernel_rfl, ?_⟩
        have q := hf.cellSome (FB.out.cellSome c1.out (fun x => x)) (fun x => x)
        go_simp
        exact ⟨_, rfl, Fr.refl _ _, rfl, trivial⟩
       case a7_12 =>
        obtain ⟨a6, e6, n6⟩ := hR 6 (by kernel_rfl)
        simp only [e6, show u 7 = _ from hR 7 (by kernel_rfl), show u 11 = _ from hR 11 (by kernel_rfl)]
        clear hR k1 k0 kM
        refine .inl ⟨by kernel_rfl, ?_⟩
        go_simp
        refine (join_any _ a6 rra (.node l nm v rl) rr gr rnm rv n6 (NRR.out.fr0 (FB.out.trans hf)) (MR.out.fr0 (FB.out.trans hf)) (by have h1 := HSZ.out; have h2 := HBY.out; simp only [Tr.size, Tr.bytes] at h1 h2 ⊢; omega) (by have h1 := HSZ.out; have h2 := HBY.out; simp only [Tr.size, Tr.bytes] at h1 h2 ⊢; omega)).mono ?_
        rintro e w4 ⟨a, rfl, hn, f4⟩
        exact ⟨_, rfl, f4.weak, ⟨a, rfl, hn⟩, trivial⟩
       case a7_13 =>
        obtain ⟨a12, e12, n12⟩ := hR 12 (by kernel_rfl)
        simp only [e12]
        clear hR k1 k0 kM
        refine .inl ⟨by kernel_rfl, ?_⟩
        go_simp
        exact ⟨_, rfl, Fr.refl _ _, ⟨_, rfl, n12⟩, trivial⟩
       all_goals
        clear hR k1 k0 kM
        refine .inl ⟨by kernel_rfl, ?_⟩
        go_simp
        exact ⟨_, rfl, Fr.refl _ _, rfl, trivial⟩
      ·intro u w' hf hR kM
       obtain ⟨a13, e13, n13⟩ := hR 13 (by omega)
       clear hR kM
       simp only [List.take_succ_cons, List.take_zero, List.map_cons, List.map_nil, puts, Act.put, List.setIfInBounds_toArray, List.set_cons_zero, List.set_cons_succ, List.drop_succ_cons, List.drop_zero, Nat.reduceAdd, Nat.zero_add, e13]
       have HF := Lib.hid (FB.out.trans hf)
       have HN := Lib.hid n13
       clear hf n13 e13
       go_wp2
       go_ret
       exact ⟨_, _, rfl, HN.out, by simp [Tr.toL], HF.out⟩
    ·have tq : decide (p ≤ q) = false := decide_eq_false hpq
     obtain ⟨il, inm, iv, ir, rfl⟩ : ∃ il inm iv ir, rl = .node il inm iv ir := by
      cases rl with
      | leaf => have h0 := HP.out; simp only [Tr.height] at h0; omega
      | node a b c d => exact ⟨a, b, c, d, rfl⟩
     obtain ⟨gi, ila, ira, rfl, hil, hir, hbi⟩ := NRL.out
     have NIL := Lib.hid hil
     have NIR := Lib.hid hir
     have MI : Hid (Mid w gi inm iv) := Mid.of hbi
     have d0 : Hid (w.cell? ⟨gi, 0, none⟩ = some (.pointer ila)) := hbi.cell 0
     have d1 : Hid (w.cell? ⟨gi, 1, none⟩ = some (.pointer ira)) := hbi.cell 1
     clear hil hir hbi
     go_upto_region 7 with fail
     refine wp_region_st 16 Nothing [Is (.int .i64 d), Is (.bool true), Is (.bool true), Is (.pointer (some ⟨gr, 0, none⟩)), Is (.pointer (some ⟨gr, 0, none⟩)), Is (.pointer (some ⟨gr, 1, none⟩)), Is (.pointer rra), Is (.int .i64 q), Is (.pointer (some ⟨gr, 0, none⟩)), Is (.pointer (some ⟨gr, 0, none⟩)), Is (.pointer (some ⟨gr, 0, none⟩)), Is (.pointer (some ⟨gi, 0, none⟩)), Is (.int .i64 p), Is (.bool false), Is (.bool false), Is (.bool false)] [] (fun _ => True) (fun _ _ => false) (by kernel_rfl) (by kernel_rfl) (by kernel_rfl) (by kernel_rfl) ⟨Is.stable _, Is.stable _, Is.stable _, Is.stable _, Is.stable _, Is.stable _, Is.stable _, Is.stable _, Is.stable _, Is.stable _, Is.stable _, Is.stable _, Is.stable _, Is.stable _, Is.stable _, Is.stable _, trivial⟩ trivial (fun _ _ _ _ h => h) trivial ?_ ?_
     ·refine ⟨?a8_0, ?a8_1, ?a8_2, ?a8_3, ?a8_4, ?a8_5, ?a8_6, ?a8_7, ?a8_8, ?a8_9, ?a8_10, ?a8_11, ?a8_12, ?a8_13, ?a8_14, ?a8_15, trivial⟩
      all_goals intro u w' d hf hR k1 k0 kM
      all_goals simp only [List.take_succ_cons, List.take_zero, List.map_cons, List.map_nil, puts, Act.put, List.setIfInBounds_toArray, List.set_cons_zero, List.set_cons_succ, Nat.reduceAdd, Nat.zero_add]
      case' a8_1 => simp only [show u 0 = _ from hR 0 (by kernel_rfl)]
      case' a8_2 => simp only [show u 1 = _ from hR 1 (by kernel_rfl)]
      case' a8_3 => simp only [show u 2 = _ from hR 2 (by kernel_rfl)]
      case' a8_4 => simp only [show u 3 = _ from hR 3 (by kernel_rfl), show u 2 = _ from hR 2 (by kernel_rfl)]
      case' a8_5 => simp only [show u 4 = _ from hR 4 (by kernel_rfl), show u 2 = _ from hR 2 (by kernel_rfl)]
      case a8_6 =>
       simp only [show u 5 = _ from hR 5 (by kernel_rfl), show u 2 = _ from hR 2 (by kernel_rfl)]
       clear hR k1 k0 kM
       refine .inl ⟨by kernel_rfl, ?_⟩
       have q := hf.cellSome (FA.out.cellSome c1.out (fun x => x)) (fun x => x)
       go_simp
       exact ⟨_, rfl, Fr.refl _ _, rfl, trivial⟩
      case a8_7 =>
       simp only [show u 6 = _ from hR 6 (by kernel_rfl), show u 2 = _ from hR 2 (by kernel_rfl)]
       clear hR k1 k0 kM
       refine .inl ⟨by kernel_rfl, ?_⟩
       go_simp
       refine (H1.out _ (FA.out.trans hf)).mono ?_
       rintro e w4 ⟨rfl, rfl⟩
       exact ⟨_, rfl, Fr.refl _ _, rfl, trivial⟩
      case' a8_8 => simp only [show u 2 = _ from hR 2 (by kernel_rfl)]
      case' a8_9 => simp only [show u 8 = _ from hR 8 (by kernel_rfl), show u 2 = _ from hR 2 (by kernel_rfl)]
      case' a8_10 => simp only [show u 9 = _ from hR 9 (by kernel_rfl), show u 2 = _ from hR 2 (by kernel_rfl)]
      case a8_11 =>
       simp only [show u 10 = _ from hR 10 (by kernel_rfl), show u 2 = _ from hR 2 (by kernel_rfl)]
       clear hR k1 k0 kM
       refine .inl ⟨by kernel_rfl, ?_⟩
       have q := hf.cellSome (FA.out.cellSome c0.out (fun x => x)) (fun x => x)
       go_simp
       exact ⟨_, rfl, Fr.refl _ _, rfl, trivial⟩
      case a8_12 =>
       simp only [show u 11 = _ from hR 11 (by kernel_rfl), show u 2 = _ from hR 2 (by kernel_rfl)]
       clear hR k1 k0 kM
       refine .inl ⟨by kernel_rfl, ?_⟩
       go_simp
       refine (H0.out _ (FA.out.trans hf)).mono ?_
       rintro e w4 ⟨rfl, rfl⟩
       exact ⟨_, rfl, Fr.refl _ _, rfl, trivial⟩
      case' a8_13 => simp only [show u 7 = _ from hR 7 (by kernel_rfl), show u 12 = _ from hR 12 (by kernel_rfl), show u 2 = _ from hR 2 (by kernel_rfl)]
      case' a8_14 => simp only [show u 2 = _ from hR 2 (by kernel_rfl), show u 13 = _ from hR 13 (by kernel_rfl)]
      case' a8_15 => simp only [show u 14 = _ from hR 14 (by kernel_rfl)]
      all_goals
       clear hR k1 k0 kM
       refine .inl ⟨by kernel_rfl, ?_⟩
       go_simp
       exact ⟨_, rfl, Fr.refl _ _, rfl, trivial⟩
     ·intro u w' hf hR kM
      have k15 : u 15 = _ := hR 15 (by omega)
      clear hR kM
      simp only [List.take_succ_cons, List.take_zero, List.map_cons, List.map_nil, puts, Act.put, List.setIfInBounds_toArray, List.set_cons_zero, List.set_cons_succ, List.drop_succ_cons, List.drop_zero, Nat.reduceAdd, Nat.zero_add, k15]
      have FB := Lib.hid (FA.out.trans hf)
      have e0 := FB.out.cellSome c0.out (fun x => x)
      clear hf k15
      go_upto_region 11 with fail
      refine wp_region_st 20 Nothing [Is (.pointer la), Is (.pointer (some ⟨g, 0, none⟩)), Is (.pointer (some ⟨gi, 0, none⟩)), Is (.pointer (some ⟨gi, 0, none⟩)), Is (.pointer (some ⟨gi, 0, none⟩)), Is (.pointer ila), (fun zv zW => ∃ za, zv = .pointer za ∧ NodH zW za (.node l nm v il)), Is (.pointer (some ⟨gi, 0, none⟩)), Is (.pointer (some ⟨gi, 0, none⟩)), Is (.pointer (some ⟨gi, 0, none⟩)), Is (.pointer (some ⟨gi, 1, none⟩)), Is (.pointer ira), Is (.pointer (some ⟨gr, 0, none⟩)), Is (.pointer (some ⟨gr, 0, none⟩)), Is (.pointer (some ⟨gr, 0, none⟩)), Is (.pointer (some ⟨gr, 1, none⟩)), Is (.pointer rra), (fun zv zW => ∃ za, zv = .pointer za ∧ NodH zW za (.node ir rnm rv rr)), (fun zv zW => ∃ za, zv = .pointer za ∧ NodH zW za (.node (.node l nm v il) inm iv (.node ir rnm rv rr))), (fun zv zW => ∃ za, zv = .pointer za ∧ NodH zW za (.node (.node l nm v il) inm iv (.node ir rnm rv rr)))] [] (fun _ => True) (fun _ _ => false) (by kernel_rfl) (by kernel_rfl) (by kernel_rfl) (by kernel_rfl) ⟨Is.stable _, Is.stable _, Is.stable _, Is.stable _, Is.stable _, Is.stable _, fun v w1 w2 _ f h => by obtain ⟨a, e, hn⟩ := h; exact ⟨a, e, hn.fr0 f⟩, Is.stable _, Is.stable _, Is.stable _, Is.stable _, Is.stable _, Is.stable _, Is.stable _, Is.stable _, Is.stable _, Is.stable _, fun v w1 w2 _ f h => by obtain ⟨a, e, hn⟩ := h; exact ⟨a, e, hn.fr0 f⟩, fun v w1 w2 _ f h => by obtain ⟨a, e, hn⟩ := h; exact ⟨a, e, hn.fr0 f⟩, fun v w1 w2 _ f h => by obtain ⟨a, e, hn⟩ := h; exact ⟨a, e, hn.fr0 f⟩, trivial⟩ trivial (fun _ _ _ _ h => h) trivial ?_ ?_
      ·refine ⟨?a9_0, ?a9_1, ?a9_2, ?a9_3, ?a9_4, ?a9_5, ?a9_6, ?a9_7, ?a9_8, ?a9_9, ?a9_10, ?a9_11, ?a9_12, ?a9_13, ?a9_14, ?a9_15, ?a9_16, ?a9_17, ?a9_18, ?a9_19, trivial⟩
       all_goals intro u w' d hf hR k1 k0 kM
       all_goals simp only [List.take_succ_cons, List.take_zero, List.map_cons, List.map_nil, puts, Act.put, List.setIfInBounds_toArray, List.set_cons_zero, List.set_cons_succ, Nat.reduceAdd, Nat.zero_add]
       case' a9_3 => simp only [show u 2 = _ from hR 2 (by kernel_rfl)]
       case' a9_4 => simp only [show u 3 = _ from hR 3 (by kernel_rfl)]
       case a9_5 =>
        simp only [show u 4 = _ from hR 4 (by kernel_rfl)]
        clear hR k1 k0 kM
        refine .inl ⟨by kernel_rfl, ?_⟩
        have q := hf.cellSome (FB.out.cellSome d0.out (fun x => x)) (fun x => x)
        go_simp
        exact ⟨_, rfl, Fr.refl _ _, rfl, trivial⟩
       case a9_6 =>
        simp only [show u 0 = _ from hR 0 (by kernel_rfl), show u 1 = _ from hR 1 (by kernel_rfl), show u 5 = _ from hR 5 (by kernel_rfl)]
        clear hR k1 k0 kM
        refine .inl ⟨by kernel_rfl, ?_⟩
        go_simp
        refine (join_any _ la ila l il g nm v (NL.out.fr0 (FB.out.trans hf)) (NIL.out.fr0 (FB.out.trans hf)) (MM.out.fr0 (FB.out.trans hf)) (by have h1 := HSZ.out; have h2 := HBY.out; simp only [Tr.size, Tr.bytes] at h1 h2 ⊢; omega) (by have h1 := HSZ.out; have h2 := HBY.out; simp only [Tr.size, Tr.bytes] at h1 h2 ⊢; omega)).mono ?_
        rintro e w4 ⟨a, rfl, hn, f4⟩
        exact ⟨_, rfl, f4.weak, ⟨a, rfl, hn⟩, trivial⟩
       case' a9_9 => simp only [show u 8 = _ from hR 8 (by kernel_rfl)]
       case' a9_10 => simp only [show u 9 = _ from hR 9 (by kernel_rfl)]
       case a9_11 =>
        simp only [show u 10 = _ from hR 10 (by kernel_rfl)]
        clear hR k1 k0 kM
        refine .inl ⟨by kernel_rfl, ?_⟩
        have q := hf.cellSome (FB.out.cellSome d1.out (fun x => x)) (fun x => x)
        go_simp
        exact ⟨_, rfl, Fr.refl _ _, rfl, trivial⟩
       case' a9_14 => simp only [show u 13 = _ from hR 13 (by kernel_rfl)]
       case' a9_15 => simp only [show u 14 = _ from hR 14 (by kernel_rfl)]
       case a9_16 =>
        simp only [show u 15 = _ from hR 15 (by kernel_rfl)]
        clear hR k1 k0 kM
        refine .inl ⟨by kernel_rfl, ?_⟩
        have q := hf.cellSome (FB.out.cellSome c1.out (fun x => x)) (fun x => x)
        go_simp
        exact ⟨_, rfl, Fr.refl _ _, rfl, trivial⟩
       case a9_17 =>
        simp only [show u 11 = _ from hR 11 (by kernel_rfl), show u 12 = _ from hR 12 (by kernel_rfl), show u 16 = _ from hR 16 (by kernel_rfl)]
        clear hR k1 k0 kM
        refine .inl ⟨by kernel_rfl, ?_⟩
        go_simp
        refine (join_any _ ira rra ir rr gr rnm rv (NIR.out.fr0 (FB.out.trans hf)) (NRR.out.fr0 (FB.out.trans hf)) (MR.out.fr0 (FB.out.trans hf)) (by have h1 := HSZ.out; have h2 := HBY.out; simp only [Tr.size, Tr.bytes] at h1 h2 ⊢; omega) (by have h1 := HSZ.out; have h2 := HBY.out; simp only [Tr.size, Tr.bytes] at h1 h2 ⊢; omega)).mono ?_
        rintro e w4 ⟨a, rfl, hn, f4⟩
        exact ⟨_, rfl, f4.weak, ⟨a, rfl, hn⟩, trivial⟩
       case a9_18 =>
        obtain ⟨a6, e6, n6⟩ := hR 6 (by kernel_rfl)
        obtain ⟨a17, e17, n17⟩ := hR 17 (by kernel_rfl)
        simp only [e6, show u 7 = _ from hR 7 (by kernel_rfl), e17]
        clear hR k1 k0 kM
        refine .inl ⟨by kernel_rfl, ?_⟩
        go_simp
        refine (join_any _ a6 a17 (.node l nm v il) (.node ir rnm rv rr) gi inm iv n6 n17 (MI.out.fr0 (FB.out.trans hf)) (by have h1 := HSZ.out; have h2 := HBY.out; simp only [Tr.size, Tr.bytes] at h1 h2 ⊢; omega) (by have h1 := HSZ.out; have h2 := HBY.out; simp only [Tr.size, Tr.bytes] at h1 h2 ⊢; omega)).mono ?_
        rintro e w4 ⟨a, rfl, hn, f4⟩
        exact ⟨_, rfl, f4.weak, ⟨a, rfl, hn⟩, trivial⟩
       case a9_19 =>
        obtain ⟨a18, e18, n18⟩ := hR 18 (by kernel_rfl)
        simp only [e18]
        clear hR k1 k0 kM
        refine .inl ⟨by kernel_rfl, ?_⟩
        go_simp
        exact ⟨_, rfl, Fr.refl _ _, ⟨_, rfl, n18⟩, trivial⟩
       all_goals
        clear hR k1 k0 kM
        refine .inl ⟨by kernel_rfl, ?_⟩
        go_simp
        exact ⟨_, rfl, Fr.refl _ _, rfl, trivial⟩
      ·intro u w' hf hR kM
       obtain ⟨a19, e19, n19⟩ := hR 19 (by omega)
       clear hR kM
       simp only [List.take_succ_cons, List.take_zero, List.map_cons, List.map_nil, puts, Act.put, List.setIfInBounds_toArray, List.set_cons_zero, List.set_cons_succ, List.drop_succ_cons, List.drop_zero, Nat.reduceAdd, Nat.zero_add, e19]
       have HF := Lib.hid (FB.out.trans hf)
       have HN := Lib.hid n19
       clear hf n19 e19
       go_wp2
       go_ret
       exact ⟨_, _, rfl, HN.out, by simp [Tr.toL], HF.out⟩
   ·have tB : decide (d < (-1 : Int)) = false := decide_eq_false hB
    clear hA hB
    go_upto_region 7 with fail
    refine wp_region_st 16 Nothing [Is (.int .i64 d), Is (.bool false), Is (.bool false), Is (undef), Is (undef), Is (undef), Is (undef), Is (undef), Is (undef), Is (undef), Is (undef), Is (undef), Is (undef), Is (undef), Is (.bool false), Is (.bool false)] [] (fun _ => True) (fun _ _ => false) (by kernel_rfl) (by kernel_rfl) (by kernel_rfl) (by kernel_rfl) ⟨Is.stable _, Is.stable _, Is.stable _, Is.stable _, Is.stable _, Is.stable _, Is.stable _, Is.stable _, Is.stable _, Is.stable _, Is.stable _, Is.stable _, Is.stable _, Is.stable _, Is.stable _, Is.stable _, trivial⟩ trivial (fun _ _ _ _ h => h) trivial ?_ ?_
    ·refine ⟨?a10_0, ?a10_1, ?a10_2, ?a10_3, ?a10_4, ?a10_5, ?a10_6, ?a10_7, ?a10_8, ?a10_9, ?a10_10, ?a10_11, ?a10_12, ?a10_13, ?a10_14, ?a10_15, trivial⟩
     all_goals intro u w' d hf hR k1 k0 kM
     all_goals simp only [List.take_succ_cons, List.take_zero, List.map_cons, List.map_nil, puts, Act.put, List.setIfInBounds_toArray, List.set_cons_zero, List.set_cons_succ, Nat.reduceAdd, Nat.zero_add]
     case' a10_1 => simp only [show u 0 = _ from hR 0 (by kernel_rfl)]
     case' a10_2 => simp only [show u 1 = _ from hR 1 (by kernel_rfl)]
     case a10_3 => simp only [show u 2 = _ from hR 2 (by kernel_rfl)]; exact .inr ⟨by kernel_rfl, _, rfl, Fr.refl _ _, rfl, trivial⟩
     case a10_4 => simp only [show u 2 = _ from hR 2 (by kernel_rfl)]; exact .inr ⟨by kernel_rfl, _, rfl, Fr.refl _ _, rfl, trivial⟩
     case a10_5 => simp only [show u 2 = _ from hR 2 (by kernel_rfl)]; exact .inr ⟨by kernel_rfl, _, rfl, Fr.refl _ _, rfl, trivial⟩
     case a10_6 => simp only [show u 2 = _ from hR 2 (by kernel_rfl)]; exact .inr ⟨by kernel_rfl, _, rfl, Fr.refl _ _, rfl, trivial⟩
     case a10_7 => simp only [show u 2 = _ from hR 2 (by kernel_rfl)]; exact .inr ⟨by kernel_rfl, _, rfl, Fr.refl _ _, rfl, trivial⟩
     case a10_8 => simp only [show u 2 = _ from hR 2 (by kernel_rfl)]; exact .inr ⟨by kernel_rfl, _, rfl, Fr.refl _ _, rfl, trivial⟩
     case a10_9 => simp only [show u 2 = _ from hR 2 (by kernel_rfl)]; exact .inr ⟨by kernel_rfl, _, rfl, Fr.refl _ _, rfl, trivial⟩
     case a10_10 => simp only [show u 2 = _ from hR 2 (by kernel_rfl)]; exact .inr ⟨by kernel_rfl, _, rfl, Fr.refl _ _, rfl, trivial⟩
     case a10_11 => simp only [show u 2 = _ from hR 2 (by kernel_rfl)]; exact .inr ⟨by kernel_rfl, _, rfl, Fr.refl _ _, rfl, trivial⟩
     case a10_12 => simp only [show u 2 = _ from hR 2 (by kernel_rfl)]; exact .inr ⟨by kernel_rfl, _, rfl, Fr.refl _ _, rfl, trivial⟩
     case a10_13 => simp only [show u 2 = _ from hR 2 (by kernel_rfl)]; exact .inr ⟨by kernel_rfl, _, rfl, Fr.refl _ _, rfl, trivial⟩
     case' a10_14 => simp only [show u 2 = _ from hR 2 (by kernel_rfl), show u 13 = _ from hR 13 (by kernel_rfl)]
     case' a10_15 => simp only [show u 14 = _ from hR 14 (by kernel_rfl)]
     all_goals
      clear hR k1 k0 kM
      refine .inl ⟨by kernel_rfl, ?_⟩
      go_simp
      exact ⟨_, rfl, Fr.refl _ _, rfl, trivial⟩
    ·intro u w' hf hR kM
     have k15 : u 15 = _ := hR 15 (by omega)
     clear hR kM
     simp only [List.take_succ_cons, List.take_zero, List.map_cons, List.map_nil, puts, Act.put, List.setIfInBounds_toArray, List.set_cons_zero, List.set_cons_succ, List.drop_succ_cons, List.drop_zero, Nat.reduceAdd, Nat.zero_add, k15]
     have FB := Lib.hid (FA.out.trans hf)
     clear hf k15
     go_wp2_with fail
     refine (join_any _ la ra l r g nm v (NL.out.fr0 FB.out) (NR.out.fr0 FB.out) (MM.out.fr0 FB.out) (by have h1 := HSZ.out; omega) (by have h2 := HBY.out; omega)).mono ?_
     rintro e w4 ⟨a, rfl, hn, f4⟩
     have HN := Lib.hid hn
     have HF := Lib.hid (FB.out.trans f4)
     clear hn f4
     go_wp2
     go_ret
     exact ⟨_, _, rfl, HN.out, by simp [Tr.toL], HF.out⟩
end Go.Proofs.YtpnchdgplpdefaaGreatDoor
