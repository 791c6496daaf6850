/- State: the order of names is an order, plainly. -/
import Derived.Test.YtpnchdgplpdefaaGreatDoorEnSaU
namespace Go.Proofs.YtpnchdgplpdefaaGreatDoor
open Go.RowKit Go.Shelf
theorem cmpI_eq (a b : Int) : cmpI a b = cmpZ a b := rfl
set_option maxRecDepth 100000 in
theorem cmpStr_any (a b : ByteArray) (w : World) : Calls Tryz.prog 64 #[.string a, .string b] w (SameW w (.int .i64 (cmpB a b))) := by
 have C1 := Lib.hid (fun a w => isNaN_str a w)
 have HC := Lib.hid (cmpB_less a b)
 have key : ∀ r, cmpB a b = r → Calls Tryz.prog 64 #[.string a, .string b] w (SameW w (.int .i64 r)) → Calls Tryz.prog 64 #[.string a, .string b] w (SameW w (.int .i64 (cmpB a b))) := fun r h k => by rw [h]; exact k
 by_cases h1 : Op.bytesLess a.toList b.toList = true
 ·refine key (-1) (by rw [HC.out, if_pos h1]) ?_
  clear key HC
  go_enter Tryz.func64, Tryz.ntmps64
  go_wp2_with fail
  refine (C1.out a _).mono ?_
  rintro e w' ⟨rfl, rfl⟩
  go_wp2_with fail
  refine (C1.out b _).mono ?_
  rintro e w' ⟨rfl, rfl⟩
  go_wp2
  go_ret
  exact ⟨rfl, rfl⟩
 ·have h2 : Op.bytesLess a.toList b.toList = false := by simpa using h1
  by_cases e : a = b
  ·subst e
   refine key 0 (by rw [HC.out, if_neg h1, if_pos rfl]) ?_
   clear key HC
   have h3 : (a.toList == a.toList) = true := by simp
   go_enter Tryz.func64, Tryz.ntmps64
   go_wp2_with fail
   refine (C1.out a _).mono ?_
   rintro e w' ⟨rfl, rfl⟩
   go_wp2_with fail
   refine (C1.out a _).mono ?_
   rintro e w' ⟨rfl, rfl⟩
   go_wp2
   go_ret
   exact ⟨rfl, rfl⟩
  ·refine key 1 (by rw [HC.out, if_neg h1, if_neg e]) ?_
   have h3 : (a.toList == b.toList) = false := by rw [beq_eq_false_iff_ne]; exact fun h => e (toList_inj h)
   clear key HC e
   go_enter Tryz.func64, Tryz.ntmps64
   go_wp2_with fail
   refine (C1.out a _).mono ?_
   rintro e w' ⟨rfl, rfl⟩
   go_wp2_with fail
   refine (C1.out b _).mono ?_
   rintro e w' ⟨rfl, rfl⟩
   go_wp2
   go_ret
   exact ⟨rfl, rfl⟩
theorem isNaN_nm (a : ByteArray) (w : World) : Calls Tryz.prog 100 #[.string a] w (SameW w (.bool false)) := by
 go_enter Tryz.func100, Tryz.ntmps100
 go_wp2
 go_ret
 exact ⟨rfl, rfl⟩
set_option maxRecDepth 100000 in
theorem cmpNm_any (a b : ByteArray) (w : World) : Calls Tryz.prog 88 #[.string a, .string b] w (SameW w (.int .i64 (cmpB a b))) := by
 have C1 := Lib.hid (fun a w => isNaN_nm a w)
 have HC := Lib.hid (cmpB_less a b)
 have key : ∀ r, cmpB a b = r → Calls Tryz.prog 88 #[.string a, .string b] w (SameW w (.int .i64 r)) → Calls Tryz.prog 88 #[.string a, .string b] w (SameW w (.int .i64 (cmpB a b))) := fun r h k => by rw [h]; exact k
 by_cases h1 : Op.bytesLess a.toList b.toList = true
 ·refine key (-1) (by rw [HC.out, if_pos h1]) ?_
  clear key HC
  go_enter Tryz.func88, Tryz.ntmps88
  go_wp2_with fail
  refine (C1.out a _).mono ?_
  rintro e w' ⟨rfl, rfl⟩
  go_wp2_with fail
  refine (C1.out b _).mono ?_
  rintro e w' ⟨rfl, rfl⟩
  go_wp2
  go_ret
  exact ⟨rfl, rfl⟩
 ·have h2 : Op.bytesLess a.toList b.toList = false := by simpa using h1
  by_cases e : a = b
  ·subst e
   refine key 0 (by rw [HC.out, if_neg h1, if_pos rfl]) ?_
   clear key HC
   have h3 : (a.toList == a.toList) = true := by simp
   go_enter Tryz.func88, Tryz.ntmps88
   go_wp2_with fail
   refine (C1.out a _).mono ?_
   rintro e w' ⟨rfl, rfl⟩
   go_wp2_with fail
   refine (C1.out a _).mono ?_
   rintro e w' ⟨rfl, rfl⟩
   go_wp2
   go_ret
   exact ⟨rfl, rfl⟩
  ·refine key 1 (by rw [HC.out, if_neg h1, if_neg e]) ?_
   have h3 : (a.toList == b.toList) = false := by rw [beq_eq_false_iff_ne]; exact fun h => e (toList_inj h)
   clear key HC e
   go_enter Tryz.func88, Tryz.ntmps88
   go_wp2_with fail
   refine (C1.out a _).mono ?_
   rintro e w' ⟨rfl, rfl⟩
   go_wp2_with fail
   refine (C1.out b _).mono ?_
   rintro e w' ⟨rfl, rfl⟩
   go_wp2
   go_ret
   exact ⟨rfl, rfl⟩
theorem beq0 {x : Int} (h : x = 0) : (x == 0) = true := by subst h; rfl
theorem bne0 {x : Int} (h : x ≠ 0) : (x == 0) = false := by rw [beq_eq_false_iff_ne]; exact h
theorem cThen3_hit (x y z : Int) : ∀ (k : Nat) (v : Int), ([x, y, z])[k]? = some v → v ≠ 0 → (∀ (j : Nat) (u : Int), j < k → ([x, y, z])[j]? = some u → u = 0) → cThen x (cThen y z) = v
 | 0, v, hv, hn, h0 => by
  obtain rfl : x = v := by simpa using hv
  simp [cThen, hn]
 | 1, v, hv, hn, h0 => by
  obtain rfl : y = v := by simpa using hv
  have := h0 0 x (by omega) rfl
  simp [cThen, this, hn]
 | 2, v, hv, hn, h0 => by
  obtain rfl : z = v := by simpa using hv
  have h1 := h0 0 x (by omega) rfl
  have h2 := h0 1 y (by omega) rfl
  simp [cThen, h1, h2]
 | k + 3, v, hv, _, _ => by simp at hv
theorem cThen3_zero (x y z : Int) (h0 : ∀ (j : Nat) (u : Int), j < 3 → ([x, y, z])[j]? = some u → u = 0) : cThen x (cThen y z) = 0 := by
 have h1 := h0 0 x (by omega) rfl
 have h2 := h0 1 y (by omega) rfl
 have h3 := h0 2 z (by omega) rfl
 simp [cThen, h1, h2, h3]
theorem Rd.any {w : World} {S : Nat → Prop} {size n : Nat} {A : Option Addr} {xs : List Value} (h : Rd w S size A n xs) : Rd w (fun _ => True) size A n xs :=
 ⟨h.1, fun hn => by obtain ⟨ad, e, _, hc⟩ := h.2 hn; exact ⟨ad, e, trivial, hc⟩⟩
set_option maxRecDepth 100000 in
set_option maxHeartbeats 1000000 in
theorem cmpOr_any (x y z : Int) (g : Nat) (w : World) (h : Blk w g 3 #[.int .i64 x, .int .i64 y, .int .i64 z]) : Calls Tryz.prog 63 #[.slice (some ⟨g, 0, none⟩) 3 3] w (SameW w (.int .i64 (cThen x (cThen y z)))) := by
 have HB := Lib.hid h
 have HC : Hid (∀ k : Nat, k < 3 → ∃ v : Int, ([x, y, z])[k]? = some v ∧ w.cell? ⟨g, k, none⟩ = some (.int .i64 v)) := fun k hk => by
  match k, hk with
  | 0, _ => exact ⟨x, rfl, h.cell 0⟩
  | 1, _ => exact ⟨y, rfl, h.cell 1⟩
  | 2, _ => exact ⟨z, rfl, h.cell 2⟩
 clear h
 have HX : Hid (∀ (k : Nat) (v : Int), ([x, y, z])[k]? = some v → v ≠ 0 → (∀ (j : Nat) (u : Int), j < k → ([x, y, z])[j]? = some u → u = 0) → cThen x (cThen y z) = v) := fun k v => cThen3_hit x y z k v
 have HZ : Hid ((∀ (j : Nat) (u : Int), j < 3 → ([x, y, z])[j]? = some u → u = 0) → cThen x (cThen y z) = 0) := cThen3_zero x y z
 generalize cThen x (cThen y z) = R at *
 go_enter Tryz.func63, Tryz.ntmps63
 go_wp2
 go_loopw [8] (fun i wr => ∃ k : Nat, k ≤ 3 ∧ (∀ j u, j < k → ([x, y, z])[j]? = some u → u = 0) ∧ i = .int .i64 k ∧ w = wr) (fun i _ => 3 - (intOf i).toNat)
 case atStart => exact ⟨0, by omega, fun j u h => by omega, rfl, rfl⟩
 case round =>
  obtain ⟨k, hk, hz, rfl, rfl⟩ := hrel
  have HK := Lib.hid hz
  clear hz
  by_cases hlt : k < 3
  ·have hI : (k : Int) < 3 := by omega
   obtain ⟨v, hv, hc⟩ := HC.out k hlt
   have HV := Lib.hid hv
   clear hv
   by_cases hv0 : v = 0
   ·subst hv0
    go_wp2
    go_roundw
    case rel => exact ⟨k + 1, by omega, fun j u hj hu => by
      by_cases e : j = k
      ·subst e
       have := HV.out
       rw [hu] at this
       cases this
       rfl
      ·exact HK.out j u (by omega) hu, by go_num, trivial⟩
    case measure => simp [intOf]; omega
   ·have t1 := bne0 hv0
    obtain rfl : R = v := HX.out k v HV.out hv0 HK.out
    go_wp2
    go_ret
    exact ⟨rfl, rfl⟩
  ·obtain rfl : k = 3 := by omega
   obtain rfl : R = 0 := HZ.out HK.out
   go_wp2
   go_ret
   exact ⟨rfl, rfl⟩
theorem cmpL_pre {α : Type} {c : α → α → Int} (h : IsCmp c) : ∀ (p a b : List α), cmpL c (p ++ a) (p ++ b) = cmpL c a b
 | [], _, _ => rfl
 | x :: p, a, b => by
  rw [List.cons_append, List.cons_append, cmpL, h.refl, cThen, if_pos rfl]
  exact cmpL_pre h p a b
set_option maxRecDepth 100000 in
set_option maxHeartbeats 2000000 in
theorem slicesCmp_any (xs ys : List Int) (A B : Option Addr) (n m c d : Nat) (w : World) (h1 : Rd w (fun _ => True) 1 A n (xs.map (Value.int .i64))) (h2 : Rd w (fun _ => True) 1 B m (ys.map (Value.int .i64))) (hn : n ≤ 1099511627776) (_hm : m ≤ 1099511627776) :
  Calls Tryz.prog 86 #[.slice A n c, .slice B m d] w (SameW w (.int .i64 (cmpL cmpZ xs ys))) := by
 have l1 : xs.length = n := by simpa using h1.1
 have l2 : ys.length = m := by simpa using h2.1
 have HA : Hid (∀ k v, xs[k]? = some v → ∃ ad, A = some ad ∧ w.cell? (ad.add k) = some (.int .i64 v)) := fun k v hv => by
  have hk := (List.getElem?_eq_some_iff.1 hv).1
  obtain ⟨ad, e, _, hc⟩ := h1.2 (by omega)
  exact ⟨ad, e, hc k _ (by rw [List.getElem?_map, hv]; rfl)⟩
 have HB : Hid (∀ k v, ys[k]? = some v → ∃ ad, B = some ad ∧ w.cell? (ad.add k) = some (.int .i64 v)) := fun k v hv => by
  have hk := (List.getElem?_eq_some_iff.1 hv).1
  obtain ⟨ad, e, _, hc⟩ := h2.2 (by omega)
  exact ⟨ad, e, hc k _ (by rw [List.getElem?_map, hv]; rfl)⟩
 have L1 := Lib.hid l1
 have L2 := Lib.hid l2
 have CI := Lib.hid (fun a b w => cmpInt_any a b w)
 obtain ⟨R, hR⟩ : ∃ R, R = cmpL cmpZ xs ys := ⟨_, rfl⟩
 rw [← hR]
 have HR := Lib.hid hR
 clear h1 h2 l1 l2 hR
 go_enter Tryz.func86, Tryz.ntmps86
 go_wp2
 go_loopw [11] (fun i wr => ∃ k : Nat, k ≤ n ∧ (∃ p a b, p.length = k ∧ xs = p ++ a ∧ ys = p ++ b) ∧ i = .int .i64 k ∧ w = wr) (fun i _ => n - (intOf i).toNat)
 case atStart => exact ⟨0, by omega, ⟨[], xs, ys, rfl, rfl, rfl⟩, rfl, rfl⟩
 case round =>
  obtain ⟨k, hk, ⟨p, a, b, hp, hx, hy⟩, rfl, rfl⟩ := hrel
  have HP := Lib.hid hp
  have HX := Lib.hid hx
  have HY := Lib.hid hy
  clear hp hx hy
  by_cases hlt : k < n
  ·have hI : (k : Int) < (n : Int) := by omega
   have ha : ∃ v a', a = v :: a' := by
    cases a with
    | nil =>
     have h := L1.out
     rw [HX.out, List.append_nil, HP.out] at h
     omega
    | cons v a' => exact ⟨v, a', rfl⟩
   obtain ⟨v, a', rfl⟩ := ha
   obtain ⟨ad, rfl, hca⟩ := HA.out k v (by rw [HX.out, List.getElem?_append_right (by rw [HP.out]; omega), HP.out, Nat.sub_self]; rfl)
   by_cases hlm : k < m
   ·have hJ : (k : Int) < (m : Int) := by omega
    have hJ2 : decide ((m : Int) ≤ (k : Int)) = false := decide_eq_false (by omega)
    have hb : ∃ u b', b = u :: b' := by
     cases b with
     | nil =>
      have h := L2.out
      rw [HY.out, List.append_nil, HP.out] at h
      omega
     | cons u b' => exact ⟨u, b', rfl⟩
    obtain ⟨u, b', rfl⟩ := hb
    obtain ⟨bd, rfl, hcb⟩ := HB.out k u (by rw [HY.out, List.getElem?_append_right (by rw [HP.out]; omega), HP.out, Nat.sub_self]; rfl)
    go_wp2_with fail
    refine (CI.out v u _).mono ?_
    rintro e w' ⟨rfl, rfl⟩
    have HC := Lib.hid (cmpI_eq v u)
    generalize cmpI v u = cc at *
    by_cases hc0 : cc = 0
    ·subst hc0
     have hvu : Hid (v = u) := cmpZ_is.eq v u HC.out.symm
     go_wp2
     go_roundw
     case rel => exact ⟨k + 1, by omega, ⟨p ++ [v], a', b', by rw [List.length_append, HP.out]; rfl, by rw [HX.out]; simp, by rw [HY.out, hvu.out]; simp⟩, by go_num, trivial⟩
     case measure => simp [intOf]; omega
    ·have t1 := bne0 hc0
     obtain rfl : R = cc := by
      rw [HR.out, HX.out, HY.out, cmpL_pre cmpZ_is, cmpL, ← HC.out, cThen, if_neg hc0]
     go_wp2
     go_ret
     exact ⟨rfl, rfl⟩
   ·have hJ2 : decide ((m : Int) ≤ (k : Int)) = true := decide_eq_true (by omega)
    have hJ3 : ¬ (k : Int) < (m : Int) := by omega
    have hb : b = [] := by
     have h := congrArg List.length HY.out
     rw [L2.out, List.length_append, HP.out] at h
     exact List.length_eq_zero_iff.1 (by omega)
    subst hb
    obtain rfl : R = 1 := by rw [HR.out, HX.out, HY.out, cmpL_pre cmpZ_is]; rfl
    go_wp2
    go_ret
    exact ⟨rfl, rfl⟩
  ·obtain rfl : k = n := by omega
   have ha : a = [] := by
    have h := congrArg List.length HX.out
    rw [L1.out, List.length_append, HP.out] at h
    exact List.length_eq_zero_iff.1 (by omega)
   subst ha
   have hRb : Hid (R = cmpL cmpZ [] b) := by simp only [Hid]; rw [HR.out, HX.out, HY.out, cmpL_pre cmpZ_is]
   have hmb : Hid (m = k + b.length) := by
    have h := congrArg List.length HY.out
    rw [L2.out, List.length_append, HP.out] at h
    exact h
   by_cases hlm : k < m
   ·have hJ : (k : Int) < (m : Int) := by omega
    obtain rfl : R = -1 := by
     rw [hRb.out]
     cases b with
     | nil => have := hmb.out; simp at this; omega
     | cons u b' => rfl
    go_wp2
    go_ret
    exact ⟨rfl, rfl⟩
   ·have hJ : ¬ (k : Int) < (m : Int) := by omega
    obtain rfl : R = 0 := by
     rw [hRb.out]
     cases b with
     | nil => rfl
     | cons u b' => have := hmb.out; simp at this; omega
    go_wp2
    go_ret
    exact ⟨rfl, rfl⟩
def cmpO (a b : ByteArray) : Int := if a = b then 0 else if validO a = true then (if validO b = true then cmpL cmpZ (ordsO a) (ordsO b) else -1) else if validO b = true then 1 else cmpB a b
theorem ordsO_le (s : ByteArray) : (ordsO s).length ≤ 9 := by rw [ordsO, List.length_map]; exact partsL_le s
set_option maxRecDepth 100000 in
set_option maxHeartbeats 2000000 in
theorem lineageCompare_any (a b : ByteArray) (w : World) (ha : a.size ≤ 1099511627776) (hb : b.size ≤ 1099511627776) : Calls Tryz.prog 62 #[.string a, .string b] w (Same' w (.int .i64 (cmpO a b))) := by
 by_cases e : a = b
 ·subst e
  rw [show cmpO a a = 0 by simp [cmpO]]
  refine (lineageCompare_same a w).mono ?_
  rintro e w' ⟨rfl, rfl⟩
  exact ⟨rfl, Fr.refl _ _⟩
 ·have te : (a.toList == b.toList) = false := by rw [beq_eq_false_iff_ne]; exact fun h => e (toList_inj h)
  have CVa := Lib.hid (fun w => Valid_any a w ha)
  have CVb := Lib.hid (fun w => Valid_any b w hb)
  have CN := Lib.hid (fun w => cmpNm_any a b w)
  have HO : Hid (cmpO a b = if validO a = true then (if validO b = true then cmpL cmpZ (ordsO a) (ordsO b) else -1) else if validO b = true then 1 else cmpB a b) := by simp only [Hid, cmpO]; rw [if_neg e]
  have COa := Lib.hid (fun w h => Ordinals_any a w ha h)
  have COb := Lib.hid (fun w h => Ordinals_any b w hb h)
  have HLa := Lib.hid (ordsO_le a)
  have HLb := Lib.hid (ordsO_le b)
  generalize cmpO a b = R at *
  generalize validO a = va at *
  generalize validO b = vb at *
  clear e
  go_enter Tryz.func62, Tryz.ntmps62
  go_wp2_with fail
  refine (CVa.out _).mono ?_
  rintro e w1 ⟨rfl, f1⟩
  have F1 := Lib.hid f1
  clear f1
  go_wp2_with fail
  refine (CVb.out _).mono ?_
  rintro e w2 ⟨rfl, f2⟩
  have F2 := Lib.hid (F1.out.trans f2)
  clear f2 F1
  cases va
  ·cases vb
   ·go_wp2_with fail
    refine (CN.out _).mono ?_
    rintro e w' ⟨rfl, rfl⟩
    go_wp2
    go_ret
    rw [HO.out]
    exact ⟨rfl, F2.out⟩
   ·go_wp2
    go_ret
    rw [HO.out]
    exact ⟨rfl, F2.out⟩
  ·cases vb
   ·go_wp2
    go_ret
    rw [HO.out]
    exact ⟨rfl, F2.out⟩
   ·go_wp2_with fail
    refine (COa.out _ (by first | rfl | trivial)).mono ?_
    rintro e w3 ⟨v, rfl, hg⟩
    obtain ⟨A1, m1, c1, rfl, H1, _⟩ := own_slice hg.own
    obtain rfl := H1.out
    have F3 := Lib.hid (F2.out.trans hg.fr0)
    have R3 := Lib.hid (Rd.of_own hg.own)
    clear hg
    go_wp2_with fail
    refine (COb.out _ (by first | rfl | trivial)).mono ?_
    rintro e w4 ⟨v, rfl, hg⟩
    obtain ⟨A2, m2, c2, rfl, H2, _⟩ := own_slice hg.own
    obtain rfl := H2.out
    have F4 := Lib.hid (F3.out.trans hg.fr0)
    have R4 := Lib.hid (Rd.of_own hg.own)
    have R34 := Lib.hid (R3.out.fr0 hg.fr0)
    clear hg
    go_wp2_with fail
    refine (slicesCmp_any (ordsO a) (ordsO b) A1 A2 _ _ c1 c2 w4 R34.out.any R4.out.any (by have := HLa.out; omega) (by have := HLb.out; omega)).mono ?_
    rintro e w' ⟨rfl, rfl⟩
    go_wp2
    go_ret
    rw [HO.out]
    exact ⟨rfl, F4.out⟩
def cmpN (n m : NameV) : Int := cThen (cmpZ n.kind m.kind) (cThen (cmpO n.owner m.owner) (cThen (cmpZ n.number m.number) (cThen (cmpZ n.index m.index) (cmpB n.text m.text))))
set_option maxRecDepth 100000 in
set_option maxHeartbeats 4000000 in
theorem objCompare_any (n m : NameV) (w : World) (hn : n.owner.size ≤ 1099511627776) (hm : m.owner.size ≤ 1099511627776) : Calls Tryz.prog 32 #[.agg n.cells.toArray, .agg m.cells.toArray] w (Same' w (.int .i64 (cmpN n m))) := by
 have C0 : Hid (∀ w, Calls Tryz.prog 61 #[.int .i64 n.kind, .int .i64 m.kind] w (SameW w (.int .i64 (cmpZ n.kind m.kind)))) := fun w => cmpInt_any _ _ w
 have C1 := Lib.hid (fun w => lineageCompare_any n.owner m.owner w hn hm)
 have C2 : Hid (∀ w, Calls Tryz.prog 61 #[.int .i64 n.number, .int .i64 m.number] w (SameW w (.int .i64 (cmpZ n.number m.number)))) := fun w => cmpInt_any _ _ w
 have C3 : Hid (∀ w, Calls Tryz.prog 61 #[.int .i64 n.index, .int .i64 m.index] w (SameW w (.int .i64 (cmpZ n.index m.index)))) := fun w => cmpInt_any _ _ w
 have C4 := Lib.hid (fun w => cmpStr_any n.text m.text w)
 have HN : Hid (cmpN n m = cThen (cmpZ n.kind m.kind) (cThen (cmpO n.owner m.owner) (cThen (cmpZ n.number m.number) (cThen (cmpZ n.index m.index) (cmpB n.text m.text))))) := rfl
 generalize cmpN n m = R at *
 generalize cmpZ n.kind m.kind = z0 at *
 generalize cmpO n.owner m.owner = z1 at *
 generalize cmpZ n.number m.number = z2 at *
 generalize cmpZ n.index m.index = z3 at *
 generalize cmpB n.text m.text = z4 at *
 clear hn hm
 go_enter Tryz.func32, Tryz.ntmps32
 go_wp2_with (refine wpList_boxBlk rfl 44 (.tmp 0) rfl n.cells.toArray rfl ?_)
 intro w1 n1
 have N1 := Lib.hid n1
 clear n1
 generalize hga : w.heap.size = ga at *
 have HA0 : Hid (Blk w1 ga 44 n.cells.toArray) := by have h := N1.out.blk; rw [hga] at h; exact h
 clear hga
 go_wp2_with (refine wpList_boxBlk rfl 44 (.tmp 1) rfl m.cells.toArray rfl ?_)
 intro w2 n2
 have N2 := Lib.hid n2
 clear n2
 generalize hgb : w1.heap.size = gb at *
 have Hgb : Hid (Blk w2 gb 44 m.cells.toArray) := by have h := N2.out.blk; rw [hgb] at h; exact h
 clear hgb
 have Hga := Lib.hid (HA0.out.fr N2.out.fr (fun x => x))
 have F2 := Lib.hid (N1.out.fr.trans N2.out.fr)
 have ca0 : w2.cell? ⟨ga, 0, none⟩ = some (.int .i64 n.kind) := Hga.out.cell 0
 have cb0 : w2.cell? ⟨gb, 0, none⟩ = some (.int .i64 m.kind) := Hgb.out.cell 0
 have ca1 : w2.cell? ⟨ga, 1, none⟩ = some (.string n.owner) := Hga.out.cell 1
 have cb1 : w2.cell? ⟨gb, 1, none⟩ = some (.string m.owner) := Hgb.out.cell 1
 clear N1 N2 HA0
 go_wp2_with fail
 refine (C0.out _).mono ?_
 rintro e w' ⟨rfl, rfl⟩
 by_cases h0 : z0 = 0
 ·have HK0 := Lib.hid h0
  have t0 := beq0 h0
  clear h0
  go_wp2_with fail
  refine (C1.out _).mono ?_
  rintro e w3 ⟨rfl, f3⟩
  have F4 := Lib.hid f3
  clear f3 ca0 cb0 ca1 cb1
  by_cases h1 : z1 = 0
  ·have HK1 := Lib.hid h1
   have t1 := beq0 h1
   clear h1
   go_upto_region 7 with fail
   refine wp_region_st 15 Nothing [Is (.pointer (some ⟨ga, 2, none⟩)), Is (.int .i64 n.number), Is (.pointer (some ⟨gb, 2, none⟩)), Is (.int .i64 m.number), Is (.int .i64 z2), Is (.pointer (some ⟨ga, 3, none⟩)), Is (.int .i64 n.index), Is (.pointer (some ⟨gb, 3, none⟩)), Is (.int .i64 m.index), Is (.int .i64 z3), Is (.pointer (some ⟨ga, 4, none⟩)), Is (.string n.text), Is (.pointer (some ⟨gb, 4, none⟩)), Is (.string m.text), Is (.int .i64 z4)] [] (fun _ => True) (fun _ _ => false) (by kernel_rfl) (by kernel_rfl) (by kernel_rfl) (by kernel_rfl) ⟨Is.stable _, Is.stable _, Is.stable _, Is.stable _, Is.stable _, Is.stable _, Is.stable _, Is.stable _, Is.stable _, Is.stable _, Is.stable _, Is.stable _, Is.stable _, Is.stable _, Is.stable _, trivial⟩ trivial (fun _ _ _ _ h => h) trivial ?_ ?_
   ·refine ⟨fun u w' d hf hR k1 k0 kM => ?_, fun u w' d hf hR k1 k0 kM => ?_, fun u w' d hf hR k1 k0 kM => ?_, fun u w' d hf hR k1 k0 kM => ?_, fun u w' d hf hR k1 k0 kM => ?_, fun u w' d hf hR k1 k0 kM => ?_, fun u w' d hf hR k1 k0 kM => ?_, fun u w' d hf hR k1 k0 kM => ?_, fun u w' d hf hR k1 k0 kM => ?_, fun u w' d hf hR k1 k0 kM => ?_, fun u w' d hf hR k1 k0 kM => ?_, fun u w' d hf hR k1 k0 kM => ?_, fun u w' d hf hR k1 k0 kM => ?_, fun u w' d hf hR k1 k0 kM => ?_, fun u w' d hf hR k1 k0 kM => ?_, trivial⟩
    all_goals simp only [List.take_succ_cons, List.take_zero, List.map_cons, List.map_nil, puts, Act.put, List.setIfInBounds_toArray, List.set_cons_zero, List.set_cons_succ, Nat.reduceAdd, Nat.zero_add]
    ·clear hR k1 k0 kM
     refine .inl ⟨by kernel_rfl, ?_⟩
     go_simp
     exact ⟨_, rfl, Fr.refl _ _, rfl, trivial⟩
    ·have h0 : u 0 = _ := hR 0 (by kernel_rfl)
     clear hR k1 k0 kM
     simp only [h0]
     refine .inl ⟨by kernel_rfl, ?_⟩
     have hc : w'.cell? ⟨ga, 2, none⟩ = some (.int .i64 n.number) := (Hga.out.fr (F4.out.trans hf) (fun x => x)).cell 2
     go_simp
     exact ⟨_, rfl, Fr.refl _ _, rfl, trivial⟩
    ·clear hR k1 k0 kM
     refine .inl ⟨by kernel_rfl, ?_⟩
     go_simp
     exact ⟨_, rfl, Fr.refl _ _, rfl, trivial⟩
    ·have h2 : u 2 = _ := hR 2 (by kernel_rfl)
     clear hR k1 k0 kM
     simp only [h2]
     refine .inl ⟨by kernel_rfl, ?_⟩
     have hc : w'.cell? ⟨gb, 2, none⟩ = some (.int .i64 m.number) := (Hgb.out.fr (F4.out.trans hf) (fun x => x)).cell 2
     go_simp
     exact ⟨_, rfl, Fr.refl _ _, rfl, trivial⟩
    ·have h1 : u 1 = _ := hR 1 (by kernel_rfl)
     have h3 : u 3 = _ := hR 3 (by kernel_rfl)
     clear hR k1 k0 kM
     simp only [h1, h3]
     refine .inl ⟨by kernel_rfl, ?_⟩
     go_simp
     refine (C2.out _).mono ?_
     rintro e w4 ⟨rfl, rfl⟩
     exact ⟨_, rfl, Fr.refl _ _, rfl, trivial⟩
    ·clear hR k1 k0 kM
     refine .inl ⟨by kernel_rfl, ?_⟩
     go_simp
     exact ⟨_, rfl, Fr.refl _ _, rfl, trivial⟩
    ·have h5 : u 5 = _ := hR 5 (by kernel_rfl)
     clear hR k1 k0 kM
     simp only [h5]
     refine .inl ⟨by kernel_rfl, ?_⟩
     have hc : w'.cell? ⟨ga, 3, none⟩ = some (.int .i64 n.index) := (Hga.out.fr (F4.out.trans hf) (fun x => x)).cell 3
     go_simp
     exact ⟨_, rfl, Fr.refl _ _, rfl, trivial⟩
    ·clear hR k1 k0 kM
     refine .inl ⟨by kernel_rfl, ?_⟩
     go_simp
     exact ⟨_, rfl, Fr.refl _ _, rfl, trivial⟩
    ·have h7 : u 7 = _ := hR 7 (by kernel_rfl)
     clear hR k1 k0 kM
     simp only [h7]
     refine .inl ⟨by kernel_rfl, ?_⟩
     have hc : w'.cell? ⟨gb, 3, none⟩ = some (.int .i64 m.index) := (Hgb.out.fr (F4.out.trans hf) (fun x => x)).cell 3
     go_simp
     exact ⟨_, rfl, Fr.refl _ _, rfl, trivial⟩
    ·have h6 : u 6 = _ := hR 6 (by kernel_rfl)
     have h8 : u 8 = _ := hR 8 (by kernel_rfl)
     clear hR k1 k0 kM
     simp only [h6, h8]
     refine .inl ⟨by kernel_rfl, ?_⟩
     go_simp
     refine (C3.out _).mono ?_
     rintro e w4 ⟨rfl, rfl⟩
     exact ⟨_, rfl, Fr.refl _ _, rfl, trivial⟩
    ·clear hR k1 k0 kM
     refine .inl ⟨by kernel_rfl, ?_⟩
     go_simp
     exact ⟨_, rfl, Fr.refl _ _, rfl, trivial⟩
    ·have h10 : u 10 = _ := hR 10 (by kernel_rfl)
     clear hR k1 k0 kM
     simp only [h10]
     refine .inl ⟨by kernel_rfl, ?_⟩
     have hc : w'.cell? ⟨ga, 4, none⟩ = some (.string n.text) := (Hga.out.fr (F4.out.trans hf) (fun x => x)).cell 4
     go_simp
     exact ⟨_, rfl, Fr.refl _ _, rfl, trivial⟩
    ·clear hR k1 k0 kM
     refine .inl ⟨by kernel_rfl, ?_⟩
     go_simp
     exact ⟨_, rfl, Fr.refl _ _, rfl, trivial⟩
    ·have h12 : u 12 = _ := hR 12 (by kernel_rfl)
     clear hR k1 k0 kM
     simp only [h12]
     refine .inl ⟨by kernel_rfl, ?_⟩
     have hc : w'.cell? ⟨gb, 4, none⟩ = some (.string m.text) := (Hgb.out.fr (F4.out.trans hf) (fun x => x)).cell 4
     go_simp
     exact ⟨_, rfl, Fr.refl _ _, rfl, trivial⟩
    ·have h11 : u 11 = _ := hR 11 (by kernel_rfl)
     have h13 : u 13 = _ := hR 13 (by kernel_rfl)
     clear hR k1 k0 kM
     simp only [h11, h13]
     refine .inl ⟨by kernel_rfl, ?_⟩
     go_simp
     refine (C4.out _).mono ?_
     rintro e w4 ⟨rfl, rfl⟩
     exact ⟨_, rfl, Fr.refl _ _, rfl, trivial⟩
   ·intro u w' hf hR kM
    have k4 : u 4 = _ := hR 4 (by omega)
    have k9 : u 9 = _ := hR 9 (by omega)
    have k14 : u 14 = _ := hR 14 (by omega)
    clear hR kM
    simp only [List.take_succ_cons, List.take_zero, List.map_cons, List.map_nil, puts, Act.put, List.setIfInBounds_toArray, List.set_cons_zero, List.set_cons_succ, List.drop_succ_cons, List.drop_zero, Nat.reduceAdd, Nat.zero_add, k4, k9, k14]
    have HF := Lib.hid (F2.out.trans (F4.out.trans hf))
    clear hf k4 k9 k14
    obtain ⟨i0, hi0, hz0', hz1, hz2⟩ := info_parts infoIntP
    have gc1 : Hid (¬ 3 * i0.size > 2 ^ 24) := by simp only [Hid]; rw [hz1]; omega
    have gc2 : Hid (¬ 3 * i0.size = 0) := by simp only [Hid]; rw [hz1]; omega
    go_wp2_with fail
    have BI : Hid (Blk (w'.alloc (.cells #[.int .i64 z2, .int .i64 z3, .int .i64 z4] 3)) w'.heap.size 3 #[.int .i64 z2, .int .i64 z3, .int .i64 z4]) := Blk.new _ _ _
    have FI := Lib.hid (HF.out.trans ((Fr.refl Nothing w').alloc (.cells #[.int .i64 z2, .int .i64 z3, .int .i64 z4] 3)))
    refine (cmpOr_any z2 z3 z4 _ _ BI.out).mono ?_
    rintro e w5 ⟨rfl, rfl⟩
    go_wp2
    go_ret
    rw [HN.out, HK0.out, HK1.out]
    exact ⟨rfl, FI.out⟩
  ·have t1 := bne0 h1
   have HK1 := Lib.hid h1
   clear h1
   go_wp2
   go_ret
   rw [HN.out, HK0.out, cThen, if_pos rfl, cThen, if_neg HK1.out]
   exact ⟨rfl, F2.out.trans F4.out⟩
 ·have t0 := bne0 h0
  have HK0 := Lib.hid h0
  clear h0
  go_wp2
  go_ret
  rw [HN.out, cThen, if_neg HK0.out]
  exact ⟨rfl, F2.out⟩
end Go.Proofs.YtpnchdgplpdefaaGreatDoor
namespace Go.Proofs.YtpnchdgplpdefaaGreatDoor
open Go.RowKit
theorem snoc_cases {α : Type} (l : List α) (h : l ≠ []) : ∃ i x, l = i ++ [x] := by
 rcases List.eq_nil_or_concat l with rfl | ⟨i, b, rfl⟩
 ·exact absurd rfl h
 ·exact ⟨i, b, by simp⟩
def GoodD (ds : List UInt8) : Prop := (∀ b ∈ ds, isD b = true) ∧ ds ≠ [] ∧ ds[0]? ≠ some 48
theorem isD_iff {b : UInt8} (h : isD b = true) : 48 ≤ b.toNat ∧ b.toNat ≤ 57 := by simpa [isD] using h
theorem GoodD.init {i : List UInt8} {x : UInt8} (h : GoodD (i ++ [x])) (hi : i ≠ []) : GoodD i := by
 refine ⟨fun b hb => h.1 b (by simp [hb]), hi, fun e => h.2.2 ?_⟩
 rw [List.getElem?_append_left (List.length_pos_iff.2 hi)]
 exact e
theorem numD_pos : ∀ (n : Nat) (ds : List UInt8), ds.length = n → GoodD ds → 1 ≤ numD ds := by
 intro n
 induction n with
 | zero => intro ds h hg; exact absurd (List.length_eq_zero_iff.1 h) hg.2.1
 | succ n ih =>
  intro ds h hg
  obtain ⟨i, x, rfl⟩ := snoc_cases ds hg.2.1
  rw [numD_snoc]
  by_cases hi : i = []
  ·subst hi
   have h1 := isD_iff (hg.1 x (by simp))
   have h2 : x ≠ 48 := fun e => hg.2.2 (by rw [e]; rfl)
   have h3 : x.toNat ≠ 48 := fun e => h2 (UInt8.toNat_inj.1 e)
   omega
  ·have := ih i (by simpa using h) (hg.init hi)
   omega
theorem numD_inj : ∀ (n : Nat) (ds es : List UInt8), ds.length = n → GoodD ds → GoodD es → numD ds = numD es → ds = es := by
 intro n
 induction n with
 | zero => intro ds es h hg; exact absurd (List.length_eq_zero_iff.1 h) hg.2.1
 | succ n ih =>
  intro ds es h hd he e
  obtain ⟨i, x, rfl⟩ := snoc_cases ds hd.2.1
  obtain ⟨j, y, rfl⟩ := snoc_cases es he.2.1
  rw [numD_snoc, numD_snoc] at e
  have hx := isD_iff (hd.1 x (by simp))
  have hy := isD_iff (he.1 y (by simp))
  have hxy : x = y := UInt8.toNat_inj.1 (by omega)
  have hij : numD i = numD j := by omega
  subst hxy
  by_cases hi : i = []
  ·by_cases hj : j = []
   ·rw [hi, hj]
   ·have := numD_pos _ j rfl (he.init hj)
    rw [hi] at hij
    simp [numD] at hij
    simp [numD] at this
    omega
  ·by_cases hj : j = []
   ·have := numD_pos _ i rfl (hd.init hi)
    rw [hj] at hij
    simp [numD] at hij
    simp [numD] at this
    omega
   ·rw [ih i j (by simpa using h) (hd.init hi) (he.init hj) hij]
theorem firstP_ok {c a : Nat} {l : List UInt8} (h : (firstP c a l).1.e = 0) : GoodD (runD 7 l) ∧ (firstP c a l).1.ord = numD (runD 7 l) := by
 simp only [firstP] at h ⊢
 split at h
 ·simp at h
 ·rename_i h1
  rw [if_neg h1]
  split at h
  ·simp at h
  ·rename_i h2
   rw [if_neg h2]
   split at h
   ·simp at h
   ·rename_i h3
    rw [if_neg h3]
    split at h
    ·simp at h
    ·rename_i h4
     rw [if_neg h4]
     split at h
     ·simp at h
     ·rename_i h5
      rw [if_neg h5]
      refine ⟨⟨runD_all 7 l, h3, fun e => h4 ?_⟩, rfl⟩
      have hk : 0 < (runD 7 l).length := List.length_pos_iff.2 h3
      rw [runD_take, List.getElem?_take_of_lt hk] at e
      exact e
theorem partsR_ne (n a : Nat) (l : List UInt8) : partsR n a l ≠ [] := by
 cases n with
 | zero => simp [partsR]
 | succ n =>
  rw [partsR]
  simp only
  split
  ·simp
  ·split
   ·simp
   ·split <;> simp
theorem partsR_ok {n a : Nat} {l : List UInt8} (h : ∀ p ∈ partsR (n + 1) a l, p.e = 0) :
  GoodD (runD 7 l) ∧ ((l = runD 7 l ∧ (partsR (n + 1) a l).map (·.ord) = [numD (runD 7 l)]) ∨
   ∃ r, l = runD 7 l ++ 46 :: r ∧ (partsR (n + 1) a l).map (·.ord) = numD (runD 7 l) :: (partsR n (a + (runD 7 l).length + 1) r).map (·.ord) ∧ ∀ p ∈ partsR n (a + (runD 7 l).length + 1) r, p.e = 0) := by
 rw [partsR] at h ⊢
 simp only at h ⊢
 by_cases he : (firstP (7 - n) a l).1.e = 0
 ·rw [if_neg (by simp [he])] at h ⊢
  obtain ⟨hg, ho⟩ := firstP_ok he
  refine ⟨hg, ?_⟩
  have hk := runD_length 7 l
  have ht := runD_take 7 l
  by_cases h1 : l.length ≤ (runD 7 l).length
  ·rw [if_pos h1]
   left
   refine ⟨?_, by simp [ho]⟩
   rw [List.take_of_length_le h1] at ht
   exact ht.symm
  ·rw [if_neg h1] at h ⊢
   by_cases h2 : l[(runD 7 l).length]? = some 46
   ·rw [if_neg (by simp [h2])] at h ⊢
    right
    refine ⟨l.drop ((runD 7 l).length + 1), ?_, by simp [ho], fun p hp => h p (by simp [hp])⟩
    obtain ⟨hlt, hv⟩ := List.getElem?_eq_some_iff.1 h2
    conv => lhs; rw [← List.take_append_drop (runD 7 l).length l, ← ht, List.drop_eq_getElem_cons hlt, hv]
   ·rw [if_pos h2] at h
    have := h ⟨0, a + (runD 7 l).length, 6⟩ (by simp)
    simp at this
 ·rw [if_pos he] at h
  exact absurd (h _ (by simp)) he
theorem partsR_inj : ∀ (n a b : Nat) (l m : List UInt8), (∀ p ∈ partsR n a l, p.e = 0) → (∀ p ∈ partsR n b m, p.e = 0) → (partsR n a l).map (·.ord) = (partsR n b m).map (·.ord) → l = m
 | 0, a, b, l, m, h, _, _ => by
  have := h ⟨0, a, 9⟩ (by simp [partsR])
  simp at this
 | n + 1, a, b, l, m, h, k, e => by
  obtain ⟨g1, c1⟩ := partsR_ok h
  obtain ⟨g2, c2⟩ := partsR_ok k
  rcases c1 with ⟨e1, o1⟩ | ⟨r, e1, o1, q1⟩
  ·rcases c2 with ⟨e2, o2⟩ | ⟨s, e2, o2, q2⟩
   ·rw [o1, o2] at e
    rw [e1, e2]
    exact numD_inj _ _ _ rfl g1 g2 (by simpa using e)
   ·rw [o1, o2] at e
    simp only [List.cons.injEq] at e
    exact absurd (List.map_eq_nil_iff.1 e.2.symm) (partsR_ne _ _ _)
  ·rcases c2 with ⟨e2, o2⟩ | ⟨s, e2, o2, q2⟩
   ·rw [o1, o2] at e
    simp only [List.cons.injEq] at e
    exact absurd (List.map_eq_nil_iff.1 e.2) (partsR_ne _ _ _)
   ·rw [o1, o2] at e
    simp only [List.cons.injEq] at e
    rw [e1, e2, numD_inj _ _ _ rfl g1 g2 e.1, partsR_inj n _ _ r s q1 q2 e.2]
theorem ordsO_inj {a b : ByteArray} (ha : validO a = true) (hb : validO b = true) (h : ordsO a = ordsO b) : a = b := by
 apply toList_inj
 unfold validO at ha hb
 rw [List.all_eq_true] at ha hb
 simp only [beq_iff_eq] at ha hb
 unfold ordsO at h
 have hm : (partsL a).map (·.ord) = (partsL b).map (·.ord) := by
  have h' := congrArg (List.map Int.toNat) h
  simpa [List.map_map, Function.comp_def] using h'
 unfold partsL at ha hb hm
 by_cases za : a.size = 0
 ·by_cases zb : b.size = 0
  ·rw [show a.toList = [] from List.length_eq_zero_iff.1 (by rw [toList_size]; exact za), show b.toList = [] from List.length_eq_zero_iff.1 (by rw [toList_size]; exact zb)]
  ·rw [if_pos za, if_neg zb] at hm
   exact absurd (List.map_eq_nil_iff.1 hm.symm) (partsR_ne _ _ _)
 ·by_cases zb : b.size = 0
  ·rw [if_neg za, if_pos zb] at hm
   exact absurd (List.map_eq_nil_iff.1 hm) (partsR_ne _ _ _)
  ·rw [if_neg za] at ha hm
   rw [if_neg zb] at hb hm
   exact partsR_inj 8 0 0 _ _ ha hb hm
def keyO (a : ByteArray) : (Int × List Int) × ByteArray := if validO a = true then ((0, ordsO a), ByteArray.empty) else ((1, []), a)
theorem keyO_inj (a b : ByteArray) (h : keyO a = keyO b) : a = b := by
 unfold keyO at h
 split at h
 ·rename_i ha
  split at h
  ·rename_i hb
   simp only [Prod.mk.injEq, true_and, and_true] at h
   exact ordsO_inj ha hb h
  ·simp at h
 ·split at h
  ·simp at h
  ·simpa using h
def cmpK (x y : (Int × List Int) × ByteArray) : Int := cThen (cThen (cmpZ x.1.1 y.1.1) (cmpL cmpZ x.1.2 y.1.2)) (cmpB x.2 y.2)
theorem cmpK_is : IsCmp cmpK := ((cmpZ_is.lex (cmpL_is cmpZ_is)).lex cmpB_is)
theorem cmpO_key (a b : ByteArray) : cmpO a b = cmpK (keyO a) (keyO b) := by
 unfold cmpO
 by_cases e : a = b
 ·subst e
  rw [if_pos rfl, cmpK_is.refl]
 ·rw [if_neg e]
  unfold keyO cmpK
  by_cases ha : validO a = true
  ·rw [if_pos ha, if_pos ha]
   by_cases hb : validO b = true
   ·rw [if_pos hb, if_pos hb]
    simp only [cmpZ_is.refl, cThen, if_true, cmpB_is.refl]
    split
    ·assumption
    ·rfl
   ·rw [if_neg hb, if_neg hb]
    rfl
  ·rw [if_neg ha, if_neg ha]
   by_cases hb : validO b = true
   ·rw [if_pos hb, if_pos hb]
    rfl
   ·rw [if_neg hb, if_neg hb]
    simp only [cmpZ_is.refl, cThen, if_true, (cmpL_is cmpZ_is).refl]
theorem cmpO_is : IsCmp cmpO := by
 have h := cmpK_is.pull keyO keyO_inj
 have e : cmpO = fun a b => cmpK (keyO a) (keyO b) := by funext a b; exact cmpO_key a b
 rw [e]
 exact h
def nameT (n : NameV) : Int × ByteArray × Int × Int × ByteArray := (n.kind, n.owner, n.number, n.index, n.text)
theorem cmpN_is : IsCmp cmpN := by
 have h := (cmpZ_is.lex (cmpO_is.lex (cmpZ_is.lex (cmpZ_is.lex cmpB_is)))).pull nameT (fun a b e => by
  cases a; cases b
  simpa [nameT] using e)
 exact h
end Go.Proofs.YtpnchdgplpdefaaGreatDoor
