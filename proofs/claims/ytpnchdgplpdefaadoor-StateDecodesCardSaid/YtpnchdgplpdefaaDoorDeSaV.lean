/- State: comparisons of names, walked (written by genSaV.py). -/
import Derived.Test.YtpnchdgplpdefaaDoorDeSaU
namespace Go.Proofs.YtpnchdgplpdefaaDoor
open Go.RowKit Go.Shelf
theorem cmpI_eq (a b : Int) : cmpI a b = cmpZ a b := rfl
set_option maxRecDepth 100000 in
theorem cmpStr_any (a b : ByteArray) (w : World) : Calls Tryd.prog 77 #[.string a, .string b] w (SameW w (.int .i64 (cmpB a b))) := by
 have C1 := Lib.hid (fun a w => isNaN_str a w)
 have HC := Lib.hid (cmpB_less a b)
 have key : ∀ r, cmpB a b = r → Calls Tryd.prog 77 #[.string a, .string b] w (SameW w (.int .i64 r)) → Calls Tryd.prog 77 #[.string a, .string b] w (SameW w (.int .i64 (cmpB a b))) := fun r h k => by rw [h]; exact k
 by_cases h1 : Op.bytesLess a.toList b.toList = true
 ·refine key (-1) (by rw [HC.out, if_pos h1]) ?_
  clear key HC
  go_enter Tryd.func77, Tryd.ntmps77
  go_wp2_with fail
  refine (C1.out a _).mono ?_
  rintro e w' ⟨rfl, rfl⟩
  go_wp2_with fail
  refine (C1.out b _).mono ?_
  rintro e w' ⟨rfl, rfl⟩
  go_wp2
  go_ret
  exact ⟨rfl, rfl⟩
 ·have h2 : Op.bytesLess a.toList b.toList = false := by simpa using h1
  by_cases e : a = b
  ·subst e
   refine key 0 (by rw [HC.out, if_neg h1, if_pos rfl]) ?_
   clear key HC
   have h3 : (a.toList == a.toList) = true := by simp
   go_enter Tryd.func77, Tryd.ntmps77
   go_wp2_with fail
   refine (C1.out a _).mono ?_
   rintro e w' ⟨rfl, rfl⟩
   go_wp2_with fail
   refine (C1.out a _).mono ?_
   rintro e w' ⟨rfl, rfl⟩
   go_wp2
   go_ret
   exact ⟨rfl, rfl⟩
  ·refine key 1 (by rw [HC.out, if_neg h1, if_neg e]) ?_
   have h3 : (a.toList == b.toList) = false := by rw [beq_eq_false_iff_ne]; exact fun h => e (toList_inj h)
   clear key HC e
   go_enter Tryd.func77, Tryd.ntmps77
   go_wp2_with fail
   refine (C1.out a _).mono ?_
   rintro e w' ⟨rfl, rfl⟩
   go_wp2_with fail
   refine (C1.out b _).mono ?_
   rintro e w' ⟨rfl, rfl⟩
   go_wp2
   go_ret
   exact ⟨rfl, rfl⟩
theorem isNaN_nm (a : ByteArray) (w : World) : Calls Tryd.prog 118 #[.string a] w (SameW w (.bool false)) := by
 go_enter Tryd.func118, Tryd.ntmps118
 go_wp2
 go_ret
 exact ⟨rfl, rfl⟩
set_option maxRecDepth 100000 in
theorem cmpNm_any (a b : ByteArray) (w : World) : Calls Tryd.prog 106 #[.string a, .string b] w (SameW w (.int .i64 (cmpB a b))) := by
 have C1 := Lib.hid (fun a w => isNaN_nm a w)
 have HC := Lib.hid (cmpB_less a b)
 have key : ∀ r, cmpB a b = r → Calls Tryd.prog 106 #[.string a, .string b] w (SameW w (.int .i64 r)) → Calls Tryd.prog 106 #[.string a, .string b] w (SameW w (.int .i64 (cmpB a b))) := fun r h k => by rw [h]; exact k
 by_cases h1 : Op.bytesLess a.toList b.toList = true
 ·refine key (-1) (by rw [HC.out, if_pos h1]) ?_
  clear key HC
  go_enter Tryd.func106, Tryd.ntmps106
  go_wp2_with fail
  refine (C1.out a _).mono ?_
  rintro e w' ⟨rfl, rfl⟩
  go_wp2_with fail
  refine (C1.out b _).mono ?_
  rintro e w' ⟨rfl, rfl⟩
  go_wp2
  go_ret
  exact ⟨rfl, rfl⟩
 ·have h2 : Op.bytesLess a.toList b.toList = false := by simpa using h1
  by_cases e : a = b
  ·subst e
   refine key 0 (by rw [HC.out, if_neg h1, if_pos rfl]) ?_
   clear key HC
   have h3 : (a.toList == a.toList) = true := by simp
   go_enter Tryd.func106, Tryd.ntmps106
   go_wp2_with fail
   refine (C1.out a _).mono ?_
   rintro e w' ⟨rfl, rfl⟩
   go_wp2_with fail
   refine (C1.out a _).mono ?_
   rintro e w' ⟨rfl, rfl⟩
   go_wp2
   go_ret
   exact ⟨rfl, rfl⟩
  ·refine key 1 (by rw [HC.out, if_neg h1, if_neg e]) ?_
   have h3 : (a.toList == b.toList) = false := by rw [beq_eq_false_iff_ne]; exact fun h => e (toList_inj h)
   clear key HC e
   go_enter Tryd.func106, Tryd.ntmps106
   go_wp2_with fail
   refine (C1.out a _).mono ?_
   rintro e w' ⟨rfl, rfl⟩
   go_wp2_with fail
   refine (C1.out b _).mono ?_
   rintro e w' ⟨rfl, rfl⟩
   go_wp2
   go_ret
   exact ⟨rfl, rfl⟩
theorem beq0 {x : Int} (h : x = 0) : (x == 0) = true := by subst h; rfl
theorem bne0 {x : Int} (h : x ≠ 0) : (x == 0) = false := by rw [beq_eq_false_iff_ne]; exact h
theorem cThen3_hit (x y z : Int) : ∀ (k : Nat) (v : Int), ([x, y, z])[k]? = some v → v ≠ 0 → (∀ (j : Nat) (u : Int), j < k → ([x, y, z])[j]? = some u → u = 0) → cThen x (cThen y z) = v
 | 0, v, hv, hn, h0 => by
  obtain rfl : x = v := by simpa using hv
  simp [cThen, hn]
 | 1, v, hv, hn, h0 => by
  obtain rfl : y = v := by simpa using hv
  have := h0 0 x (by omega) rfl
  simp [cThen, this, hn]
 | 2, v, hv, hn, h0 => by
  obtain rfl : z = v := by simpa using hv
  have h1 := h0 0 x (by omega) rfl
  have h2 := h0 1 y (by omega) rfl
  simp [cThen, h1, h2]
 | k + 3, v, hv, _, _ => by simp at hv
theorem cThen3_zero (x y z : Int) (h0 : ∀ (j : Nat) (u : Int), j < 3 → ([x, y, z])[j]? = some u → u = 0) : cThen x (cThen y z) = 0 := by
 have h1 := h0 0 x (by omega) rfl
 have h2 := h0 1 y (by omega) rfl
 have h3 := h0 2 z (by omega) rfl
 simp [cThen, h1, h2, h3]
theorem Rd.any {w : World} {S : Nat → Prop} {size n : Nat} {A : Option Addr} {xs : List Value} (h : Rd w S size A n xs) : Rd w (fun _ => True) size A n xs :=
 ⟨h.1, fun hn => by obtain ⟨ad, e, _, hc⟩ := h.2 hn; exact ⟨ad, e, trivial, hc⟩⟩
set_option maxRecDepth 100000 in
set_option maxHeartbeats 1000000 in
theorem cmpOr_any (x y z : Int) (g : Nat) (w : World) (h : Blk w g 3 #[.int .i64 x, .int .i64 y, .int .i64 z]) : Calls Tryd.prog 76 #[.slice (some ⟨g, 0, none⟩) 3 3] w (SameW w (.int .i64 (cThen x (cThen y z)))) := by
 have HB := Lib.hid h
 have HC : Hid (∀ k : Nat, k < 3 → ∃ v : Int, ([x, y, z])[k]? = some v ∧ w.cell? ⟨g, k, none⟩ = some (.int .i64 v)) := fun k hk => by
  match k, hk with
  | 0, _ => exact ⟨x, rfl, h.cell 0⟩
  | 1, _ => exact ⟨y, rfl, h.cell 1⟩
  | 2, _ => exact ⟨z, rfl, h.cell 2⟩
 clear h
 have HX : Hid (∀ (k : Nat) (v : Int), ([x, y, z])[k]? = some v → v ≠ 0 → (∀ (j : Nat) (u : Int), j < k → ([x, y, z])[j]? = some u → u = 0) → cThen x (cThen y z) = v) := fun k v => cThen3_hit x y z k v
 have HZ : Hid ((∀ (j : Nat) (u : Int), j < 3 → ([x, y, z])[j]? = some u → u = 0) → cThen x (cThen y z) = 0) := cThen3_zero x y z
 generalize cThen x (cThen y z) = R at *
 go_enter Tryd.func76, Tryd.ntmps76
 go_wp2
 go_loopw [8] (fun i wr => ∃ k : Nat, k ≤ 3 ∧ (∀ j u, j < k → ([x, y, z])[j]? = some u → u = 0) ∧ i = .int .i64 k ∧ w = wr) (fun i _ => 3 - (intOf i).toNat)
 case atStart => exact ⟨0, by omega, fun j u h => by omega, rfl, rfl⟩
 case round =>
  obtain ⟨k, hk, hz, rfl, rfl⟩ := hrel
  have HK := Lib.hid hz
  clear hz
  by_cases hlt : k < 3
  ·have hI : (k : Int) < 3 := by omega
   obtain ⟨v, hv, hc⟩ := HC.out k hlt
   have HV := Lib.hid hv
   clear hv
   by_cases hv0 : v = 0
   ·subst hv0
    go_wp2
    go_roundw
    case rel => exact ⟨k + 1, by omega, fun j u hj hu => by
      by_cases e : j = k
      ·subst e
       have := HV.out
       rw [hu] at this
       cases this
       rfl
      ·exact HK.out j u (by omega) hu, by go_num, trivial⟩
    case measure => simp [intOf]; omega
   ·have t1 := bne0 hv0
    obtain rfl : R = v := HX.out k v HV.out hv0 HK.out
    go_wp2
    go_ret
    exact ⟨rfl, rfl⟩
  ·obtain rfl : k = 3 := by omega
   obtain rfl : R = 0 := HZ.out HK.out
   go_wp2
   go_ret
   exact ⟨rfl, rfl⟩
theorem cmpL_pre {α : Type} {c : α → α → Int} (h : IsCmp c) : ∀ (p a b : List α), cmpL c (p ++ a) (p ++ b) = cmpL c a b
 | [], _, _ => rfl
 | x :: p, a, b => by
  rw [List.cons_append, List.cons_append, cmpL, h.refl, cThen, if_pos rfl]
  exact cmpL_pre h p a b
set_option maxRecDepth 100000 in
set_option maxHeartbeats 2000000 in
theorem slicesCmp_any (xs ys : List Int) (A B : Option Addr) (n m c d : Nat) (w : World) (h1 : Rd w (fun _ => True) 1 A n (xs.map (Value.int .i64))) (h2 : Rd w (fun _ => True) 1 B m (ys.map (Value.int .i64))) (hn : n ≤ 1099511627776) (_hm : m ≤ 1099511627776) :
  Calls Tryd.prog 104 #[.slice A n c, .slice B m d] w (SameW w (.int .i64 (cmpL cmpZ xs ys))) := by
 have l1 : xs.length = n := by simpa using h1.1
 have l2 : ys.length = m := by simpa using h2.1
 have HA : Hid (∀ k v, xs[k]? = some v → ∃ ad, A = some ad ∧ w.cell? (ad.add k) = some (.int .i64 v)) := fun k v hv => by
  have hk := (List.getElem?_eq_some_iff.1 hv).1
  obtain ⟨ad, e, _, hc⟩ := h1.2 (by omega)
  exact ⟨ad, e, hc k _ (by rw [List.getElem?_map, hv]; rfl)⟩
 have HB : Hid (∀ k v, ys[k]? = some v → ∃ ad, B = some ad ∧ w.cell? (ad.add k) = some (.int .i64 v)) := fun k v hv => by
  have hk := (List.getElem?_eq_some_iff.1 hv).1
  obtain ⟨ad, e, _, hc⟩ := h2.2 (by omega)
  exact ⟨ad, e, hc k _ (by rw [List.getElem?_map, hv]; rfl)⟩
 have L1 := Lib.hid l1
 have L2 := Lib.hid l2
 have CI := Lib.hid (fun a b w => cmpInt_any a b w)
 obtain ⟨R, hR⟩ : ∃ R, R = cmpL cmpZ xs ys := ⟨_, rfl⟩
 rw [← hR]
 have HR := Lib.hid hR
 clear h1 h2 l1 l2 hR
 go_enter Tryd.func104, Tryd.ntmps104
 go_wp2
 go_loopw [11] (fun i wr => ∃ k : Nat, k ≤ n ∧ (∃ p a b, p.length = k ∧ xs = p ++ a ∧ ys = p ++ b) ∧ i = .int .i64 k ∧ w = wr) (fun i _ => n - (intOf i).toNat)
 case atStart => exact ⟨0, by omega, ⟨[], xs, ys, rfl, rfl, rfl⟩, rfl, rfl⟩
 case round =>
  obtain ⟨k, hk, ⟨p, a, b, hp, hx, hy⟩, rfl, rfl⟩ := hrel
  have HP := Lib.hid hp
  have HX := Lib.hid hx
  have HY := Lib.hid hy
  clear hp hx hy
  by_cases hlt : k < n
  ·have hI : (k : Int) < (n : Int) := by omega
   have ha : ∃ v a', a = v :: a' := by
    cases a with
    | nil =>
     have h := L1.out
     rw [HX.out, List.append_nil, HP.out] at h
     omega
    | cons v a' => exact ⟨v, a', rfl⟩
   obtain ⟨v, a', rfl⟩ := ha
   obtain ⟨ad, rfl, hca⟩ := HA.out k v (by rw [HX.out, List.getElem?_append_right (by rw [HP.out]; omega), HP.out, Nat.sub_self]; rfl)
   by_cases hlm : k < m
   ·have hJ : (k : Int) < (m : Int) := by omega
    have hJ2 : decide ((m : Int) ≤ (k : Int)) = false := decide_eq_false (by omega)
    have hb : ∃ u b', b = u :: b' := by
     cases b with
     | nil =>
      have h := L2.out
      rw [HY.out, List.append_nil, HP.out] at h
      omega
     | cons u b' => exact ⟨u, b', rfl⟩
    obtain ⟨u, b', rfl⟩ := hb
    obtain ⟨bd, rfl, hcb⟩ := HB.out k u (by rw [HY.out, List.getElem?_append_right (by rw [HP.out]; omega), HP.out, Nat.sub_self]; rfl)
    go_wp2_with fail
    refine (CI.out v u _).mono ?_
    rintro e w' ⟨rfl, rfl⟩
    have HC := Lib.hid (cmpI_eq v u)
    generalize cmpI v u = cc at *
    by_cases hc0 : cc = 0
    ·subst hc0
     have hvu : Hid (v = u) := cmpZ_is.eq v u HC.out.symm
     go_wp2
     go_roundw
     case rel => exact ⟨k + 1, by omega, ⟨p ++ [v], a', b', by rw [List.length_append, HP.out]; rfl, by rw [HX.out]; simp, by rw [HY.out, hvu.out]; simp⟩, by go_num, trivial⟩
     case measure => simp [intOf]; omega
    ·have t1 := bne0 hc0
     obtain rfl : R = cc := by
      rw [HR.out, HX.out, HY.out, cmpL_pre cmpZ_is, cmpL, ← HC.out, cThen, if_neg hc0]
     go_wp2
     go_ret
     exact ⟨rfl, rfl⟩
   ·have hJ2 : decide ((m : Int) ≤ (k : Int)) = true := decide_eq_true (by omega)
    have hJ3 : ¬ (k : Int) < (m : Int) := by omega
    have hb : b = [] := by
     have h := congrArg List.length HY.out
     rw [L2.out, List.length_append, HP.out] at h
     exact List.length_eq_zero_iff.1 (by omega)
    subst hb
    obtain rfl : R = 1 := by rw [HR.out, HX.out, HY.out, cmpL_pre cmpZ_is]; rfl
    go_wp2
    go_ret
    exact ⟨rfl, rfl⟩
  ·obtain rfl : k = n := by omega
   have ha : a = [] := by
    have h := congrArg List.length HX.out
    rw [L1.out, List.length_append, HP.out] at h
    exact List.length_eq_zero_iff.1 (by omega)
   subst ha
   have hRb : Hid (R = cmpL cmpZ [] b) := by simp only [Hid]; rw [HR.out, HX.out, HY.out, cmpL_pre cmpZ_is]
   have hmb : Hid (m = k + b.length) := by
    have h := congrArg List.length HY.out
    rw [L2.out, List.length_append, HP.out] at h
    exact h
   by_cases hlm : k < m
   ·have hJ : (k : Int) < (m : Int) := by omega
    obtain rfl : R = -1 := by
     rw [hRb.out]
     cases b with
     | nil => have := hmb.out; simp at this; omega
     | cons u b' => rfl
    go_wp2
    go_ret
    exact ⟨rfl, rfl⟩
   ·have hJ : ¬ (k : Int) < (m : Int) := by omega
    obtain rfl : R = 0 := by
     rw [hRb.out]
     cases b with
     | nil => rfl
     | cons u b' => have := hmb.out; simp at this; omega
    go_wp2
    go_ret
    exact ⟨rfl, rfl⟩
def cmpO (a b : ByteArray) : Int := if a = b then 0 else if validO a = true then (if validO b = true then cmpL cmpZ (ordsO a) (ordsO b) else -1) else if validO b = true then 1 else cmpB a b
theorem ordsO_le (s : ByteArray) : (ordsO s).length ≤ 9 := by rw [ordsO, List.length_map]; exact partsL_le s
set_option maxRecDepth 100000 in
set_option maxHeartbeats 2000000 in
theorem lineageCompare_any (a b : ByteArray) (w : World) (ha : a.size ≤ 1099511627776) (hb : b.size ≤ 1099511627776) : Calls Tryd.prog 75 #[.string a, .string b] w (Same' w (.int .i64 (cmpO a b))) := by
 by_cases e : a = b
 ·subst e
  rw [show cmpO a a = 0 by simp [cmpO]]
  refine (lineageCompare_same a w).mono ?_
  rintro e w' ⟨rfl, rfl⟩
  exact ⟨rfl, Fr.refl _ _⟩
 ·have te : (a.toList == b.toList) = false := by rw [beq_eq_false_iff_ne]; exact fun h => e (toList_inj h)
  have CVa := Lib.hid (fun w => Valid_any a w ha)
  have CVb := Lib.hid (fun w => Valid_any b w hb)
  have CN := Lib.hid (fun w => cmpNm_any a b w)
  have HO : Hid (cmpO a b = if validO a = true then (if validO b = true then cmpL cmpZ (ordsO a) (ordsO b) else -1) else if validO b = true then 1 else cmpB a b) := by simp only [Hid, cmpO]; rw [if_neg e]
  have COa := Lib.hid (fun w h => Ordinals_any a w ha h)
  have COb := Lib.hid (fun w h => Ordinals_any b w hb h)
  have HLa := Lib.hid (ordsO_le a)
  have HLb := Lib.hid (ordsO_le b)
  generalize cmpO a b = R at *
  generalize validO a = va at *
  generalize validO b = vb at *
  clear e
  go_enter Tryd.func75, Tryd.ntmps75
  go_wp2_with fail
  refine (CVa.out _).mono ?_
  rintro e w1 ⟨rfl, f1⟩
  have F1 := Lib.hid f1
  clear f1
  go_wp2_with fail
  refine (CVb.out _).mono ?_
  rintro e w2 ⟨rfl, f2⟩
  have F2 := Lib.hid (F1.out.trans f2)
  clear f2 F1
  cases va
  ·cases vb
   ·go_wp2_with fail
    refine (CN.out _).mono ?_
    rintro e w' ⟨rfl, rfl⟩
    go_wp2
    go_ret
    rw [HO.out]
    exact ⟨rfl, F2.out⟩
   ·go_wp2
    go_ret
    rw [HO.out]
    exact ⟨rfl, F2.out⟩
  ·cases vb
   ·go_wp2
    go_ret
    rw [HO.out]
    exact ⟨rfl, F2.out⟩
   ·go_wp2_with fail
    refine (COa.out _ (by first | rfl | trivial)).mono ?_
    rintro e w3 ⟨v, rfl, hg⟩
    obtain ⟨A1, m1, c1, rfl, H1, _⟩ := own_slice hg.own
    obtain rfl := H1.out
    have F3 := Lib.hid (F2.out.trans hg.fr0)
    have R3 := Lib.hid (Rd.of_own hg.own)
    clear hg
    go_wp2_with fail
    refine (COb.out _ (by first | rfl | trivial)).mono ?_
    rintro e w4 ⟨v, rfl, hg⟩
    obtain ⟨A2, m2, c2, rfl, H2, _⟩ := own_slice hg.own
    obtain rfl := H2.out
    have F4 := Lib.hid (F3.out.trans hg.fr0)
    have R4 := Lib.hid (Rd.of_own hg.own)
    have R34 := Lib.hid (R3.out.fr0 hg.fr0)
    clear hg
    go_wp2_with fail
    refine (slicesCmp_any (ordsO a) (ordsO b) A1 A2 _ _ c1 c2 w4 R34.out.any R4.out.any (by have := HLa.out; omega) (by have := HLb.out; omega)).mono ?_
    rintro e w' ⟨rfl, rfl⟩
    go_wp2
    go_ret
    rw [HO.out]
    exact ⟨rfl, F4.out⟩
def cmpN (n m : NameV) : Int := cThen (cmpZ n.kind m.kind) (cThen (cmpO n.owner m.owner) (cThen (cmpZ n.number m.number) (cThen (cmpZ n.index m.index) (cmpB n.text m.text))))
set_option maxRecDepth 100000 in
set_option maxHeartbeats 4000000 in
theorem objCompare_any (n m : NameV) (w : World) (hn : n.owner.size ≤ 1099511627776) (hm : m.owner.size ≤ 1099511627776) : Calls Tryd.prog 45 #[.agg n.cells.toArray, .agg m.cells.toArray] w (Same' w (.int .i64 (cmpN n m))) := by
 have C0 : Hid (∀ w, Calls Tryd.prog 74 #[.int .i64 n.kind, .int .i64 m.kind] w (SameW w (.int .i64 (cmpZ n.kind m.kind)))) := fun w => cmpInt_any _ _ w
 have C1 := Lib.hid (fun w => lineageCompare_any n.owner m.owner w hn hm)
 have C2 : Hid (∀ w, Calls Tryd.prog 74 #[.int .i64 n.number, .int .i64 m.number] w (SameW w (.int .i64 (cmpZ n.number m.number)))) := fun w => cmpInt_any _ _ w
 have C3 : Hid (∀ w, Calls Tryd.prog 74 #[.int .i64 n.index, .int .i64 m.index] w (SameW w (.int .i64 (cmpZ n.index m.index)))) := fun w => cmpInt_any _ _ w
 have C4 := Lib.hid (fun w => cmpStr_any n.text m.text w)
 have HN : Hid (cmpN n m = cThen (cmpZ n.kind m.kind) (cThen (cmpO n.owner m.owner) (cThen (cmpZ n.number m.number) (cThen (cmpZ n.index m.index) (cmpB n.text m.text))))) := rfl
 generalize cmpN n m = R at *
 generalize cmpZ n.kind m.kind = z0 at *
 generalize cmpO n.owner m.owner = z1 at *
 generalize cmpZ n.number m.number = z2 at *
 generalize cmpZ n.index m.index = z3 at *
 generalize cmpB n.text m.text = z4 at *
 clear hn hm
 go_enter Tryd.func45, Tryd.ntmps45
 go_wp2_with (refine wpList_boxBlk rfl 36 (.tmp 0) rfl n.cells.toArray rfl ?_)
 intro w1 n1
 have N1 := Lib.hid n1
 clear n1
 generalize hga : w.heap.size = ga at *
 have HA0 : Hid (Blk w1 ga 36 n.cells.toArray) := by have h := N1.out.blk; rw [hga] at h; exact h
 clear hga
 go_wp2_with (refine wpList_boxBlk rfl 36 (.tmp 1) rfl m.cells.toArray rfl ?_)
 intro w2 n2
 have N2 := Lib.hid n2
 clear n2
 generalize hgb : w1.heap.size = gb at *
 have Hgb : Hid (Blk w2 gb 36 m.cells.toArray) := by have h := N2.out.blk; rw [hgb] at h; exact h
 clear hgb
 have Hga := Lib.hid (HA0.out.fr N2.out.fr (fun x => x))
 have F2 := Lib.hid (N1.out.fr.trans N2.out.fr)
 have ca0 : w2.cell? ⟨ga, 0, none⟩ = some (.int .i64 n.kind) := Hga.out.cell 0
 have cb0 : w2.cell? ⟨gb, 0, none⟩ = some (.int .i64 m.kind) := Hgb.out.cell 0
 have ca1 : w2.cell? ⟨ga, 1, none⟩ = some (.string n.owner) := Hga.out.cell 1
 have cb1 : w2.cell? ⟨gb, 1, none⟩ = some (.string m.owner) := Hgb.out.cell 1
 clear N1 N2 HA0
 go_wp2_with fail
 refine (C0.out _).mono ?_
 rintro e w' ⟨rfl, rfl⟩
 by_cases h0 : z0 = 0
 ·have HK0 := Lib.hid h0
  have t0 := beq0 h0
  clear h0
  go_wp2_with fail
  refine (C1.out _).mono ?_
  rintro e w3 ⟨rfl, f3⟩
  have F4 := Lib.hid f3
  clear f3 ca0 cb0 ca1 cb1
  by_cases h1 : z1 = 0
  ·have HK1 := Lib.hid h1
   have t1 := beq0 h1
   clear h1
   go_upto_region 7 with fail
   refine wp_region_st 15 Nothing [Is (.pointer (some ⟨ga, 2, none⟩)), Is (.int .i64 n.number), Is (.pointer (some ⟨gb, 2, none⟩)), Is (.int .i64 m.number), Is (.int .i64 z2), Is (.pointer (some ⟨ga, 3, none⟩)), Is (.int .i64 n.index), Is (.pointer (some ⟨gb, 3, none⟩)), Is (.int .i64 m.index), Is (.int .i64 z3), Is (.pointer (some ⟨ga, 4, none⟩)), Is (.string n.text), Is (.pointer (some ⟨gb, 4, none⟩)), Is (.string m.text), Is (.int .i64 z4)] [] (fun _ => True) (fun _ _ => false) (by kernel_rfl) (by kernel_rfl) (by kernel_rfl) (by kernel_rfl) ⟨Is.stable _, Is.stable _, Is.stable _, Is.stable _, Is.stable _, Is.stable _, Is.stable _, Is.stable _, Is.stable _, Is.stable _, Is.stable _, Is.stable _, Is.stable _, Is.stable _, Is.stable _, trivial⟩ trivial (fun _ _ _ _ h => h) trivial ?_ ?_
   ·refine ⟨fun u w' d hf hR k1 k0 kM => ?_, fun u w' d hf hR k1 k0 kM => ?_, fun u w' d hf hR k1 k0 kM => ?_, fun u w' d hf hR k1 k0 kM => ?_, fun u w' d hf hR k1 k0 kM => ?_, fun u w' d hf hR k1 k0 kM => ?_, fun u w' d hf hR k1 k0 kM => ?_, fun u w' d hf hR k1 k0 kM => ?_, fun u w' d hf hR k1 k0 kM => ?_, fun u w' d hf hR k1 k0 kM => ?_, fun u w' d hf hR k1 k0 kM => ?_, fun u w' d hf hR k1 k0 kM => ?_, fun u w' d hf hR k1 k0 kM => ?_, fun u w' d hf hR k1 k0 kM => ?_, fun u w' d hf hR k1 k0 kM => ?_, trivial⟩
    all_goals simp only [List.take_succ_cons, List.take_zero, List.map_cons, List.map_nil, puts, Act.put, List.setIfInBounds_toArray, List.set_cons_zero, List.set_cons_succ, Nat.reduceAdd, Nat.zero_add]
    ·clear hR k1 k0 kM
     refine .inl ⟨by kernel_rfl, ?_⟩
     go_simp
     exact ⟨_, rfl, Fr.refl _ _, rfl, trivial⟩
    ·have h0 : u 0 = _ := hR 0 (by kernel_rfl)
     clear hR k1 k0 kM
     simp only [h0]
     refine .inl ⟨by kernel_rfl, ?_⟩
     have hc : w'.cell? ⟨ga, 2, none⟩ = some (.int .i64 n.number) := (Hga.out.fr (F4.out.trans hf) (fun x => x)).cell 2
     go_simp
     exact ⟨_, rfl, Fr.refl _ _, rfl, trivial⟩
    ·clear hR k1 k0 kM
     refine .inl ⟨by kernel_rfl, ?_⟩
     go_simp
     exact ⟨_, rfl, Fr.refl _ _, rfl, trivial⟩
    ·have h2 : u 2 = _ := hR 2 (by kernel_rfl)
     clear hR k1 k0 kM
     simp only [h2]
     refine .inl ⟨by kernel_rfl, ?_⟩
     have hc : w'.cell? ⟨gb, 2, none⟩ = some (.int .i64 m.number) := (Hgb.out.fr (F4.out.trans hf) (fun x => x)).cell 2
     go_simp
     exact ⟨_, rfl, Fr.refl _ _, rfl, trivial⟩
    ·have h1 : u 1 = _ := hR 1 (by kernel_rfl)
     have h3 : u 3 = _ := hR 3 (by kernel_rfl)
     clear hR k1 k0 kM
     simp only [h1, h3]
     refine .inl ⟨by kernel_rfl, ?_⟩
     go_simp
     refine (C2.out _).mono ?_
     rintro e w4 ⟨rfl, rfl⟩
     exact ⟨_, rfl, Fr.refl _ _, rfl, trivial⟩
    ·clear hR k1 k0 kM
     refine .inl ⟨by kernel_rfl, ?_⟩
     go_simp
     exact ⟨_, rfl, Fr.refl _ _, rfl, trivial⟩
    ·have h5 : u 5 = _ := hR 5 (by kernel_rfl)
     clear hR k1 k0 kM
     simp only [h5]
     refine .inl ⟨by kernel_rfl, ?_⟩
     have hc : w'.cell? ⟨ga, 3, none⟩ = some (.int .i64 n.index) := (Hga.out.fr (F4.out.trans hf) (fun x => x)).cell 3
     go_simp
     exact ⟨_, rfl, Fr.refl _ _, rfl, trivial⟩
    ·clear hR k1 k0 kM
     refine .inl ⟨by kernel_rfl, ?_⟩
     go_simp
     exact ⟨_, rfl, Fr.refl _ _, rfl, trivial⟩
    ·have h7 : u 7 = _ := hR 7 (by kernel_rfl)
     clear hR k1 k0 kM
     simp only [h7]
     refine .inl ⟨by kernel_rfl, ?_⟩
     have hc : w'.cell? ⟨gb, 3, none⟩ = some (.int .i64 m.index) := (Hgb.out.fr (F4.out.trans hf) (fun x => x)).cell 3
     go_simp
     exact ⟨_, rfl, Fr.refl _ _, rfl, trivial⟩
    ·have h6 : u 6 = _ := hR 6 (by kernel_rfl)
     have h8 : u 8 = _ := hR 8 (by kernel_rfl)
     clear hR k1 k0 kM
     simp only [h6, h8]
     refine .inl ⟨by kernel_rfl, ?_⟩
     go_simp
     refine (C3.out _).mono ?_
     rintro e w4 ⟨rfl, rfl⟩
     exact ⟨_, rfl, Fr.refl _ _, rfl, trivial⟩
    ·clear hR k1 k0 kM
     refine .inl ⟨by kernel_rfl, ?_⟩
     go_simp
     exact ⟨_, rfl, Fr.refl _ _, rfl, trivial⟩
    ·have h10 : u 10 = _ := hR 10 (by kernel_rfl)
     clear hR k1 k0 kM
     simp only [h10]
     refine .inl ⟨by kernel_rfl, ?_⟩
     have hc : w'.cell? ⟨ga, 4, none⟩ = some (.string n.text) := (Hga.out.fr (F4.out.trans hf) (fun x => x)).cell 4
     go_simp
     exact ⟨_, rfl, Fr.refl _ _, rfl, trivial⟩
    ·clear hR k1 k0 kM
     refine .inl ⟨by kernel_rfl, ?_⟩
     go_simp
     exact ⟨_, rfl, Fr.refl _ _, rfl, trivial⟩
    ·have h12 : u 12 = _ := hR 12 (by kernel_rfl)
     clear hR k1 k0 kM
     simp only [h12]
     refine .inl ⟨by kernel_rfl, ?_⟩
     have hc : w'.cell? ⟨gb, 4, none⟩ = some (.string m.text) := (Hgb.out.fr (F4.out.trans hf) (fun x => x)).cell 4
     go_simp
     exact ⟨_, rfl, Fr.refl _ _, rfl, trivial⟩
    ·have h11 : u 11 = _ := hR 11 (by kernel_rfl)
     have h13 : u 13 = _ := hR 13 (by kernel_rfl)
     clear hR k1 k0 kM
     simp only [h11, h13]
     refine .inl ⟨by kernel_rfl, ?_⟩
     go_simp
     refine (C4.out _).mono ?_
     rintro e w4 ⟨rfl, rfl⟩
     exact ⟨_, rfl, Fr.refl _ _, rfl, trivial⟩
   ·intro u w' hf hR kM
    have k4 : u 4 = _ := hR 4 (by omega)
    have k9 : u 9 = _ := hR 9 (by omega)
    have k14 : u 14 = _ := hR 14 (by omega)
    clear hR kM
    simp only [List.take_succ_cons, List.take_zero, List.map_cons, List.map_nil, puts, Act.put, List.setIfInBounds_toArray, List.set_cons_zero, List.set_cons_succ, List.drop_succ_cons, List.drop_zero, Nat.reduceAdd, Nat.zero_add, k4, k9, k14]
    have HF := Lib.hid (F2.out.trans (F4.out.trans hf))
    clear hf k4 k9 k14
    obtain ⟨i0, hi0, hz0', hz1, hz2⟩ := info_parts infoIntP
    have gc1 : Hid (¬ 3 * i0.size > 2 ^ 24) := by simp only [Hid]; rw [hz1]; omega
    have gc2 : Hid (¬ 3 * i0.size = 0) := by simp only [Hid]; rw [hz1]; omega
    go_wp2_with fail
    have BI : Hid (Blk (w'.alloc (.cells #[.int .i64 z2, .int .i64 z3, .int .i64 z4] 3)) w'.heap.size 3 #[.int .i64 z2, .int .i64 z3, .int .i64 z4]) := Blk.new _ _ _
    have FI := Lib.hid (HF.out.trans ((Fr.refl Nothing w').alloc (.cells #[.int .i64 z2, .int .i64 z3, .int .i64 z4] 3)))
    refine (cmpOr_any z2 z3 z4 _ _ BI.out).mono ?_
    rintro e w5 ⟨rfl, rfl⟩
    go_wp2
    go_ret
    rw [HN.out, HK0.out, HK1.out]
    exact ⟨rfl, FI.out⟩
  ·have t1 := bne0 h1
   have HK1 := Lib.hid h1
   clear h1
   go_wp2
   go_ret
   rw [HN.out, HK0.out, cThen, if_pos rfl, cThen, if_neg HK1.out]
   exact ⟨rfl, F2.out.trans F4.out⟩
 ·have t0 := bne0 h0
  have HK0 := Lib.hid h0
  clear h0
  go_wp2
  go_ret
  rw [HN.out, cThen, if_neg HK0.out]
  exact ⟨rfl, F2.out⟩
end Go.Proofs.YtpnchdgplpdefaaDoor
