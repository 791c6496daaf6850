/- State: the reference's comparisons (written by genSbE.py). -/
import Derived.Test.YtpnchdgplpdefaaGreatDoorEnSbD
namespace Go.Proofs.YtpnchdgplpdefaaGreatDoor
open Go.RowKit Go.Shelf
theorem cmpO_eq (a b : ByteArray) : cmpO a b = if validO a = true then (if validO b = true then cmpL cmpZ (ordsO a) (ordsO b) else -1) else if validO b = true then 1 else cmpB a b := by
 by_cases e : a = b
 ·subst e
  rw [cmpO_is.refl]
  split
  ·rw [(cmpL_is cmpZ_is).refl]
  ·rw [cmpB_is.refl]
 ·rw [cmpO, if_neg e]
theorem rOrder_any (a b : Int) (w : World) : Calls Tryz.prog 107 #[.int .i64 a, .int .i64 b] w (SameW w (.int .i64 (cmpZ a b))) := by
 unfold cmpZ
 by_cases h1 : a < b
 ·rw [if_pos h1]
  have t1 : decide (a < b) = true := decide_eq_true h1
  go_enter Tryz.func107, Tryz.ntmps107
  go_wp2
  go_ret
  exact ⟨rfl, rfl⟩
 ·rw [if_neg h1]
  have t1 : decide (a < b) = false := decide_eq_false h1
  by_cases h2 : b < a
  ·rw [if_pos h2]
   have t2 : decide (b < a) = true := decide_eq_true h2
   go_enter Tryz.func107, Tryz.ntmps107
   go_wp2
   go_ret
   exact ⟨rfl, rfl⟩
  ·rw [if_neg h2]
   have t2 : decide (b < a) = false := decide_eq_false h2
   go_enter Tryz.func107, Tryz.ntmps107
   go_wp2
   go_ret
   exact ⟨rfl, rfl⟩
theorem rValid_any (s : ByteArray) (w : World) (hs : s.size ≤ 1099511627776) : Calls Tryz.prog 90 #[.string s] w (Same' w (.bool (validO s))) := by
 have CP := Lib.hid (rParse_any s w hs)
 go_enter Tryz.func90, Tryz.ntmps90
 go_wp2_with fail
 refine CP.out.mono ?_
 rintro e w1 ⟨v, a, k, rfl, hk, f1, _⟩
 have HK := Lib.hid hk
 have F1 := Lib.hid f1
 clear hk f1 CP
 go_wp2
 go_ret
 rw [HK.out]
 exact ⟨rfl, F1.out⟩
set_option maxRecDepth 100000 in
set_option maxHeartbeats 8000000 in
theorem rCompare3_any (a b : ByteArray) (w : World) (ha : a.size ≤ 1099511627776) (hb : b.size ≤ 1099511627776) : Calls Tryz.prog 108 #[.string a, .string b] w (Same' w (.int .i64 (cmpO a b))) := by
 have CA := Lib.hid (fun w => rParse_any a w ha)
 have CB := Lib.hid (fun w => rParse_any b w hb)
 have HO := Lib.hid (cmpO_eq a b)
 have HLa := Lib.hid (ordsO_le a)
 have HLb := Lib.hid (ordsO_le b)
 clear ha hb
 go_enter Tryz.func108, Tryz.ntmps108
 go_wp2_with fail
 refine (CA.out _).mono ?_
 rintro e w1 ⟨v1, a1, k1, rfl, hk1, f1, g1⟩
 have HK1 := Lib.hid hk1
 have F1 := Lib.hid f1
 have G1 := Lib.hid g1
 clear hk1 f1 g1
 go_wp2_with fail
 refine (CB.out _).mono ?_
 rintro e w2 ⟨v2, a2, k2, rfl, hk2, f2, g2⟩
 have HK2 := Lib.hid hk2
 have F12 := Lib.hid f2
 have F2 := Lib.hid (F1.out.trans f2)
 have G2 := Lib.hid g2
 clear hk2 f2 g2 CA CB
 generalize hR : cmpO a b = R at *
 clear hR
 cases hva : validO a
 ·have hk1 : k1 ≠ 0 := by
   have h := HK1.out
   rw [hva] at h
   exact beq_eq_false_iff_ne.1 h
  have t1 := bne0 hk1
  have HVA := Lib.hid hva
  clear hva
  cases hvb : validO b
  ·have hk2 : k2 ≠ 0 := by
    have h := HK2.out
    rw [hvb] at h
    exact beq_eq_false_iff_ne.1 h
   have t2 := bne0 hk2
   have hR : R = cmpB a b := by rw [HO.out, HVA.out, hvb]; rfl
   rw [cmpB_less] at hR
   clear hvb
   by_cases h1 : Op.bytesLess a.toList b.toList = true
   ·obtain rfl : R = -1 := by rw [hR, if_pos h1]
    clear hR HO
    go_wp2
    go_ret
    exact ⟨rfl, F2.out⟩
   ·have h2 : Op.bytesLess a.toList b.toList = false := by simpa using h1
    by_cases e : a = b
    ·obtain rfl : R = 0 := by rw [hR, if_neg h1, if_pos e]
     have h3 : (a.toList == b.toList) = true := by rw [e]; simp
     clear hR HO e h1
     go_wp2
     go_ret
     exact ⟨rfl, F2.out⟩
    ·obtain rfl : R = 1 := by rw [hR, if_neg h1, if_neg e]
     have h3 : (a.toList == b.toList) = false := by rw [beq_eq_false_iff_ne]; exact fun h => e (toList_inj h)
     clear hR HO e h1
     go_wp2
     go_ret
     exact ⟨rfl, F2.out⟩
  ·have hk2 : k2 = 0 := by
    have h := HK2.out
    rw [hvb] at h
    exact beq_iff_eq.1 h
   subst hk2
   obtain rfl : R = 1 := by rw [HO.out, HVA.out, hvb]; rfl
   clear hvb HO
   go_wp2
   go_ret
   exact ⟨rfl, F2.out⟩
 ·have hk1 : k1 = 0 := by
   have h := HK1.out
   rw [hva] at h
   exact beq_iff_eq.1 h
  subst hk1
  have HVA := Lib.hid hva
  clear hva
  cases hvb : validO b
  ·have hk2 : k2 ≠ 0 := by
    have h := HK2.out
    rw [hvb] at h
    exact beq_eq_false_iff_ne.1 h
   have t2 := bne0 hk2
   obtain rfl : R = -1 := by rw [HO.out, HVA.out, hvb]; rfl
   clear hvb HO
   go_wp2
   go_ret
   exact ⟨rfl, F2.out⟩
  ·have hk2 : k2 = 0 := by
    have h := HK2.out
    rw [hvb] at h
    exact beq_iff_eq.1 h
   subst hk2
   have HR : Hid (R = cmpL cmpZ (ordsO a) (ordsO b)) := by simp only [Hid]; rw [HO.out, HVA.out, hvb]; rfl
   have hg1 := G1.out HVA.out
   have hg2 := G2.out hvb
   obtain ⟨A1, n, c1, rfl, H1, _⟩ := own_slice hg1.own
   obtain rfl := H1.out
   obtain ⟨A2, m, c2, rfl, H2, _⟩ := own_slice hg2.own
   obtain rfl := H2.out
   have R1 := (Rd.of_own hg1.own).fr0 F12.out
   have R2 := Rd.of_own hg2.own
   generalize hxs : ordsO a = xs at *
   generalize hys : ordsO b = ys at *
   have HA : Hid (∀ w', Fr Nothing w2 w' → ∀ k v, xs[k]? = some v → ∃ ad, A1 = some ad ∧ w'.cell? (ad.add k) = some (.int .i64 v)) := fun w' f k v hv => by
    have hk := (List.getElem?_eq_some_iff.1 hv).1
    obtain ⟨ad, e, _, hc⟩ := (R1.fr0 f).2 (by omega)
    exact ⟨ad, e, hc k _ (by rw [List.getElem?_map, hv]; rfl)⟩
   have HB : Hid (∀ w', Fr Nothing w2 w' → ∀ k v, ys[k]? = some v → ∃ ad, A2 = some ad ∧ w'.cell? (ad.add k) = some (.int .i64 v)) := fun w' f k v hv => by
    have hk := (List.getElem?_eq_some_iff.1 hv).1
    obtain ⟨ad, e, _, hc⟩ := (R2.fr0 f).2 (by omega)
    exact ⟨ad, e, hc k _ (by rw [List.getElem?_map, hv]; rfl)⟩
   obtain ⟨n, hn⟩ : ∃ n, n = xs.length := ⟨_, rfl⟩
   obtain ⟨m, hm⟩ : ∃ m, m = ys.length := ⟨_, rfl⟩
   rw [← hn, ← hm]
   have LN := Lib.hid hn
   have LM := Lib.hid hm
   have n9 : n ≤ 9 := by have := HLa.out; omega
   have m9 : m ≤ 9 := by have := HLb.out; omega
   clear hvb HO hg1 hg2 R1 R2 hxs hys hn hm G1 G2
   go_wp2
   go_loopw [11] (fun i wr => ∃ k : Nat, k ≤ n ∧ k ≤ m ∧ (∃ p a b, p.length = k ∧ xs = p ++ a ∧ ys = p ++ b) ∧ i = .int .i64 k ∧ Fr Nothing w2 wr) (fun i _ => n - (intOf i).toNat)
   case atStart => exact ⟨0, by omega, by omega, ⟨[], xs, ys, rfl, rfl, rfl⟩, rfl, Fr.refl _ _⟩
   case round =>
    obtain ⟨k, hk, hkm, ⟨p, a', b', hp, hx, hy⟩, rfl, hfr⟩ := hrel
    have HP := Lib.hid hp
    have HX := Lib.hid hx
    have HY := Lib.hid hy
    have FW := Lib.hid hfr
    clear hp hx hy hfr
    by_cases hlt : k < n ∧ k < m
    ·have hI : (k : Int) < (n : Int) := by omega
     have hJ : (k : Int) < (m : Int) := by omega
     have ha : ∃ v r, a' = v :: r := by
      cases a' with
      | nil =>
       have h := LN.out
       rw [HX.out, List.append_nil, HP.out] at h
       omega
      | cons v r => exact ⟨v, r, rfl⟩
     obtain ⟨v, r, rfl⟩ := ha
     have hb : ∃ u t, b' = u :: t := by
      cases b' with
      | nil =>
       have h := LM.out
       rw [HY.out, List.append_nil, HP.out] at h
       omega
      | cons u t => exact ⟨u, t, rfl⟩
     obtain ⟨u, t, rfl⟩ := hb
     have ga : xs[k]? = some v := by rw [HX.out, List.getElem?_append_right (by rw [HP.out]; omega), HP.out, Nat.sub_self]; rfl
     have gb : ys[k]? = some u := by rw [HY.out, List.getElem?_append_right (by rw [HP.out]; omega), HP.out, Nat.sub_self]; rfl
     obtain ⟨ad, rfl, hca⟩ := HA.out wr FW.out k v ga
     obtain ⟨bd, rfl, hcb⟩ := HB.out wr FW.out k u gb
     have HCA := Lib.hid hca
     have HCB := Lib.hid hcb
     have k0 : (0 : Int) ≤ (k : Int) := by omega
     clear hca hcb ga gb hlt
     by_cases h1 : v < u
     ·have tq : decide (v < u) = true := decide_eq_true h1
      obtain rfl : R = -1 := by rw [HR.out, HX.out, HY.out, cmpL_pre cmpZ_is, cmpL]; simp [cmpZ, h1, cThen]
      clear h1
      go_upto_region 16 with fail
      refine wp_region_st 9 Nothing [Is (.slice (some ad) n c1), Is (.int .i64 (k : Int)), Is (.pointer (some (ad.add k))), Is (.int .i64 v), Is (.slice (some bd) m c2), Is (.int .i64 (k : Int)), Is (.pointer (some (bd.add k))), Is (.int .i64 u), Is (.bool true)] [] (fun _ => True) (fun _ _ => false) (by kernel_rfl) (by kernel_rfl) (by kernel_rfl) (by kernel_rfl) ⟨Is.stable _, Is.stable _, Is.stable _, Is.stable _, Is.stable _, Is.stable _, Is.stable _, Is.stable _, Is.stable _, trivial⟩ trivial (fun _ _ _ _ h => h) trivial ?_ ?_
      ·refine ⟨fun u' w' d hf hR k1 k0 kM => ?_, fun u' w' d hf hR k1 k0 kM => ?_, fun u' w' d hf hR k1 k0 kM => ?_, fun u' w' d hf hR k1 k0 kM => ?_, fun u' w' d hf hR k1 k0 kM => ?_, fun u' w' d hf hR k1 k0 kM => ?_, fun u' w' d hf hR k1 k0 kM => ?_, fun u' w' d hf hR k1 k0 kM => ?_, fun u' w' d hf hR k1 k0 kM => ?_, trivial⟩
       all_goals simp only [List.take_succ_cons, List.take_zero, List.map_cons, List.map_nil, puts, Act.put, List.setIfInBounds_toArray, List.set_cons_zero, List.set_cons_succ, Nat.reduceAdd, Nat.zero_add]
       ·clear hR k1 k0 kM
        refine .inl ⟨by kernel_rfl, ?_⟩
        go_simp
        exact ⟨_, rfl, Fr.refl _ _, rfl, trivial⟩
       ·clear hR k1 k0 kM
        refine .inl ⟨by kernel_rfl, ?_⟩
        go_simp
        exact ⟨_, rfl, Fr.refl _ _, rfl, trivial⟩
       ·have h0 : u' 0 = _ := hR 0 (by kernel_rfl)
        have h1 : u' 1 = _ := hR 1 (by kernel_rfl)
        clear hR k1 k0 kM
        simp only [h0, h1]
        refine .inl ⟨by kernel_rfl, ?_⟩
        go_simp
        exact ⟨_, rfl, Fr.refl _ _, rfl, trivial⟩
       ·have h2 : u' 2 = _ := hR 2 (by kernel_rfl)
        clear hR k1 k0 kM
        simp only [h2]
        refine .inl ⟨by kernel_rfl, ?_⟩
        have q := hf.cellSome (HCA.out) (fun x => x)
        go_simp
        exact ⟨_, rfl, Fr.refl _ _, rfl, trivial⟩
       ·clear hR k1 k0 kM
        refine .inl ⟨by kernel_rfl, ?_⟩
        go_simp
        exact ⟨_, rfl, Fr.refl _ _, rfl, trivial⟩
       ·clear hR k1 k0 kM
        refine .inl ⟨by kernel_rfl, ?_⟩
        go_simp
        exact ⟨_, rfl, Fr.refl _ _, rfl, trivial⟩
       ·have h4 : u' 4 = _ := hR 4 (by kernel_rfl)
        have h5 : u' 5 = _ := hR 5 (by kernel_rfl)
        clear hR k1 k0 kM
        simp only [h4, h5]
        refine .inl ⟨by kernel_rfl, ?_⟩
        go_simp
        exact ⟨_, rfl, Fr.refl _ _, rfl, trivial⟩
       ·have h6 : u' 6 = _ := hR 6 (by kernel_rfl)
        clear hR k1 k0 kM
        simp only [h6]
        refine .inl ⟨by kernel_rfl, ?_⟩
        have q := hf.cellSome (HCB.out) (fun x => x)
        go_simp
        exact ⟨_, rfl, Fr.refl _ _, rfl, trivial⟩
       ·have h3 : u' 3 = _ := hR 3 (by kernel_rfl)
        have h7 : u' 7 = _ := hR 7 (by kernel_rfl)
        clear hR k1 k0 kM
        simp only [h3, h7]
        refine .inl ⟨by kernel_rfl, ?_⟩
        go_simp
        exact ⟨_, rfl, Fr.refl _ _, rfl, trivial⟩
      ·intro u' w' hf hR kM
       have k8 : u' 8 = _ := hR 8 (by omega)
       clear hR kM
       simp only [List.take_succ_cons, List.take_zero, List.map_cons, List.map_nil, puts, Act.put, List.setIfInBounds_toArray, List.set_cons_zero, List.set_cons_succ, List.drop_succ_cons, List.drop_zero, Nat.reduceAdd, Nat.zero_add, k8]
       have FA := Lib.hid hf
       clear hf k8
       go_wp2
       go_ret
       exact ⟨rfl, F2.out.trans (FW.out.trans FA.out)⟩
     ·have tq : decide (v < u) = false := decide_eq_false h1
      go_upto_region 16 with fail
      refine wp_region_st 9 Nothing [Is (.slice (some ad) n c1), Is (.int .i64 (k : Int)), Is (.pointer (some (ad.add k))), Is (.int .i64 v), Is (.slice (some bd) m c2), Is (.int .i64 (k : Int)), Is (.pointer (some (bd.add k))), Is (.int .i64 u), Is (.bool false)] [] (fun _ => True) (fun _ _ => false) (by kernel_rfl) (by kernel_rfl) (by kernel_rfl) (by kernel_rfl) ⟨Is.stable _, Is.stable _, Is.stable _, Is.stable _, Is.stable _, Is.stable _, Is.stable _, Is.stable _, Is.stable _, trivial⟩ trivial (fun _ _ _ _ h => h) trivial ?_ ?_
      ·refine ⟨fun u' w' d hf hR k1 k0 kM => ?_, fun u' w' d hf hR k1 k0 kM => ?_, fun u' w' d hf hR k1 k0 kM => ?_, fun u' w' d hf hR k1 k0 kM => ?_, fun u' w' d hf hR k1 k0 kM => ?_, fun u' w' d hf hR k1 k0 kM => ?_, fun u' w' d hf hR k1 k0 kM => ?_, fun u' w' d hf hR k1 k0 kM => ?_, fun u' w' d hf hR k1 k0 kM => ?_, trivial⟩
       all_goals simp only [List.take_succ_cons, List.take_zero, List.map_cons, List.map_nil, puts, Act.put, List.setIfInBounds_toArray, List.set_cons_zero, List.set_cons_succ, Nat.reduceAdd, Nat.zero_add]
       ·clear hR k1 k0 kM
        refine .inl ⟨by kernel_rfl, ?_⟩
        go_simp
        exact ⟨_, rfl, Fr.refl _ _, rfl, trivial⟩
       ·clear hR k1 k0 kM
        refine .inl ⟨by kernel_rfl, ?_⟩
        go_simp
        exact ⟨_, rfl, Fr.refl _ _, rfl, trivial⟩
       ·have h0 : u' 0 = _ := hR 0 (by kernel_rfl)
        have h1 : u' 1 = _ := hR 1 (by kernel_rfl)
        clear hR k1 k0 kM
        simp only [h0, h1]
        refine .inl ⟨by kernel_rfl, ?_⟩
        go_simp
        exact ⟨_, rfl, Fr.refl _ _, rfl, trivial⟩
       ·have h2 : u' 2 = _ := hR 2 (by kernel_rfl)
        clear hR k1 k0 kM
        simp only [h2]
        refine .inl ⟨by kernel_rfl, ?_⟩
        have q := hf.cellSome (HCA.out) (fun x => x)
        go_simp
        exact ⟨_, rfl, Fr.refl _ _, rfl, trivial⟩
       ·clear hR k1 k0 kM
        refine .inl ⟨by kernel_rfl, ?_⟩
        go_simp
        exact ⟨_, rfl, Fr.refl _ _, rfl, trivial⟩
       ·clear hR k1 k0 kM
        refine .inl ⟨by kernel_rfl, ?_⟩
        go_simp
        exact ⟨_, rfl, Fr.refl _ _, rfl, trivial⟩
       ·have h4 : u' 4 = _ := hR 4 (by kernel_rfl)
        have h5 : u' 5 = _ := hR 5 (by kernel_rfl)
        clear hR k1 k0 kM
        simp only [h4, h5]
        refine .inl ⟨by kernel_rfl, ?_⟩
        go_simp
        exact ⟨_, rfl, Fr.refl _ _, rfl, trivial⟩
       ·have h6 : u' 6 = _ := hR 6 (by kernel_rfl)
        clear hR k1 k0 kM
        simp only [h6]
        refine .inl ⟨by kernel_rfl, ?_⟩
        have q := hf.cellSome (HCB.out) (fun x => x)
        go_simp
        exact ⟨_, rfl, Fr.refl _ _, rfl, trivial⟩
       ·have h3 : u' 3 = _ := hR 3 (by kernel_rfl)
        have h7 : u' 7 = _ := hR 7 (by kernel_rfl)
        clear hR k1 k0 kM
        simp only [h3, h7]
        refine .inl ⟨by kernel_rfl, ?_⟩
        go_simp
        exact ⟨_, rfl, Fr.refl _ _, rfl, trivial⟩
      ·intro u' w' hf hR kM
       have k8 : u' 8 = _ := hR 8 (by omega)
       clear hR kM
       simp only [List.take_succ_cons, List.take_zero, List.map_cons, List.map_nil, puts, Act.put, List.setIfInBounds_toArray, List.set_cons_zero, List.set_cons_succ, List.drop_succ_cons, List.drop_zero, Nat.reduceAdd, Nat.zero_add, k8]
       have FA := Lib.hid hf
       clear hf k8
       by_cases h2 : u < v
       ·have tr : decide (u < v) = true := decide_eq_true h2
        obtain rfl : R = 1 := by rw [HR.out, HX.out, HY.out, cmpL_pre cmpZ_is, cmpL]; simp [cmpZ, h1, h2, cThen]
        clear h1 h2
        go_upto_region 18 with fail
        refine wp_region_st 9 Nothing [Is (.slice (some ad) n c1), Is (.int .i64 (k : Int)), Is (.pointer (some (ad.add k))), Is (.int .i64 v), Is (.slice (some bd) m c2), Is (.int .i64 (k : Int)), Is (.pointer (some (bd.add k))), Is (.int .i64 u), Is (.bool true)] [] (fun _ => True) (fun _ _ => false) (by kernel_rfl) (by kernel_rfl) (by kernel_rfl) (by kernel_rfl) ⟨Is.stable _, Is.stable _, Is.stable _, Is.stable _, Is.stable _, Is.stable _, Is.stable _, Is.stable _, Is.stable _, trivial⟩ trivial (fun _ _ _ _ h => h) trivial ?_ ?_
        ·refine ⟨fun u' w' d hf hR k1 k0 kM => ?_, fun u' w' d hf hR k1 k0 kM => ?_, fun u' w' d hf hR k1 k0 kM => ?_, fun u' w' d hf hR k1 k0 kM => ?_, fun u' w' d hf hR k1 k0 kM => ?_, fun u' w' d hf hR k1 k0 kM => ?_, fun u' w' d hf hR k1 k0 kM => ?_, fun u' w' d hf hR k1 k0 kM => ?_, fun u' w' d hf hR k1 k0 kM => ?_, trivial⟩
         all_goals simp only [List.take_succ_cons, List.take_zero, List.map_cons, List.map_nil, puts, Act.put, List.setIfInBounds_toArray, List.set_cons_zero, List.set_cons_succ, Nat.reduceAdd, Nat.zero_add]
         ·clear hR k1 k0 kM
          refine .inl ⟨by kernel_rfl, ?_⟩
          go_simp
          exact ⟨_, rfl, Fr.refl _ _, rfl, trivial⟩
         ·clear hR k1 k0 kM
          refine .inl ⟨by kernel_rfl, ?_⟩
          go_simp
          exact ⟨_, rfl, Fr.refl _ _, rfl, trivial⟩
         ·have h0 : u' 0 = _ := hR 0 (by kernel_rfl)
          have h1 : u' 1 = _ := hR 1 (by kernel_rfl)
          clear hR k1 k0 kM
          simp only [h0, h1]
          refine .inl ⟨by kernel_rfl, ?_⟩
          go_simp
          exact ⟨_, rfl, Fr.refl _ _, rfl, trivial⟩
         ·have h2 : u' 2 = _ := hR 2 (by kernel_rfl)
          clear hR k1 k0 kM
          simp only [h2]
          refine .inl ⟨by kernel_rfl, ?_⟩
          have q := hf.cellSome (FA.out.cellSome HCA.out (fun x => x)) (fun x => x)
          go_simp
          exact ⟨_, rfl, Fr.refl _ _, rfl, trivial⟩
         ·clear hR k1 k0 kM
          refine .inl ⟨by kernel_rfl, ?_⟩
          go_simp
          exact ⟨_, rfl, Fr.refl _ _, rfl, trivial⟩
         ·clear hR k1 k0 kM
          refine .inl ⟨by kernel_rfl, ?_⟩
          go_simp
          exact ⟨_, rfl, Fr.refl _ _, rfl, trivial⟩
         ·have h4 : u' 4 = _ := hR 4 (by kernel_rfl)
          have h5 : u' 5 = _ := hR 5 (by kernel_rfl)
          clear hR k1 k0 kM
          simp only [h4, h5]
          refine .inl ⟨by kernel_rfl, ?_⟩
          go_simp
          exact ⟨_, rfl, Fr.refl _ _, rfl, trivial⟩
         ·have h6 : u' 6 = _ := hR 6 (by kernel_rfl)
          clear hR k1 k0 kM
          simp only [h6]
          refine .inl ⟨by kernel_rfl, ?_⟩
          have q := hf.cellSome (FA.out.cellSome HCB.out (fun x => x)) (fun x => x)
          go_simp
          exact ⟨_, rfl, Fr.refl _ _, rfl, trivial⟩
         ·have h3 : u' 3 = _ := hR 3 (by kernel_rfl)
          have h7 : u' 7 = _ := hR 7 (by kernel_rfl)
          clear hR k1 k0 kM
          simp only [h3, h7]
          refine .inl ⟨by kernel_rfl, ?_⟩
          go_simp
          exact ⟨_, rfl, Fr.refl _ _, rfl, trivial⟩
        ·intro u' w' hf hR kM
         have k8 : u' 8 = _ := hR 8 (by omega)
         clear hR kM
         simp only [List.take_succ_cons, List.take_zero, List.map_cons, List.map_nil, puts, Act.put, List.setIfInBounds_toArray, List.set_cons_zero, List.set_cons_succ, List.drop_succ_cons, List.drop_zero, Nat.reduceAdd, Nat.zero_add, k8]
         have FA2 := Lib.hid (FA.out.trans hf)
         clear hf k8
         go_wp2
         go_ret
         exact ⟨rfl, F2.out.trans (FW.out.trans FA2.out)⟩
       ·have tr : decide (u < v) = false := decide_eq_false h2
        have HE : Hid (v = u) := by simp only [Hid]; omega
        clear h1 h2
        go_upto_region 18 with fail
        refine wp_region_st 9 Nothing [Is (.slice (some ad) n c1), Is (.int .i64 (k : Int)), Is (.pointer (some (ad.add k))), Is (.int .i64 v), Is (.slice (some bd) m c2), Is (.int .i64 (k : Int)), Is (.pointer (some (bd.add k))), Is (.int .i64 u), Is (.bool false)] [] (fun _ => True) (fun _ _ => false) (by kernel_rfl) (by kernel_rfl) (by kernel_rfl) (by kernel_rfl) ⟨Is.stable _, Is.stable _, Is.stable _, Is.stable _, Is.stable _, Is.stable _, Is.stable _, Is.stable _, Is.stable _, trivial⟩ trivial (fun _ _ _ _ h => h) trivial ?_ ?_
        ·refine ⟨fun u' w' d hf hR k1 k0 kM => ?_, fun u' w' d hf hR k1 k0 kM => ?_, fun u' w' d hf hR k1 k0 kM => ?_, fun u' w' d hf hR k1 k0 kM => ?_, fun u' w' d hf hR k1 k0 kM => ?_, fun u' w' d hf hR k1 k0 kM => ?_, fun u' w' d hf hR k1 k0 kM => ?_, fun u' w' d hf hR k1 k0 kM => ?_, fun u' w' d hf hR k1 k0 kM => ?_, trivial⟩
         all_goals simp only [List.take_succ_cons, List.take_zero, List.map_cons, List.map_nil, puts, Act.put, List.setIfInBounds_toArray, List.set_cons_zero, List.set_cons_succ, Nat.reduceAdd, Nat.zero_add]
         ·clear hR k1 k0 kM
          refine .inl ⟨by kernel_rfl, ?_⟩
          go_simp
          exact ⟨_, rfl, Fr.refl _ _, rfl, trivial⟩
         ·clear hR k1 k0 kM
          refine .inl ⟨by kernel_rfl, ?_⟩
          go_simp
          exact ⟨_, rfl, Fr.refl _ _, rfl, trivial⟩
         ·have h0 : u' 0 = _ := hR 0 (by kernel_rfl)
          have h1 : u' 1 = _ := hR 1 (by kernel_rfl)
          clear hR k1 k0 kM
          simp only [h0, h1]
          refine .inl ⟨by kernel_rfl, ?_⟩
          go_simp
          exact ⟨_, rfl, Fr.refl _ _, rfl, trivial⟩
         ·have h2 : u' 2 = _ := hR 2 (by kernel_rfl)
          clear hR k1 k0 kM
          simp only [h2]
          refine .inl ⟨by kernel_rfl, ?_⟩
          have q := hf.cellSome (FA.out.cellSome HCA.out (fun x => x)) (fun x => x)
          go_simp
          exact ⟨_, rfl, Fr.refl _ _, rfl, trivial⟩
         ·clear hR k1 k0 kM
          refine .inl ⟨by kernel_rfl, ?_⟩
          go_simp
          exact ⟨_, rfl, Fr.refl _ _, rfl, trivial⟩
         ·clear hR k1 k0 kM
          refine .inl ⟨by kernel_rfl, ?_⟩
          go_simp
          exact ⟨_, rfl, Fr.refl _ _, rfl, trivial⟩
         ·have h4 : u' 4 = _ := hR 4 (by kernel_rfl)
          have h5 : u' 5 = _ := hR 5 (by kernel_rfl)
          clear hR k1 k0 kM
          simp only [h4, h5]
          refine .inl ⟨by kernel_rfl, ?_⟩
          go_simp
          exact ⟨_, rfl, Fr.refl _ _, rfl, trivial⟩
         ·have h6 : u' 6 = _ := hR 6 (by kernel_rfl)
          clear hR k1 k0 kM
          simp only [h6]
          refine .inl ⟨by kernel_rfl, ?_⟩
          have q := hf.cellSome (FA.out.cellSome HCB.out (fun x => x)) (fun x => x)
          go_simp
          exact ⟨_, rfl, Fr.refl _ _, rfl, trivial⟩
         ·have h3 : u' 3 = _ := hR 3 (by kernel_rfl)
          have h7 : u' 7 = _ := hR 7 (by kernel_rfl)
          clear hR k1 k0 kM
          simp only [h3, h7]
          refine .inl ⟨by kernel_rfl, ?_⟩
          go_simp
          exact ⟨_, rfl, Fr.refl _ _, rfl, trivial⟩
        ·intro u' w' hf hR kM
         have k8 : u' 8 = _ := hR 8 (by omega)
         clear hR kM
         simp only [List.take_succ_cons, List.take_zero, List.map_cons, List.map_nil, puts, Act.put, List.setIfInBounds_toArray, List.set_cons_zero, List.set_cons_succ, List.drop_succ_cons, List.drop_zero, Nat.reduceAdd, Nat.zero_add, k8]
         have FA2 := Lib.hid (FA.out.trans hf)
         clear hf k8
         go_wp2
         go_roundw
         case rel => exact ⟨k + 1, by omega, by omega, ⟨p ++ [v], r, t, by rw [List.length_append, HP.out]; rfl, by rw [HX.out]; simp, by rw [HY.out, HE.out]; simp⟩, by go_num, FW.out.trans FA2.out⟩
         case measure => simp [intOf]; omega
    ·have hRe : Hid (R = cmpL cmpZ a' b') := by simp only [Hid]; rw [HR.out, HX.out, HY.out, cmpL_pre cmpZ_is]
     have hla : Hid (n = k + a'.length) := by have h := LN.out; rw [HX.out, List.length_append, HP.out] at h; exact h
     have hlb : Hid (m = k + b'.length) := by have h := LM.out; rw [HY.out, List.length_append, HP.out] at h; exact h
     by_cases hn : k = n
     ·subst hn
      have hI : ¬ (k : Int) < (k : Int) := by omega
      obtain rfl : a' = [] := List.length_eq_zero_iff.1 (by have := hla.out; omega)
      by_cases hm : k < m
      ·have hJ : (k : Int) < (m : Int) := by omega
       obtain rfl : R = -1 := by
        rw [hRe.out]
        cases b' with
        | nil => have := hlb.out; simp at this; omega
        | cons u t => rfl
       go_wp2
       go_ret
       exact ⟨rfl, F2.out.trans FW.out⟩
      ·obtain rfl : k = m := by omega
       obtain rfl : b' = [] := List.length_eq_zero_iff.1 (by have := hlb.out; omega)
       obtain rfl : R = 0 := hRe.out
       go_wp2
       go_ret
       exact ⟨rfl, F2.out.trans FW.out⟩
     ·have hI : (k : Int) < (n : Int) := by omega
      obtain rfl : k = m := by omega
      have hJ : ¬ (k : Int) < (k : Int) := by omega
      have hJ2 : ¬ (n : Int) < (k : Int) := by omega
      obtain rfl : b' = [] := List.length_eq_zero_iff.1 (by have := hlb.out; omega)
      obtain rfl : R = 1 := by
       rw [hRe.out]
       cases a' with
       | nil => have := hla.out; simp at this; omega
       | cons u t => rfl
      clear hlt hn
      go_wp2
      go_ret
      exact ⟨rfl, F2.out.trans FW.out⟩
set_option maxRecDepth 100000 in
set_option maxHeartbeats 4000000 in
theorem rCompare_any (n m : NameV) (w : World) (hn : n.owner.size ≤ 1099511627776) (hm : m.owner.size ≤ 1099511627776) : Calls Tryz.prog 103 #[.agg n.cells.toArray, .agg m.cells.toArray] w (Same' w (.int .i64 (cmpN n m))) := by
 have CO := Lib.hid (fun w a b => rOrder_any a b w)
 have C1 := Lib.hid (fun w => rCompare3_any n.owner m.owner w hn hm)
 have HN : Hid (cmpN n m = cThen (cmpZ n.kind m.kind) (cThen (cmpO n.owner m.owner) (cThen (cmpZ n.number m.number) (cThen (cmpZ n.index m.index) (cmpB n.text m.text))))) := rfl
 have HC4 := Lib.hid (cmpB_less n.text m.text)
 generalize cmpN n m = R at *
 generalize cmpO n.owner m.owner = z1 at *
 clear hn hm
 go_enter Tryz.func103, Tryz.ntmps103
 go_wp2_with (refine wpList_boxBlk rfl 57 (.tmp 0) rfl n.cells.toArray rfl ?_)
 intro w1 n1
 have N1 := Lib.hid n1
 clear n1
 generalize hga : w.heap.size = ga at *
 have HA0 : Hid (Blk w1 ga 57 n.cells.toArray) := by have h := N1.out.blk; rw [hga] at h; exact h
 clear hga
 go_wp2_with (refine wpList_boxBlk rfl 57 (.tmp 1) rfl m.cells.toArray rfl ?_)
 intro w2 n2
 have N2 := Lib.hid n2
 clear n2
 generalize hgb : w1.heap.size = gb at *
 have Hgb : Hid (Blk w2 gb 57 m.cells.toArray) := by have h := N2.out.blk; rw [hgb] at h; exact h
 clear hgb
 have Hga := Lib.hid (HA0.out.fr N2.out.fr (fun x => x))
 have F2 := Lib.hid (N1.out.fr.trans N2.out.fr)
 have ca0 : w2.cell? ⟨ga, 0, none⟩ = some (.int .i64 n.kind) := Hga.out.cell 0
 have cb0 : w2.cell? ⟨gb, 0, none⟩ = some (.int .i64 m.kind) := Hgb.out.cell 0
 have ca1 : w2.cell? ⟨ga, 1, none⟩ = some (.string n.owner) := Hga.out.cell 1
 have cb1 : w2.cell? ⟨gb, 1, none⟩ = some (.string m.owner) := Hgb.out.cell 1
 clear N1 N2 HA0
 by_cases h0 : n.kind = m.kind
 ·have t0 : (n.kind == m.kind) = true := by rw [beq_iff_eq]; exact h0
  have HK0 : Hid (cmpZ n.kind m.kind = 0) := by simp only [Hid]; rw [h0]; exact cmpZ_is.refl _
  clear h0
  go_wp2_with fail
  refine (C1.out _).mono ?_
  rintro e w3 ⟨rfl, f3⟩
  have ca2 : w3.cell? ⟨ga, 2, none⟩ = some (.int .i64 n.number) := f3.cellSome (Hga.out.cell 2) (fun x => x)
  have cb2 : w3.cell? ⟨gb, 2, none⟩ = some (.int .i64 m.number) := f3.cellSome (Hgb.out.cell 2) (fun x => x)
  have ca3 : w3.cell? ⟨ga, 3, none⟩ = some (.int .i64 n.index) := f3.cellSome (Hga.out.cell 3) (fun x => x)
  have cb3 : w3.cell? ⟨gb, 3, none⟩ = some (.int .i64 m.index) := f3.cellSome (Hgb.out.cell 3) (fun x => x)
  have ca4 : w3.cell? ⟨ga, 4, none⟩ = some (.string n.text) := f3.cellSome (Hga.out.cell 4) (fun x => x)
  have cb4 : w3.cell? ⟨gb, 4, none⟩ = some (.string m.text) := f3.cellSome (Hgb.out.cell 4) (fun x => x)
  have F4 := Lib.hid (F2.out.trans f3)
  clear f3 ca0 cb0 ca1 cb1
  by_cases h1 : z1 = 0
  ·have HK1 := Lib.hid h1
   have t1 := beq0 h1
   clear h1
   by_cases h2 : n.number = m.number
   ·have t2 : (n.number == m.number) = true := by rw [beq_iff_eq]; exact h2
    have HK2 : Hid (cmpZ n.number m.number = 0) := by simp only [Hid]; rw [h2]; exact cmpZ_is.refl _
    clear h2
    by_cases h3 : n.index = m.index
    ·have t3 : (n.index == m.index) = true := by rw [beq_iff_eq]; exact h3
     have HK3 : Hid (cmpZ n.index m.index = 0) := by simp only [Hid]; rw [h3]; exact cmpZ_is.refl _
     have hR : Hid (R = cmpB n.text m.text) := by simp only [Hid]; rw [HN.out, HK0.out, HK1.out, HK2.out, HK3.out]; rfl
     clear h3
     by_cases h4 : Op.bytesLess n.text.toList m.text.toList = true
     ·obtain rfl : R = -1 := by rw [hR.out, HC4.out, if_pos h4]
      go_wp2
      go_ret
      exact ⟨rfl, F4.out⟩
     ·have h4' : Op.bytesLess n.text.toList m.text.toList = false := by simpa using h4
      by_cases e : n.text = m.text
      ·obtain rfl : R = 0 := by rw [hR.out, HC4.out, if_neg h4, if_pos e]
       have h5 : (n.text.toList == m.text.toList) = true := by rw [e]; simp
       clear e h4
       go_wp2
       go_ret
       exact ⟨rfl, F4.out⟩
      ·obtain rfl : R = 1 := by rw [hR.out, HC4.out, if_neg h4, if_neg e]
       have h5 : (n.text.toList == m.text.toList) = false := by rw [beq_eq_false_iff_ne]; exact fun h => e (toList_inj h)
       clear e h4
       go_wp2
       go_ret
       exact ⟨rfl, F4.out⟩
    ·have t3 : (n.index == m.index) = false := by rw [beq_eq_false_iff_ne]; exact h3
     have hne : Hid (cmpZ n.index m.index ≠ 0) := fun e => h3 (cmpZ_is.eq _ _ e)
     clear h3
     go_wp2_with fail
     refine (CO.out _ _ _).mono ?_
     rintro e w5 ⟨rfl, rfl⟩
     go_wp2
     go_ret
     rw [HN.out, HK0.out, HK1.out, HK2.out]
     simp only [cThen, if_true, if_neg hne.out]
     exact ⟨rfl, F4.out⟩
   ·have t2 : (n.number == m.number) = false := by rw [beq_eq_false_iff_ne]; exact h2
    have hne : Hid (cmpZ n.number m.number ≠ 0) := fun e => h2 (cmpZ_is.eq _ _ e)
    clear h2
    go_wp2_with fail
    refine (CO.out _ _ _).mono ?_
    rintro e w5 ⟨rfl, rfl⟩
    go_wp2
    go_ret
    rw [HN.out, HK0.out, HK1.out]
    simp only [cThen, if_true, if_neg hne.out]
    exact ⟨rfl, F4.out⟩
  ·have t1 := bne0 h1
   have HK1 := Lib.hid h1
   clear h1
   go_wp2
   go_ret
   rw [HN.out, HK0.out]
   simp only [cThen, if_true, if_neg HK1.out]
   exact ⟨rfl, F4.out⟩
 ·have t0 : (n.kind == m.kind) = false := by rw [beq_eq_false_iff_ne]; exact h0
  have hne : Hid (cmpZ n.kind m.kind ≠ 0) := fun e => h0 (cmpZ_is.eq _ _ e)
  clear h0
  go_wp2_with fail
  refine (CO.out _ _ _).mono ?_
  rintro e w5 ⟨rfl, rfl⟩
  go_wp2
  go_ret
  rw [HN.out]
  simp only [cThen, if_neg hne.out]
  exact ⟨rfl, F2.out⟩
end Go.Proofs.YtpnchdgplpdefaaGreatDoor
