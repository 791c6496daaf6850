/- State: the reference's Same (written by genScf.py). -/
import Derived.Test.YtpnchdgplpdefaaDoorSbR
import Derived.Test.YtpnchdgplpdefaaDoorSbU
namespace Go.Proofs.YtpnchdgplpdefaaDoor
open Go.RowKit Go.Shelf

set_option maxRecDepth 100000 in
theorem neqE_same (x : Ent) (w : World) : (binOp .neq 54 (.agg (entC x).toArray) (.agg (entC x).toArray)).run Tryd.prog w = .ok (.bool false) w := by
  obtain ⟨⟨k, o, n, i, t⟩, v⟩ := x
  simp only [entC, NameV.cells, List.cons_append, List.nil_append]
  go_simp
set_option maxRecDepth 100000 in
theorem neqE_ne (x y : Ent) (h : x ≠ y) (w : World) : (binOp .neq 54 (.agg (entC x).toArray) (.agg (entC y).toArray)).run Tryd.prog w = .ok (.bool true) w := by
  obtain ⟨⟨k, o, n, i, t⟩, v⟩ := x
  obtain ⟨⟨k', o', n', i', t'⟩, v'⟩ := y
  simp only [entC, NameV.cells, List.cons_append, List.nil_append]
  go_simp
  intro h1 h2 h3 h4 h5 h6
  exact h (by rw [h1, toList_inj h2, h3, h4, toList_inj h5, toList_inj h6])
def SInv (w : World) (LA LB : List Ent) (n : Nat) (i : Value) (wr : World) : Prop := ∃ k : Nat, k ≤ n ∧ i = .int .i64 (k : Int) ∧ (∀ j, j < k → LA[j]? = LB[j]?) ∧ Fr Nothing w wr

set_option maxRecDepth 100000 in
set_option maxHeartbeats 4000000 in
theorem rSame_any (LA LB : List Ent) (A B : Option Addr) (n m cA cB : Nat) (SA SB : Nat → Prop) (w : World) (hA : EL w SA A n LA) (hB : EL w SB B m LB) (hn : n ≤ 60000) (hm : m ≤ 60000) (E : Bool) (hE : E = true ↔ LA = LB) :
    Calls Tryd.prog 28 #[.slice A n cA, .slice B m cB] w (Same' w (.bool E)) := by
  have HA := Lib.hid hA
  have HB := Lib.hid hB
  have HE := Lib.hid hE
  have HLA : Hid (LA.length = n) := hA.len
  have HLB : Hid (LB.length = m) := hB.len
  clear hA hB hE
  go_enter Tryd.func28, Tryd.ntmps28
  by_cases hnm : n = m
  · subst hnm
    have HC0 : Hid (SInv w LA LB n (.int .i64 0) w) := ⟨0, by omega, rfl, (fun j hj => by omega), Fr.refl _ _⟩
    go_wp2
    go_loopw [5] (fun i wr => SInv w LA LB n i wr) (fun i _ => n - (intOf i).toNat)
    case atStart => exact HC0.out
    case round =>
      obtain ⟨k, hk, rfl, hP, hF⟩ := hrel
      have FR := Lib.hid hF
      have HP := Lib.hid hP
      clear hF hP HC0
      by_cases hlt : k < n
      · have hI : (k : Int) < (n : Int) := by omega
        have hI0 : (0 : Int) ≤ (k : Int) := by omega
        have t0 : decide ((k : Int) < (n : Int)) = true := decide_eq_true hI
        obtain ⟨ad, x, rfl, hx, hcx⟩ := (HA.out.fr0 FR.out).at_ hlt
        obtain ⟨bd, y, rfl, hy, hcy⟩ := (HB.out.fr0 FR.out).at_ hlt
        have HX := Lib.hid hcx
        have HY := Lib.hid hcy
        have GX := Lib.hid hx
        have GY := Lib.hid hy
        clear hcx hcy hx hy
        by_cases hxy : x = y
        · have HXY : Hid (∀ w, (binOp .neq 54 (.agg (entC x).toArray) (.agg (entC y).toArray)).run Tryd.prog w = .ok (.bool false) w) := fun w => by rw [← hxy]; exact neqE_same x w
          have HEQ := Lib.hid hxy
          clear hxy
          go_upto_region 6 with fail
          refine wp_region_st 9 Nothing [Is (.slice (some ad) n cA), Is (.int .i64 (k : Int)), Is (.pointer (some (ad.add (k * 6)))), Is (.agg (entC x).toArray), Is (.slice (some bd) n cB), Is (.int .i64 (k : Int)), Is (.pointer (some (bd.add (k * 6)))), Is (.agg (entC y).toArray), Is (.bool false)] [] (fun _ => True) (fun _ _ => false) (by kernel_rfl) (by kernel_rfl) (by kernel_rfl) (by kernel_rfl) ⟨Is.stable _, Is.stable _, Is.stable _, Is.stable _, Is.stable _, Is.stable _, Is.stable _, Is.stable _, Is.stable _, trivial⟩ trivial (fun _ _ _ _ h => h) trivial ?_ ?_
          · refine ⟨?a11_0, ?a11_1, ?a11_2, ?a11_3, ?a11_4, ?a11_5, ?a11_6, ?a11_7, ?a11_8, trivial⟩
            all_goals intro u w' d hf hR k1 k0 kM
            all_goals simp only [List.take_succ_cons, List.take_zero, List.map_cons, List.map_nil, puts, Act.put, List.setIfInBounds_toArray, List.set_cons_zero, List.set_cons_succ, Nat.reduceAdd, Nat.zero_add]
            case' a11_2 => simp only [show u 0 = _ from hR 0 (by kernel_rfl), show u 1 = _ from hR 1 (by kernel_rfl)]
            case a11_3 =>
              simp only [show u 2 = _ from hR 2 (by kernel_rfl)]
              clear hR k1 k0 kM
              refine .inl ⟨by kernel_rfl, ?_⟩
              exact wp_load_add _ _ rfl (ad.add (k * 6)) rfl (entC x) _ (fun jj v hv => hf.cellSome (HX.out jj v hv) (fun x => x)) Tryd.underlying54 rfl infoN6 ⟨_, rfl, Fr.refl _ _, rfl, trivial⟩
            case' a11_6 => simp only [show u 4 = _ from hR 4 (by kernel_rfl), show u 5 = _ from hR 5 (by kernel_rfl)]
            case a11_7 =>
              simp only [show u 6 = _ from hR 6 (by kernel_rfl)]
              clear hR k1 k0 kM
              refine .inl ⟨by kernel_rfl, ?_⟩
              exact wp_load_add _ _ rfl (bd.add (k * 6)) rfl (entC y) _ (fun jj v hv => hf.cellSome (HY.out jj v hv) (fun x => x)) Tryd.underlying54 rfl infoN6 ⟨_, rfl, Fr.refl _ _, rfl, trivial⟩
            case a11_8 =>
              simp only [show u 3 = _ from hR 3 (by kernel_rfl), show u 7 = _ from hR 7 (by kernel_rfl)]
              clear hR k1 k0 kM
              refine .inl ⟨by kernel_rfl, ?_⟩
              exact wp_binAgg _ _ _ _ _ rfl _ _ rfl rfl Tryd.eqGuardType54 _ (HXY.out _) ⟨_, rfl, Fr.refl _ _, rfl, trivial⟩
            all_goals
              clear hR k1 k0 kM
              refine .inl ⟨by kernel_rfl, ?_⟩
              go_simp
              exact ⟨_, rfl, Fr.refl _ _, rfl, trivial⟩
          · intro u w' hf hR kM
            have kz : u 8 = _ := hR 8 (by omega)
            clear hR kM
            simp only [List.take_succ_cons, List.take_zero, List.map_cons, List.map_nil, puts, Act.put, List.setIfInBounds_toArray, List.set_cons_zero, List.set_cons_succ, List.drop_succ_cons, List.drop_zero, Nat.reduceAdd, Nat.zero_add, kz]
            have HF := Lib.hid (FR.out.trans hf)
            clear hf kz
            go_wp2
            go_roundw
            case rel =>
              refine ⟨k + 1, by omega, by go_num, fun j hj => ?_, HF.out⟩
              by_cases hjk : j < k
              · exact HP.out j hjk
              · obtain rfl : j = k := by omega
                rw [GX.out, GY.out, HEQ.out]
            case measure => simp [intOf]; omega
        · have HXY : Hid (∀ w, (binOp .neq 54 (.agg (entC x).toArray) (.agg (entC y).toArray)).run Tryd.prog w = .ok (.bool true) w) := fun w => neqE_ne x y hxy w
          obtain rfl : E = false := Bool.eq_false_iff.2 (fun h => hxy (by have h1 := GX.out; rw [HE.out.1 h, GY.out] at h1; exact (Option.some.inj h1).symm))
          clear hxy
          go_upto_region 6 with fail
          refine wp_region_st 9 Nothing [Is (.slice (some ad) n cA), Is (.int .i64 (k : Int)), Is (.pointer (some (ad.add (k * 6)))), Is (.agg (entC x).toArray), Is (.slice (some bd) n cB), Is (.int .i64 (k : Int)), Is (.pointer (some (bd.add (k * 6)))), Is (.agg (entC y).toArray), Is (.bool true)] [] (fun _ => True) (fun _ _ => false) (by kernel_rfl) (by kernel_rfl) (by kernel_rfl) (by kernel_rfl) ⟨Is.stable _, Is.stable _, Is.stable _, Is.stable _, Is.stable _, Is.stable _, Is.stable _, Is.stable _, Is.stable _, trivial⟩ trivial (fun _ _ _ _ h => h) trivial ?_ ?_
          · refine ⟨?a12_0, ?a12_1, ?a12_2, ?a12_3, ?a12_4, ?a12_5, ?a12_6, ?a12_7, ?a12_8, trivial⟩
            all_goals intro u w' d hf hR k1 k0 kM
            all_goals simp only [List.take_succ_cons, List.take_zero, List.map_cons, List.map_nil, puts, Act.put, List.setIfInBounds_toArray, List.set_cons_zero, List.set_cons_succ, Nat.reduceAdd, Nat.zero_add]
            case' a12_2 => simp only [show u 0 = _ from hR 0 (by kernel_rfl), show u 1 = _ from hR 1 (by kernel_rfl)]
            case a12_3 =>
              simp only [show u 2 = _ from hR 2 (by kernel_rfl)]
              clear hR k1 k0 kM
              refine .inl ⟨by kernel_rfl, ?_⟩
              exact wp_load_add _ _ rfl (ad.add (k * 6)) rfl (entC x) _ (fun jj v hv => hf.cellSome (HX.out jj v hv) (fun x => x)) Tryd.underlying54 rfl infoN6 ⟨_, rfl, Fr.refl _ _, rfl, trivial⟩
            case' a12_6 => simp only [show u 4 = _ from hR 4 (by kernel_rfl), show u 5 = _ from hR 5 (by kernel_rfl)]
            case a12_7 =>
              simp only [show u 6 = _ from hR 6 (by kernel_rfl)]
              clear hR k1 k0 kM
              refine .inl ⟨by kernel_rfl, ?_⟩
              exact wp_load_add _ _ rfl (bd.add (k * 6)) rfl (entC y) _ (fun jj v hv => hf.cellSome (HY.out jj v hv) (fun x => x)) Tryd.underlying54 rfl infoN6 ⟨_, rfl, Fr.refl _ _, rfl, trivial⟩
            case a12_8 =>
              simp only [show u 3 = _ from hR 3 (by kernel_rfl), show u 7 = _ from hR 7 (by kernel_rfl)]
              clear hR k1 k0 kM
              refine .inl ⟨by kernel_rfl, ?_⟩
              exact wp_binAgg _ _ _ _ _ rfl _ _ rfl rfl Tryd.eqGuardType54 _ (HXY.out _) ⟨_, rfl, Fr.refl _ _, rfl, trivial⟩
            all_goals
              clear hR k1 k0 kM
              refine .inl ⟨by kernel_rfl, ?_⟩
              go_simp
              exact ⟨_, rfl, Fr.refl _ _, rfl, trivial⟩
          · intro u w' hf hR kM
            have kz : u 8 = _ := hR 8 (by omega)
            clear hR kM
            simp only [List.take_succ_cons, List.take_zero, List.map_cons, List.map_nil, puts, Act.put, List.setIfInBounds_toArray, List.set_cons_zero, List.set_cons_succ, List.drop_succ_cons, List.drop_zero, Nat.reduceAdd, Nat.zero_add, kz]
            have HF := Lib.hid (FR.out.trans hf)
            clear hf kz
            go_wp2
            go_ret
            exact ⟨rfl, HF.out⟩
      · obtain rfl : k = n := by omega
        have t0 : decide ((k : Int) < (k : Int)) = false := decide_eq_false (by omega)
        obtain rfl : E = true := HE.out.2 (List.ext_getElem? (fun j => by
          by_cases hj : j < k
          · exact HP.out j hj
          · rw [List.getElem?_eq_none (by have := HLA.out; omega), List.getElem?_eq_none (by have := HLB.out; omega)]))
        go_wp2
        go_ret
        exact ⟨rfl, FR.out⟩
  · obtain rfl : E = false := Bool.eq_false_iff.2 (fun h => hnm (by have h1 := HLA.out; have h2 := HLB.out; rw [HE.out.1 h] at h1; omega))
    have t9 : ((n : Int) != (m : Int)) = true := by rw [bne_iff_ne]; omega
    have t8 : ((n : Int) == (m : Int)) = false := beq_eq_false_iff_ne.2 (by omega)
    go_wp2
    go_ret
    exact ⟨rfl, Fr.refl _ _⟩
end Go.Proofs.YtpnchdgplpdefaaDoor
