/- State: the reference's Diff (written by genSbV.py). -/
import Derived.Test.YtpnchdgplpdefaaDoorSbU
import Derived.Test.YtpnchdgplpdefaaDoorSbG
namespace Go.Proofs.YtpnchdgplpdefaaDoor
open Go.RowKit Go.Shelf

theorem builtCs (y : Ent) : Tryd.prog.built 42 [(0, .agg y.1.cells.toArray), (1, .string y.2)] = some (setC y).cells.toArray := by kernel_rfl
theorem builtCd (x : Ent) : Tryd.prog.built 42 [(0, .agg x.1.cells.toArray), (2, .bool true)] = some (dropC x).cells.toArray := by kernel_rfl
def RDiffed (w : World) (D : List CV) (e : Ending) (w' : World) : Prop := ∃ v, e = .returned v ∧ Grew 42 7 w (.slice none 0 0) w' v D.length (D.flatMap CV.cells)
def RDInv (w : World) (LA LB : List Ent) (D : List CV) (NA NB : Nat) (cs i k : Value) (wr : World) : Prop := ∃ (a b : Nat) (done : List CV), a ≤ NA ∧ b ≤ NB ∧ i = .int .i64 (a : Int) ∧ k = .int .i64 (b : Int) ∧ done ++ diffL (LA.drop a) (LB.drop b) = D ∧
  Grew 42 7 w (.slice none 0 0) wr cs done.length (done.flatMap CV.cells)

set_option maxRecDepth 100000 in
set_option maxHeartbeats 8000000 in
theorem rDiff_any (LA LB : List Ent) (A B : Option Addr) (NA cA NB cB : Nat) (SA SB : Nat → Prop) (w : World) (hA : EL w SA A NA LA) (hB : EL w SB B NB LB) (hNA : NA ≤ 60000) (hNB : NB ≤ 60000) (hoA : OwnS LA) (hoB : OwnS LB) :
    Calls Tryd.prog 24 #[.slice A NA cA, .slice B NB cB] w (RDiffed w (diffL LA LB)) := by
  obtain ⟨ic, hic, hzc, hc1, hc2⟩ := info_parts zinfoC
  have gc1 : Hid (¬ 1 * ic.size > 2 ^ 24) := by simp only [Hid]; rw [hc1]; omega
  have gc2 : Hid (¬ 1 * ic.size = 0) := by simp only [Hid]; rw [hc1]; omega
  have gc3 : Hid (∀ c : CV, Instr.fill (fun i => some (i * ic.size, ic.size)) ((Array.range (1 * ic.size)).map (zeroC.cells[· % zeroC.cells.size]!)) [(0, .agg c.cells.toArray)] = some c.cells.toArray) := fun c => by rw [hc1]; exact fill_seven _ _ rfl (by simp [zeroC, Value.cells])
  have HA := Lib.hid hA
  have HB := Lib.hid hB
  have HOA := Lib.hid hoA
  have HOB := Lib.hid hoB
  have HLA : Hid (LA.length = NA) := hA.len
  have HLB : Hid (LB.length = NB) := hB.len
  have HDL : Hid ((diffL LA LB).length ≤ 120000) := by have := diff_length LA LB; have := hA.len; have := hB.len; simp only [Hid]; omega
  obtain ⟨D, hD0⟩ : ∃ D, diffL LA LB = D := ⟨_, rfl⟩
  rw [hD0] at HDL
  rw [hD0]
  have HC0 : Hid (RDInv w LA LB D NA NB (.slice none 0 0) (.int .i64 0) (.int .i64 0) w) := ⟨0, 0, [], by omega, by omega, rfl, rfl, by rw [List.drop_zero, List.drop_zero, hD0]; rfl, Grew.start ⟨rfl, .inl ⟨rfl, rfl⟩⟩⟩
  clear hA hB hoA hoB hD0
  go_enter Tryd.func24, Tryd.ntmps24
  go_wp2
  go_loopw [5, 6, 7] (fun cs i k wr => RDInv w LA LB D NA NB cs i k wr) (fun _ i k _ => (NA - (intOf i).toNat) + (NB - (intOf k).toNat))
  case atStart => exact HC0.out
  case round =>
    obtain ⟨a, b, done, ha, hb, rfl, rfl, hD, hG⟩ := hrel
    have KG := Lib.hid hG
    obtain ⟨A5, n5, c5, rfl, H5, _⟩ := own_slice hG.own
    obtain rfl : n5 = done.length := H5.out
    have HD := Lib.hid hD
    have DL : Hid (done.length ≤ 120000) := by
      have h := HDL.out
      rw [← hD, List.length_append] at h
      simp only [Hid]
      omega
    have FW : Hid (Fr Nothing w wr) := hG.fr0
    clear hG hD H5 HC0
    by_cases hab : a < NA
    · have ta : decide ((a : Int) < (NA : Int)) = true := decide_eq_true (by omega)
      have ea : ((a : Int) == (NA : Int)) = false := beq_eq_false_iff_ne.2 (by omega)
      have ia : (a : Int) < (NA : Int) := by omega
      have ia0 : (0 : Int) ≤ (a : Int) := by omega
      obtain ⟨ad, x, rfl, hx, hcx⟩ := (HA.out.fr0 FW.out).at_ hab
      have HX := Lib.hid hcx
      have GX := Lib.hid hx
      clear hcx hx
      by_cases hbb : b < NB
      · have tb : decide ((b : Int) < (NB : Int)) = true := decide_eq_true (by omega)
        have eb : ((b : Int) == (NB : Int)) = false := beq_eq_false_iff_ne.2 (by omega)
        have ib : (b : Int) < (NB : Int) := by omega
        have ib0 : (0 : Int) ≤ (b : Int) := by omega
        obtain ⟨bd, y, rfl, hy, hcy⟩ := (HB.out.fr0 FW.out).at_ hbb
        have HY := Lib.hid hcy
        have GY := Lib.hid hy
        clear hcy hy
        obtain ⟨q, hq⟩ : ∃ q, cmpN x.1 y.1 = q := ⟨_, rfl⟩
        have CQ : Hid (∀ w', Calls Tryd.prog 46 #[.agg x.1.cells.toArray, .agg y.1.cells.toArray] w' (Same' w' (.int .i64 q))) := fun w' => by
          rw [← hq]
          exact rCompare_any x.1 y.1 w' (HOA.out x (List.mem_of_getElem? GX.out)) (HOB.out y (List.mem_of_getElem? GY.out))
        have HQ := Lib.hid hq
        clear hq
        by_cases hl : q < 0
        · have tl : decide (q < 0) = true := decide_eq_true hl
          have HST := Lib.hid (diff_lt GX.out (.inr ⟨y, GY.out, by rw [HQ.out]; exact hl⟩))
          have BD := Lib.hid (builtCd x)
          go_upto_region 8 with fail
          refine wp_region_st 25 Nothing [Is (.int .i64 (b : Int)), Is (.slice (some bd) NB cB), Is (.int .i64 (NB : Nat)), Is (.bool false), Is (.bool false), Is (.int .i64 (a : Int)), Is (.slice (some ad) NA cA), Is (.int .i64 (NA : Nat)), Is (.bool true), Is (.bool true), Is (.slice (some ad) NA cA), Is (.int .i64 (a : Int)), Is (.pointer (some (ad.add (a * 6)))), Is (.pointer (some (ad.add (a * 6)))), Is (.agg x.1.cells.toArray), Is (.slice (some bd) NB cB), Is (.int .i64 (b : Int)), Is (.pointer (some (bd.add (b * 6)))), Is (.pointer (some (bd.add (b * 6)))), Is (.agg y.1.cells.toArray), Is (.int .i64 q), Is (.bool true), Is (.bool true), Is (.bool true), Is (.bool true)] [] (fun _ => True) (fun _ _ => false) (by kernel_rfl) (by kernel_rfl) (by kernel_rfl) (by kernel_rfl) ⟨Is.stable _, Is.stable _, Is.stable _, Is.stable _, Is.stable _, Is.stable _, Is.stable _, Is.stable _, Is.stable _, Is.stable _, Is.stable _, Is.stable _, Is.stable _, Is.stable _, Is.stable _, Is.stable _, Is.stable _, Is.stable _, Is.stable _, Is.stable _, Is.stable _, Is.stable _, Is.stable _, Is.stable _, Is.stable _, trivial⟩ trivial (fun _ _ _ _ h => h) trivial ?_ ?_
          · refine ⟨?a11_0, ?a11_1, ?a11_2, ?a11_3, ?a11_4, ?a11_5, ?a11_6, ?a11_7, ?a11_8, ?a11_9, ?a11_10, ?a11_11, ?a11_12, ?a11_13, ?a11_14, ?a11_15, ?a11_16, ?a11_17, ?a11_18, ?a11_19, ?a11_20, ?a11_21, ?a11_22, ?a11_23, ?a11_24, trivial⟩
            all_goals intro u w' d hf hR k1 k0 kM
            all_goals simp only [List.take_succ_cons, List.take_zero, List.map_cons, List.map_nil, puts, Act.put, List.setIfInBounds_toArray, List.set_cons_zero, List.set_cons_succ, Nat.reduceAdd, Nat.zero_add]
            case' a11_2 => simp only [show u 1 = _ from hR 1 (by kernel_rfl)]
            case' a11_3 => simp only [show u 0 = _ from hR 0 (by kernel_rfl), show u 2 = _ from hR 2 (by kernel_rfl)]
            case' a11_4 => simp only [show u 3 = _ from hR 3 (by kernel_rfl)]
            case' a11_5 => simp only [show u 4 = _ from hR 4 (by kernel_rfl)]
            case' a11_6 => simp only [show u 4 = _ from hR 4 (by kernel_rfl)]
            case' a11_7 => simp only [show u 6 = _ from hR 6 (by kernel_rfl), show u 4 = _ from hR 4 (by kernel_rfl)]
            case' a11_8 => simp only [show u 5 = _ from hR 5 (by kernel_rfl), show u 7 = _ from hR 7 (by kernel_rfl), show u 4 = _ from hR 4 (by kernel_rfl)]
            case' a11_9 => simp only [show u 8 = _ from hR 8 (by kernel_rfl), show u 4 = _ from hR 4 (by kernel_rfl)]
            case' a11_10 => simp only [show u 9 = _ from hR 9 (by kernel_rfl)]
            case' a11_11 => simp only [show u 9 = _ from hR 9 (by kernel_rfl)]
            case' a11_12 => simp only [show u 10 = _ from hR 10 (by kernel_rfl), show u 11 = _ from hR 11 (by kernel_rfl), show u 9 = _ from hR 9 (by kernel_rfl)]
            case' a11_13 => simp only [show u 12 = _ from hR 12 (by kernel_rfl), show u 9 = _ from hR 9 (by kernel_rfl)]
            case a11_14 =>
              simp only [show u 13 = _ from hR 13 (by kernel_rfl), show u 9 = _ from hR 9 (by kernel_rfl)]
              clear hR k1 k0 kM
              refine .inl ⟨by kernel_rfl, ?_⟩
              exact wp_load_add _ _ rfl (ad.add (a * 6)) rfl x.1.cells _ (fun jj v hv => hf.cellSome (HX.out jj v (by rw [entC, List.getElem?_append_left (List.getElem?_eq_some_iff.1 hv).1]; exact hv)) (fun x => x)) Tryd.underlying40 rfl infoN ⟨_, rfl, Fr.refl _ _, rfl, trivial⟩
            case' a11_15 => simp only [show u 9 = _ from hR 9 (by kernel_rfl)]
            case' a11_16 => simp only [show u 9 = _ from hR 9 (by kernel_rfl)]
            case' a11_17 => simp only [show u 15 = _ from hR 15 (by kernel_rfl), show u 16 = _ from hR 16 (by kernel_rfl), show u 9 = _ from hR 9 (by kernel_rfl)]
            case' a11_18 => simp only [show u 17 = _ from hR 17 (by kernel_rfl), show u 9 = _ from hR 9 (by kernel_rfl)]
            case a11_19 =>
              simp only [show u 18 = _ from hR 18 (by kernel_rfl), show u 9 = _ from hR 9 (by kernel_rfl)]
              clear hR k1 k0 kM
              refine .inl ⟨by kernel_rfl, ?_⟩
              exact wp_load_add _ _ rfl (bd.add (b * 6)) rfl y.1.cells _ (fun jj v hv => hf.cellSome (HY.out jj v (by rw [entC, List.getElem?_append_left (List.getElem?_eq_some_iff.1 hv).1]; exact hv)) (fun x => x)) Tryd.underlying40 rfl infoN ⟨_, rfl, Fr.refl _ _, rfl, trivial⟩
            case a11_20 =>
              simp only [show u 14 = _ from hR 14 (by kernel_rfl), show u 19 = _ from hR 19 (by kernel_rfl), show u 9 = _ from hR 9 (by kernel_rfl)]
              clear hR k1 k0 kM
              refine .inl ⟨by kernel_rfl, ?_⟩
              go_simp
              refine (CQ.out _).mono ?_
              rintro e w4 ⟨rfl, f4⟩
              exact ⟨_, rfl, f4.weak, rfl, trivial⟩
            case' a11_21 => simp only [show u 20 = _ from hR 20 (by kernel_rfl), show u 9 = _ from hR 9 (by kernel_rfl)]
            case' a11_22 => simp only [show u 9 = _ from hR 9 (by kernel_rfl), show u 21 = _ from hR 21 (by kernel_rfl), show u 4 = _ from hR 4 (by kernel_rfl)]
            case' a11_23 => simp only [show u 4 = _ from hR 4 (by kernel_rfl), show u 22 = _ from hR 22 (by kernel_rfl)]
            case' a11_24 => simp only [show u 23 = _ from hR 23 (by kernel_rfl)]
            all_goals
              clear hR k1 k0 kM
              refine .inl ⟨by kernel_rfl, ?_⟩
              go_simp
              exact ⟨_, rfl, Fr.refl _ _, rfl, trivial⟩
          · intro u w' hf hR kM
            have kz : u 24 = _ := hR 24 (by omega)
            clear hR kM
            simp only [List.take_succ_cons, List.take_zero, List.map_cons, List.map_nil, puts, Act.put, List.setIfInBounds_toArray, List.set_cons_zero, List.set_cons_succ, List.drop_succ_cons, List.drop_zero, Nat.reduceAdd, Nat.zero_add, kz]
            have HF := Lib.hid hf
            clear hf kz
            have KG := Lib.hid (KG.out.behind HF.out)
            have HX : Hid (∀ jj v, (entC x)[jj]? = some v → w'.cell? ((ad.add (a * 6)).add jj) = some v) := fun jj v hv => HF.out.cellSome (HX.out jj v hv) (fun x => x)
            have HY : Hid (∀ jj v, (entC y)[jj]? = some v → w'.cell? ((bd.add (b * 6)).add jj) = some v) := fun jj v hv => HF.out.cellSome (HY.out jj v hv) (fun x => x)
            clear HF
            generalize w' = wr at *
            go_wp2_with (refine wpList_load_add rfl 40 (.tmp 76) rfl (ad.add (a * 6)) rfl x.1.cells _ ?hcc2 Tryd.underlying40 rfl infoN (Held.go ?hold2))
            case hcc2 => exact fun jj v hv => HX.out jj v (by rw [entC, List.getElem?_append_left (List.getElem?_eq_some_iff.1 hv).1]; exact hv)
            unfold Held
            refine wpList_built rfl 42 _ rfl (dropC x).cells.toArray _ (by simp only [List.map_toArray, List.map_cons, List.map_nil]; rfl) BD.out (Held.go ?holdb2)
            unfold Held
            refine wpList_buildSlice rfl 22 42 1 _ rfl (dropC x).cells.toArray ic zeroC Tryd.underlying22 hic hzc gc1.out gc2.out (by simp only [List.map_toArray, List.map_cons, List.map_nil]; exact gc3.out _) ?_
            refine wpList_app1 _ rfl _ _ 22 rfl 42 ic zeroC 7 80 Tryd.underlying22 hic hzc hc1 hc2 rfl (by decide) _ _ _ rfl KG.out.own 1 (dropC x).cells.toArray _ rfl rfl rfl (CV_one _) (by have := DL.out; omega) (by decide) ?_
            intro v9 w9 hG9
            have KH : Hid (Grew 42 7 w (.slice none 0 0) w9 v9 (done.length + 1) (done.flatMap CV.cells ++ (dropC x).cells)) := KG.out.trans hG9
            obtain ⟨A9, n9, c9, rfl, _, _⟩ := own_slice hG9.own
            clear hG9 KG
            go_wp2
            go_roundw
            case rel => exact ⟨a + 1, b, done ++ [dropC x], by omega, by omega, by go_num, by go_num, by rw [← HD.out, HST.out, List.append_assoc]; rfl, by rw [List.length_append, List.flatMap_append, List.flatMap_singleton]; exact KH.out⟩
            case measure => simp [intOf]; omega
        · have tl : decide (q < 0) = false := decide_eq_false hl
          by_cases hg : 0 < q
          · have tg : decide (0 < q) = true := decide_eq_true hg
            have HST := Lib.hid (diff_gt (A := LA) (i := a) GY.out (.inr ⟨x, GX.out, by rw [HQ.out]; exact hg⟩))
            have BS := Lib.hid (builtCs y)
            go_upto_region 8 with fail
            refine wp_region_st 25 Nothing [Is (.int .i64 (b : Int)), Is (.slice (some bd) NB cB), Is (.int .i64 (NB : Nat)), Is (.bool false), Is (.bool false), Is (.int .i64 (a : Int)), Is (.slice (some ad) NA cA), Is (.int .i64 (NA : Nat)), Is (.bool true), Is (.bool true), Is (.slice (some ad) NA cA), Is (.int .i64 (a : Int)), Is (.pointer (some (ad.add (a * 6)))), Is (.pointer (some (ad.add (a * 6)))), Is (.agg x.1.cells.toArray), Is (.slice (some bd) NB cB), Is (.int .i64 (b : Int)), Is (.pointer (some (bd.add (b * 6)))), Is (.pointer (some (bd.add (b * 6)))), Is (.agg y.1.cells.toArray), Is (.int .i64 q), Is (.bool false), Is (.bool false), Is (.bool false), Is (.bool false)] [] (fun _ => True) (fun _ _ => false) (by kernel_rfl) (by kernel_rfl) (by kernel_rfl) (by kernel_rfl) ⟨Is.stable _, Is.stable _, Is.stable _, Is.stable _, Is.stable _, Is.stable _, Is.stable _, Is.stable _, Is.stable _, Is.stable _, Is.stable _, Is.stable _, Is.stable _, Is.stable _, Is.stable _, Is.stable _, Is.stable _, Is.stable _, Is.stable _, Is.stable _, Is.stable _, Is.stable _, Is.stable _, Is.stable _, Is.stable _, trivial⟩ trivial (fun _ _ _ _ h => h) trivial ?_ ?_
            · refine ⟨?a12_0, ?a12_1, ?a12_2, ?a12_3, ?a12_4, ?a12_5, ?a12_6, ?a12_7, ?a12_8, ?a12_9, ?a12_10, ?a12_11, ?a12_12, ?a12_13, ?a12_14, ?a12_15, ?a12_16, ?a12_17, ?a12_18, ?a12_19, ?a12_20, ?a12_21, ?a12_22, ?a12_23, ?a12_24, trivial⟩
              all_goals intro u w' d hf hR k1 k0 kM
              all_goals simp only [List.take_succ_cons, List.take_zero, List.map_cons, List.map_nil, puts, Act.put, List.setIfInBounds_toArray, List.set_cons_zero, List.set_cons_succ, Nat.reduceAdd, Nat.zero_add]
              case' a12_2 => simp only [show u 1 = _ from hR 1 (by kernel_rfl)]
              case' a12_3 => simp only [show u 0 = _ from hR 0 (by kernel_rfl), show u 2 = _ from hR 2 (by kernel_rfl)]
              case' a12_4 => simp only [show u 3 = _ from hR 3 (by kernel_rfl)]
              case' a12_5 => simp only [show u 4 = _ from hR 4 (by kernel_rfl)]
              case' a12_6 => simp only [show u 4 = _ from hR 4 (by kernel_rfl)]
              case' a12_7 => simp only [show u 6 = _ from hR 6 (by kernel_rfl), show u 4 = _ from hR 4 (by kernel_rfl)]
              case' a12_8 => simp only [show u 5 = _ from hR 5 (by kernel_rfl), show u 7 = _ from hR 7 (by kernel_rfl), show u 4 = _ from hR 4 (by kernel_rfl)]
              case' a12_9 => simp only [show u 8 = _ from hR 8 (by kernel_rfl), show u 4 = _ from hR 4 (by kernel_rfl)]
              case' a12_10 => simp only [show u 9 = _ from hR 9 (by kernel_rfl)]
              case' a12_11 => simp only [show u 9 = _ from hR 9 (by kernel_rfl)]
              case' a12_12 => simp only [show u 10 = _ from hR 10 (by kernel_rfl), show u 11 = _ from hR 11 (by kernel_rfl), show u 9 = _ from hR 9 (by kernel_rfl)]
              case' a12_13 => simp only [show u 12 = _ from hR 12 (by kernel_rfl), show u 9 = _ from hR 9 (by kernel_rfl)]
              case a12_14 =>
                simp only [show u 13 = _ from hR 13 (by kernel_rfl), show u 9 = _ from hR 9 (by kernel_rfl)]
                clear hR k1 k0 kM
                refine .inl ⟨by kernel_rfl, ?_⟩
                exact wp_load_add _ _ rfl (ad.add (a * 6)) rfl x.1.cells _ (fun jj v hv => hf.cellSome (HX.out jj v (by rw [entC, List.getElem?_append_left (List.getElem?_eq_some_iff.1 hv).1]; exact hv)) (fun x => x)) Tryd.underlying40 rfl infoN ⟨_, rfl, Fr.refl _ _, rfl, trivial⟩
              case' a12_15 => simp only [show u 9 = _ from hR 9 (by kernel_rfl)]
              case' a12_16 => simp only [show u 9 = _ from hR 9 (by kernel_rfl)]
              case' a12_17 => simp only [show u 15 = _ from hR 15 (by kernel_rfl), show u 16 = _ from hR 16 (by kernel_rfl), show u 9 = _ from hR 9 (by kernel_rfl)]
              case' a12_18 => simp only [show u 17 = _ from hR 17 (by kernel_rfl), show u 9 = _ from hR 9 (by kernel_rfl)]
              case a12_19 =>
                simp only [show u 18 = _ from hR 18 (by kernel_rfl), show u 9 = _ from hR 9 (by kernel_rfl)]
                clear hR k1 k0 kM
                refine .inl ⟨by kernel_rfl, ?_⟩
                exact wp_load_add _ _ rfl (bd.add (b * 6)) rfl y.1.cells _ (fun jj v hv => hf.cellSome (HY.out jj v (by rw [entC, List.getElem?_append_left (List.getElem?_eq_some_iff.1 hv).1]; exact hv)) (fun x => x)) Tryd.underlying40 rfl infoN ⟨_, rfl, Fr.refl _ _, rfl, trivial⟩
              case a12_20 =>
                simp only [show u 14 = _ from hR 14 (by kernel_rfl), show u 19 = _ from hR 19 (by kernel_rfl), show u 9 = _ from hR 9 (by kernel_rfl)]
                clear hR k1 k0 kM
                refine .inl ⟨by kernel_rfl, ?_⟩
                go_simp
                refine (CQ.out _).mono ?_
                rintro e w4 ⟨rfl, f4⟩
                exact ⟨_, rfl, f4.weak, rfl, trivial⟩
              case' a12_21 => simp only [show u 20 = _ from hR 20 (by kernel_rfl), show u 9 = _ from hR 9 (by kernel_rfl)]
              case' a12_22 => simp only [show u 9 = _ from hR 9 (by kernel_rfl), show u 21 = _ from hR 21 (by kernel_rfl), show u 4 = _ from hR 4 (by kernel_rfl)]
              case' a12_23 => simp only [show u 4 = _ from hR 4 (by kernel_rfl), show u 22 = _ from hR 22 (by kernel_rfl)]
              case' a12_24 => simp only [show u 23 = _ from hR 23 (by kernel_rfl)]
              all_goals
                clear hR k1 k0 kM
                refine .inl ⟨by kernel_rfl, ?_⟩
                go_simp
                exact ⟨_, rfl, Fr.refl _ _, rfl, trivial⟩
            · intro u w' hf hR kM
              have kz : u 24 = _ := hR 24 (by omega)
              clear hR kM
              simp only [List.take_succ_cons, List.take_zero, List.map_cons, List.map_nil, puts, Act.put, List.setIfInBounds_toArray, List.set_cons_zero, List.set_cons_succ, List.drop_succ_cons, List.drop_zero, Nat.reduceAdd, Nat.zero_add, kz]
              have HF := Lib.hid hf
              clear hf kz
              have KG := Lib.hid (KG.out.behind HF.out)
              have HX : Hid (∀ jj v, (entC x)[jj]? = some v → w'.cell? ((ad.add (a * 6)).add jj) = some v) := fun jj v hv => HF.out.cellSome (HX.out jj v hv) (fun x => x)
              have HY : Hid (∀ jj v, (entC y)[jj]? = some v → w'.cell? ((bd.add (b * 6)).add jj) = some v) := fun jj v hv => HF.out.cellSome (HY.out jj v hv) (fun x => x)
              clear HF
              generalize w' = wr at *
              go_upto_region 11 with fail
              refine wp_region_st 19 Nothing [Is (.int .i64 (a : Int)), Is (.slice (some ad) NA cA), Is (.int .i64 (NA : Nat)), Is (.bool false), Is (.bool false), Is (.slice (some ad) NA cA), Is (.int .i64 (a : Int)), Is (.pointer (some (ad.add (a * 6)))), Is (.pointer (some (ad.add (a * 6)))), Is (.agg x.1.cells.toArray), Is (.slice (some bd) NB cB), Is (.int .i64 (b : Int)), Is (.pointer (some (bd.add (b * 6)))), Is (.pointer (some (bd.add (b * 6)))), Is (.agg y.1.cells.toArray), Is (.int .i64 q), Is (.bool true), Is (.bool true), Is (.bool true)] [] (fun _ => True) (fun _ _ => false) (by kernel_rfl) (by kernel_rfl) (by kernel_rfl) (by kernel_rfl) ⟨Is.stable _, Is.stable _, Is.stable _, Is.stable _, Is.stable _, Is.stable _, Is.stable _, Is.stable _, Is.stable _, Is.stable _, Is.stable _, Is.stable _, Is.stable _, Is.stable _, Is.stable _, Is.stable _, Is.stable _, Is.stable _, Is.stable _, trivial⟩ trivial (fun _ _ _ _ h => h) trivial ?_ ?_
              · refine ⟨?a13_0, ?a13_1, ?a13_2, ?a13_3, ?a13_4, ?a13_5, ?a13_6, ?a13_7, ?a13_8, ?a13_9, ?a13_10, ?a13_11, ?a13_12, ?a13_13, ?a13_14, ?a13_15, ?a13_16, ?a13_17, ?a13_18, trivial⟩
                all_goals intro u w' d hf hR k1 k0 kM
                all_goals simp only [List.take_succ_cons, List.take_zero, List.map_cons, List.map_nil, puts, Act.put, List.setIfInBounds_toArray, List.set_cons_zero, List.set_cons_succ, Nat.reduceAdd, Nat.zero_add]
                case' a13_2 => simp only [show u 1 = _ from hR 1 (by kernel_rfl)]
                case' a13_3 => simp only [show u 0 = _ from hR 0 (by kernel_rfl), show u 2 = _ from hR 2 (by kernel_rfl)]
                case' a13_4 => simp only [show u 3 = _ from hR 3 (by kernel_rfl)]
                case' a13_5 => simp only [show u 4 = _ from hR 4 (by kernel_rfl)]
                case' a13_6 => simp only [show u 4 = _ from hR 4 (by kernel_rfl)]
                case' a13_7 => simp only [show u 5 = _ from hR 5 (by kernel_rfl), show u 6 = _ from hR 6 (by kernel_rfl), show u 4 = _ from hR 4 (by kernel_rfl)]
                case' a13_8 => simp only [show u 7 = _ from hR 7 (by kernel_rfl), show u 4 = _ from hR 4 (by kernel_rfl)]
                case a13_9 =>
                  simp only [show u 8 = _ from hR 8 (by kernel_rfl), show u 4 = _ from hR 4 (by kernel_rfl)]
                  clear hR k1 k0 kM
                  refine .inl ⟨by kernel_rfl, ?_⟩
                  exact wp_load_add _ _ rfl (ad.add (a * 6)) rfl x.1.cells _ (fun jj v hv => hf.cellSome (HX.out jj v (by rw [entC, List.getElem?_append_left (List.getElem?_eq_some_iff.1 hv).1]; exact hv)) (fun x => x)) Tryd.underlying40 rfl infoN ⟨_, rfl, Fr.refl _ _, rfl, trivial⟩
                case' a13_10 => simp only [show u 4 = _ from hR 4 (by kernel_rfl)]
                case' a13_11 => simp only [show u 4 = _ from hR 4 (by kernel_rfl)]
                case' a13_12 => simp only [show u 10 = _ from hR 10 (by kernel_rfl), show u 11 = _ from hR 11 (by kernel_rfl), show u 4 = _ from hR 4 (by kernel_rfl)]
                case' a13_13 => simp only [show u 12 = _ from hR 12 (by kernel_rfl), show u 4 = _ from hR 4 (by kernel_rfl)]
                case a13_14 =>
                  simp only [show u 13 = _ from hR 13 (by kernel_rfl), show u 4 = _ from hR 4 (by kernel_rfl)]
                  clear hR k1 k0 kM
                  refine .inl ⟨by kernel_rfl, ?_⟩
                  exact wp_load_add _ _ rfl (bd.add (b * 6)) rfl y.1.cells _ (fun jj v hv => hf.cellSome (HY.out jj v (by rw [entC, List.getElem?_append_left (List.getElem?_eq_some_iff.1 hv).1]; exact hv)) (fun x => x)) Tryd.underlying40 rfl infoN ⟨_, rfl, Fr.refl _ _, rfl, trivial⟩
                case a13_15 =>
                  simp only [show u 9 = _ from hR 9 (by kernel_rfl), show u 14 = _ from hR 14 (by kernel_rfl), show u 4 = _ from hR 4 (by kernel_rfl)]
                  clear hR k1 k0 kM
                  refine .inl ⟨by kernel_rfl, ?_⟩
                  go_simp
                  refine (CQ.out _).mono ?_
                  rintro e w4 ⟨rfl, f4⟩
                  exact ⟨_, rfl, f4.weak, rfl, trivial⟩
                case' a13_16 => simp only [show u 15 = _ from hR 15 (by kernel_rfl), show u 4 = _ from hR 4 (by kernel_rfl)]
                case' a13_17 => simp only [show u 4 = _ from hR 4 (by kernel_rfl), show u 16 = _ from hR 16 (by kernel_rfl)]
                case' a13_18 => simp only [show u 17 = _ from hR 17 (by kernel_rfl)]
                all_goals
                  clear hR k1 k0 kM
                  refine .inl ⟨by kernel_rfl, ?_⟩
                  go_simp
                  exact ⟨_, rfl, Fr.refl _ _, rfl, trivial⟩
              · intro u w' hf hR kM
                have kz : u 18 = _ := hR 18 (by omega)
                clear hR kM
                simp only [List.take_succ_cons, List.take_zero, List.map_cons, List.map_nil, puts, Act.put, List.setIfInBounds_toArray, List.set_cons_zero, List.set_cons_succ, List.drop_succ_cons, List.drop_zero, Nat.reduceAdd, Nat.zero_add, kz]
                have HF := Lib.hid hf
                clear hf kz
                have KG := Lib.hid (KG.out.behind HF.out)
                have HX : Hid (∀ jj v, (entC x)[jj]? = some v → w'.cell? ((ad.add (a * 6)).add jj) = some v) := fun jj v hv => HF.out.cellSome (HX.out jj v hv) (fun x => x)
                have HY : Hid (∀ jj v, (entC y)[jj]? = some v → w'.cell? ((bd.add (b * 6)).add jj) = some v) := fun jj v hv => HF.out.cellSome (HY.out jj v hv) (fun x => x)
                clear HF
                generalize w' = wr at *
                go_upto_region 12 with fail
                refine wp_region_st 13 Nothing [Is (.slice A5 done.length c5), Is (.slice (some bd) NB cB), Is (.int .i64 (b : Int)), Is (.pointer (some (bd.add (b * 6)))), Is (.pointer (some (bd.add (b * 6)))), Is (.agg y.1.cells.toArray), Is (.slice (some bd) NB cB), Is (.int .i64 (b : Int)), Is (.pointer (some (bd.add (b * 6)))), Is (.pointer (some { block := (bd.add (b * 6)).block, off := (bd.add (b * 6)).off + 5 })), Is (.string y.2), Is (.agg (setC y).cells.toArray), (fun zv zW => ∃ g, zv = .slice (some ⟨g, 0, none⟩) 1 1 ∧ Rd zW (fun _ => True) 7 (some ⟨g, 0, none⟩) 1 (setC y).cells)] [] (fun _ => True) (fun _ _ => false) (by kernel_rfl) (by kernel_rfl) (by kernel_rfl) (by kernel_rfl) ⟨Is.stable _, Is.stable _, Is.stable _, Is.stable _, Is.stable _, Is.stable _, Is.stable _, Is.stable _, Is.stable _, Is.stable _, Is.stable _, Is.stable _, fun _ _ _ _ f h => by obtain ⟨g, e, r⟩ := h; exact ⟨g, e, r.fr0 f⟩, trivial⟩ trivial (fun _ _ _ _ h => h) trivial ?_ ?_
                · refine ⟨?a14_0, ?a14_1, ?a14_2, ?a14_3, ?a14_4, ?a14_5, ?a14_6, ?a14_7, ?a14_8, ?a14_9, ?a14_10, ?a14_11, ?a14_12, trivial⟩
                  all_goals intro u w' d hf hR k1 k0 kM
                  all_goals simp only [List.take_succ_cons, List.take_zero, List.map_cons, List.map_nil, puts, Act.put, List.setIfInBounds_toArray, List.set_cons_zero, List.set_cons_succ, Nat.reduceAdd, Nat.zero_add]
                  case' a14_3 => simp only [show u 1 = _ from hR 1 (by kernel_rfl), show u 2 = _ from hR 2 (by kernel_rfl)]
                  case' a14_4 => simp only [show u 3 = _ from hR 3 (by kernel_rfl)]
                  case a14_5 =>
                    simp only [show u 4 = _ from hR 4 (by kernel_rfl)]
                    clear hR k1 k0 kM
                    refine .inl ⟨by kernel_rfl, ?_⟩
                    exact wp_load_add _ _ rfl (bd.add (b * 6)) rfl y.1.cells _ (fun jj v hv => hf.cellSome (HY.out jj v (by rw [entC, List.getElem?_append_left (List.getElem?_eq_some_iff.1 hv).1]; exact hv)) (fun x => x)) Tryd.underlying40 rfl infoN ⟨_, rfl, Fr.refl _ _, rfl, trivial⟩
                  case' a14_8 => simp only [show u 6 = _ from hR 6 (by kernel_rfl), show u 7 = _ from hR 7 (by kernel_rfl)]
                  case' a14_9 => simp only [show u 8 = _ from hR 8 (by kernel_rfl)]
                  case a14_10 =>
                    simp only [show u 9 = _ from hR 9 (by kernel_rfl)]
                    clear hR k1 k0 kM
                    refine .inl ⟨by kernel_rfl, ?_⟩
                    have q : _ = some (Value.string y.2) := hf.cellSome (show wr.cell? { block := (bd.add (b * 6)).block, off := (bd.add (b * 6)).off + 5 } = some (.string y.2) from HY.out 5 _ rfl) (fun x => x)
                    go_simp
                    exact ⟨_, rfl, Fr.refl _ _, rfl, trivial⟩
                  case a14_11 =>
                    simp only [show u 5 = _ from hR 5 (by kernel_rfl), show u 10 = _ from hR 10 (by kernel_rfl)]
                    clear hR k1 k0 kM
                    refine .inl ⟨by kernel_rfl, ?_⟩
                    exact wp_builtA 42 _ rfl (setC y).cells.toArray _ (by simp only [List.map_toArray, List.map_cons, List.map_nil]; rfl) BS.out ⟨_, rfl, Fr.refl _ _, rfl, trivial⟩
                  case a14_12 =>
                    simp only [show u 11 = _ from hR 11 (by kernel_rfl)]
                    clear hR k1 k0 kM
                    refine .inl ⟨by kernel_rfl, ?_⟩
                    refine wp_buildSlice 22 42 1 _ rfl (setC y).cells.toArray ic zeroC Tryd.underlying22 hic hzc gc1.out gc2.out (by simp only [List.map_toArray, List.map_cons, List.map_nil]; exact gc3.out _) ?_
                    exact ⟨_, rfl, (Fr.refl _ _).alloc _, ⟨_, rfl, (rd_new w' (setC y).cells.toArray 42 7 1 rfl).any⟩, trivial⟩
                  all_goals
                    clear hR k1 k0 kM
                    refine .inl ⟨by kernel_rfl, ?_⟩
                    go_simp
                    exact ⟨_, rfl, Fr.refl _ _, rfl, trivial⟩
                · intro u w' hf hR kM
                  have k0 : u 0 = _ := hR 0 (by omega)
                  obtain ⟨g9, k12, rd9⟩ := hR 12 (by omega)
                  clear hR kM
                  simp only [List.take_succ_cons, List.take_zero, List.map_cons, List.map_nil, puts, Act.put, List.setIfInBounds_toArray, List.set_cons_zero, List.set_cons_succ, List.drop_succ_cons, List.drop_zero, Nat.reduceAdd, Nat.zero_add, k0, k12]
                  have KG := Lib.hid (KG.out.behind hf)
                  have RD9 := Lib.hid rd9
                  clear hf k0 k12 rd9
                  refine wpList_app _ rfl _ _ 22 rfl 42 ic zeroC 7 80 Tryd.underlying22 hic hzc hc1 hc2 rfl (by decide) _ _ _ rfl KG.out.own _ _ 1 1 _ rfl RD9.out (CV_one _) (by have := DL.out; omega) (by decide) ?_
                  intro v9 w9 hG9
                  have KH : Hid (Grew 42 7 w (.slice none 0 0) w9 v9 (done.length + 1) (done.flatMap CV.cells ++ (setC y).cells)) := KG.out.trans hG9
                  obtain ⟨A9, n9, c9, rfl, _, _⟩ := own_slice hG9.own
                  clear hG9 KG
                  go_wp2
                  go_roundw
                  case rel => exact ⟨a, b + 1, done ++ [setC y], by omega, by omega, by go_num, by go_num, by rw [← HD.out, HST.out, List.append_assoc]; rfl, by rw [List.length_append, List.flatMap_append, List.flatMap_singleton]; exact KH.out⟩
                  case measure => simp [intOf]; omega
          · have tg : decide (0 < q) = false := decide_eq_false hg
            have h0 : cmpN x.1 y.1 = 0 := by rw [HQ.out]; omega
            cases hv : (x.2 == y.2)
            · have tv : (x.2.toList == y.2.toList) = false := by rw [beqL]; exact hv
              have HST := Lib.hid (diff_other GX.out GY.out h0 hv)
              have BS := Lib.hid (builtCs y)
              clear hv h0
              go_upto_region 8 with fail
              refine wp_region_st 25 Nothing [Is (.int .i64 (b : Int)), Is (.slice (some bd) NB cB), Is (.int .i64 (NB : Nat)), Is (.bool false), Is (.bool false), Is (.int .i64 (a : Int)), Is (.slice (some ad) NA cA), Is (.int .i64 (NA : Nat)), Is (.bool true), Is (.bool true), Is (.slice (some ad) NA cA), Is (.int .i64 (a : Int)), Is (.pointer (some (ad.add (a * 6)))), Is (.pointer (some (ad.add (a * 6)))), Is (.agg x.1.cells.toArray), Is (.slice (some bd) NB cB), Is (.int .i64 (b : Int)), Is (.pointer (some (bd.add (b * 6)))), Is (.pointer (some (bd.add (b * 6)))), Is (.agg y.1.cells.toArray), Is (.int .i64 q), Is (.bool false), Is (.bool false), Is (.bool false), Is (.bool false)] [] (fun _ => True) (fun _ _ => false) (by kernel_rfl) (by kernel_rfl) (by kernel_rfl) (by kernel_rfl) ⟨Is.stable _, Is.stable _, Is.stable _, Is.stable _, Is.stable _, Is.stable _, Is.stable _, Is.stable _, Is.stable _, Is.stable _, Is.stable _, Is.stable _, Is.stable _, Is.stable _, Is.stable _, Is.stable _, Is.stable _, Is.stable _, Is.stable _, Is.stable _, Is.stable _, Is.stable _, Is.stable _, Is.stable _, Is.stable _, trivial⟩ trivial (fun _ _ _ _ h => h) trivial ?_ ?_
              · refine ⟨?a15_0, ?a15_1, ?a15_2, ?a15_3, ?a15_4, ?a15_5, ?a15_6, ?a15_7, ?a15_8, ?a15_9, ?a15_10, ?a15_11, ?a15_12, ?a15_13, ?a15_14, ?a15_15, ?a15_16, ?a15_17, ?a15_18, ?a15_19, ?a15_20, ?a15_21, ?a15_22, ?a15_23, ?a15_24, trivial⟩
                all_goals intro u w' d hf hR k1 k0 kM
                all_goals simp only [List.take_succ_cons, List.take_zero, List.map_cons, List.map_nil, puts, Act.put, List.setIfInBounds_toArray, List.set_cons_zero, List.set_cons_succ, Nat.reduceAdd, Nat.zero_add]
                case' a15_2 => simp only [show u 1 = _ from hR 1 (by kernel_rfl)]
                case' a15_3 => simp only [show u 0 = _ from hR 0 (by kernel_rfl), show u 2 = _ from hR 2 (by kernel_rfl)]
                case' a15_4 => simp only [show u 3 = _ from hR 3 (by kernel_rfl)]
                case' a15_5 => simp only [show u 4 = _ from hR 4 (by kernel_rfl)]
                case' a15_6 => simp only [show u 4 = _ from hR 4 (by kernel_rfl)]
                case' a15_7 => simp only [show u 6 = _ from hR 6 (by kernel_rfl), show u 4 = _ from hR 4 (by kernel_rfl)]
                case' a15_8 => simp only [show u 5 = _ from hR 5 (by kernel_rfl), show u 7 = _ from hR 7 (by kernel_rfl), show u 4 = _ from hR 4 (by kernel_rfl)]
                case' a15_9 => simp only [show u 8 = _ from hR 8 (by kernel_rfl), show u 4 = _ from hR 4 (by kernel_rfl)]
                case' a15_10 => simp only [show u 9 = _ from hR 9 (by kernel_rfl)]
                case' a15_11 => simp only [show u 9 = _ from hR 9 (by kernel_rfl)]
                case' a15_12 => simp only [show u 10 = _ from hR 10 (by kernel_rfl), show u 11 = _ from hR 11 (by kernel_rfl), show u 9 = _ from hR 9 (by kernel_rfl)]
                case' a15_13 => simp only [show u 12 = _ from hR 12 (by kernel_rfl), show u 9 = _ from hR 9 (by kernel_rfl)]
                case a15_14 =>
                  simp only [show u 13 = _ from hR 13 (by kernel_rfl), show u 9 = _ from hR 9 (by kernel_rfl)]
                  clear hR k1 k0 kM
                  refine .inl ⟨by kernel_rfl, ?_⟩
                  exact wp_load_add _ _ rfl (ad.add (a * 6)) rfl x.1.cells _ (fun jj v hv => hf.cellSome (HX.out jj v (by rw [entC, List.getElem?_append_left (List.getElem?_eq_some_iff.1 hv).1]; exact hv)) (fun x => x)) Tryd.underlying40 rfl infoN ⟨_, rfl, Fr.refl _ _, rfl, trivial⟩
                case' a15_15 => simp only [show u 9 = _ from hR 9 (by kernel_rfl)]
                case' a15_16 => simp only [show u 9 = _ from hR 9 (by kernel_rfl)]
                case' a15_17 => simp only [show u 15 = _ from hR 15 (by kernel_rfl), show u 16 = _ from hR 16 (by kernel_rfl), show u 9 = _ from hR 9 (by kernel_rfl)]
                case' a15_18 => simp only [show u 17 = _ from hR 17 (by kernel_rfl), show u 9 = _ from hR 9 (by kernel_rfl)]
                case a15_19 =>
                  simp only [show u 18 = _ from hR 18 (by kernel_rfl), show u 9 = _ from hR 9 (by kernel_rfl)]
                  clear hR k1 k0 kM
                  refine .inl ⟨by kernel_rfl, ?_⟩
                  exact wp_load_add _ _ rfl (bd.add (b * 6)) rfl y.1.cells _ (fun jj v hv => hf.cellSome (HY.out jj v (by rw [entC, List.getElem?_append_left (List.getElem?_eq_some_iff.1 hv).1]; exact hv)) (fun x => x)) Tryd.underlying40 rfl infoN ⟨_, rfl, Fr.refl _ _, rfl, trivial⟩
                case a15_20 =>
                  simp only [show u 14 = _ from hR 14 (by kernel_rfl), show u 19 = _ from hR 19 (by kernel_rfl), show u 9 = _ from hR 9 (by kernel_rfl)]
                  clear hR k1 k0 kM
                  refine .inl ⟨by kernel_rfl, ?_⟩
                  go_simp
                  refine (CQ.out _).mono ?_
                  rintro e w4 ⟨rfl, f4⟩
                  exact ⟨_, rfl, f4.weak, rfl, trivial⟩
                case' a15_21 => simp only [show u 20 = _ from hR 20 (by kernel_rfl), show u 9 = _ from hR 9 (by kernel_rfl)]
                case' a15_22 => simp only [show u 9 = _ from hR 9 (by kernel_rfl), show u 21 = _ from hR 21 (by kernel_rfl), show u 4 = _ from hR 4 (by kernel_rfl)]
                case' a15_23 => simp only [show u 4 = _ from hR 4 (by kernel_rfl), show u 22 = _ from hR 22 (by kernel_rfl)]
                case' a15_24 => simp only [show u 23 = _ from hR 23 (by kernel_rfl)]
                all_goals
                  clear hR k1 k0 kM
                  refine .inl ⟨by kernel_rfl, ?_⟩
                  go_simp
                  exact ⟨_, rfl, Fr.refl _ _, rfl, trivial⟩
              · intro u w' hf hR kM
                have kz : u 24 = _ := hR 24 (by omega)
                clear hR kM
                simp only [List.take_succ_cons, List.take_zero, List.map_cons, List.map_nil, puts, Act.put, List.setIfInBounds_toArray, List.set_cons_zero, List.set_cons_succ, List.drop_succ_cons, List.drop_zero, Nat.reduceAdd, Nat.zero_add, kz]
                have HF := Lib.hid hf
                clear hf kz
                have KG := Lib.hid (KG.out.behind HF.out)
                have HX : Hid (∀ jj v, (entC x)[jj]? = some v → w'.cell? ((ad.add (a * 6)).add jj) = some v) := fun jj v hv => HF.out.cellSome (HX.out jj v hv) (fun x => x)
                have HY : Hid (∀ jj v, (entC y)[jj]? = some v → w'.cell? ((bd.add (b * 6)).add jj) = some v) := fun jj v hv => HF.out.cellSome (HY.out jj v hv) (fun x => x)
                clear HF
                generalize w' = wr at *
                go_upto_region 11 with fail
                refine wp_region_st 19 Nothing [Is (.int .i64 (a : Int)), Is (.slice (some ad) NA cA), Is (.int .i64 (NA : Nat)), Is (.bool false), Is (.bool false), Is (.slice (some ad) NA cA), Is (.int .i64 (a : Int)), Is (.pointer (some (ad.add (a * 6)))), Is (.pointer (some (ad.add (a * 6)))), Is (.agg x.1.cells.toArray), Is (.slice (some bd) NB cB), Is (.int .i64 (b : Int)), Is (.pointer (some (bd.add (b * 6)))), Is (.pointer (some (bd.add (b * 6)))), Is (.agg y.1.cells.toArray), Is (.int .i64 q), Is (.bool false), Is (.bool false), Is (.bool false)] [] (fun _ => True) (fun _ _ => false) (by kernel_rfl) (by kernel_rfl) (by kernel_rfl) (by kernel_rfl) ⟨Is.stable _, Is.stable _, Is.stable _, Is.stable _, Is.stable _, Is.stable _, Is.stable _, Is.stable _, Is.stable _, Is.stable _, Is.stable _, Is.stable _, Is.stable _, Is.stable _, Is.stable _, Is.stable _, Is.stable _, Is.stable _, Is.stable _, trivial⟩ trivial (fun _ _ _ _ h => h) trivial ?_ ?_
                · refine ⟨?a16_0, ?a16_1, ?a16_2, ?a16_3, ?a16_4, ?a16_5, ?a16_6, ?a16_7, ?a16_8, ?a16_9, ?a16_10, ?a16_11, ?a16_12, ?a16_13, ?a16_14, ?a16_15, ?a16_16, ?a16_17, ?a16_18, trivial⟩
                  all_goals intro u w' d hf hR k1 k0 kM
                  all_goals simp only [List.take_succ_cons, List.take_zero, List.map_cons, List.map_nil, puts, Act.put, List.setIfInBounds_toArray, List.set_cons_zero, List.set_cons_succ, Nat.reduceAdd, Nat.zero_add]
                  case' a16_2 => simp only [show u 1 = _ from hR 1 (by kernel_rfl)]
                  case' a16_3 => simp only [show u 0 = _ from hR 0 (by kernel_rfl), show u 2 = _ from hR 2 (by kernel_rfl)]
                  case' a16_4 => simp only [show u 3 = _ from hR 3 (by kernel_rfl)]
                  case' a16_5 => simp only [show u 4 = _ from hR 4 (by kernel_rfl)]
                  case' a16_6 => simp only [show u 4 = _ from hR 4 (by kernel_rfl)]
                  case' a16_7 => simp only [show u 5 = _ from hR 5 (by kernel_rfl), show u 6 = _ from hR 6 (by kernel_rfl), show u 4 = _ from hR 4 (by kernel_rfl)]
                  case' a16_8 => simp only [show u 7 = _ from hR 7 (by kernel_rfl), show u 4 = _ from hR 4 (by kernel_rfl)]
                  case a16_9 =>
                    simp only [show u 8 = _ from hR 8 (by kernel_rfl), show u 4 = _ from hR 4 (by kernel_rfl)]
                    clear hR k1 k0 kM
                    refine .inl ⟨by kernel_rfl, ?_⟩
                    exact wp_load_add _ _ rfl (ad.add (a * 6)) rfl x.1.cells _ (fun jj v hv => hf.cellSome (HX.out jj v (by rw [entC, List.getElem?_append_left (List.getElem?_eq_some_iff.1 hv).1]; exact hv)) (fun x => x)) Tryd.underlying40 rfl infoN ⟨_, rfl, Fr.refl _ _, rfl, trivial⟩
                  case' a16_10 => simp only [show u 4 = _ from hR 4 (by kernel_rfl)]
                  case' a16_11 => simp only [show u 4 = _ from hR 4 (by kernel_rfl)]
                  case' a16_12 => simp only [show u 10 = _ from hR 10 (by kernel_rfl), show u 11 = _ from hR 11 (by kernel_rfl), show u 4 = _ from hR 4 (by kernel_rfl)]
                  case' a16_13 => simp only [show u 12 = _ from hR 12 (by kernel_rfl), show u 4 = _ from hR 4 (by kernel_rfl)]
                  case a16_14 =>
                    simp only [show u 13 = _ from hR 13 (by kernel_rfl), show u 4 = _ from hR 4 (by kernel_rfl)]
                    clear hR k1 k0 kM
                    refine .inl ⟨by kernel_rfl, ?_⟩
                    exact wp_load_add _ _ rfl (bd.add (b * 6)) rfl y.1.cells _ (fun jj v hv => hf.cellSome (HY.out jj v (by rw [entC, List.getElem?_append_left (List.getElem?_eq_some_iff.1 hv).1]; exact hv)) (fun x => x)) Tryd.underlying40 rfl infoN ⟨_, rfl, Fr.refl _ _, rfl, trivial⟩
                  case a16_15 =>
                    simp only [show u 9 = _ from hR 9 (by kernel_rfl), show u 14 = _ from hR 14 (by kernel_rfl), show u 4 = _ from hR 4 (by kernel_rfl)]
                    clear hR k1 k0 kM
                    refine .inl ⟨by kernel_rfl, ?_⟩
                    go_simp
                    refine (CQ.out _).mono ?_
                    rintro e w4 ⟨rfl, f4⟩
                    exact ⟨_, rfl, f4.weak, rfl, trivial⟩
                  case' a16_16 => simp only [show u 15 = _ from hR 15 (by kernel_rfl), show u 4 = _ from hR 4 (by kernel_rfl)]
                  case' a16_17 => simp only [show u 4 = _ from hR 4 (by kernel_rfl), show u 16 = _ from hR 16 (by kernel_rfl)]
                  case' a16_18 => simp only [show u 17 = _ from hR 17 (by kernel_rfl)]
                  all_goals
                    clear hR k1 k0 kM
                    refine .inl ⟨by kernel_rfl, ?_⟩
                    go_simp
                    exact ⟨_, rfl, Fr.refl _ _, rfl, trivial⟩
                · intro u w' hf hR kM
                  have kz : u 18 = _ := hR 18 (by omega)
                  clear hR kM
                  simp only [List.take_succ_cons, List.take_zero, List.map_cons, List.map_nil, puts, Act.put, List.setIfInBounds_toArray, List.set_cons_zero, List.set_cons_succ, List.drop_succ_cons, List.drop_zero, Nat.reduceAdd, Nat.zero_add, kz]
                  have HF := Lib.hid hf
                  clear hf kz
                  have KG := Lib.hid (KG.out.behind HF.out)
                  have HX : Hid (∀ jj v, (entC x)[jj]? = some v → w'.cell? ((ad.add (a * 6)).add jj) = some v) := fun jj v hv => HF.out.cellSome (HX.out jj v hv) (fun x => x)
                  have HY : Hid (∀ jj v, (entC y)[jj]? = some v → w'.cell? ((bd.add (b * 6)).add jj) = some v) := fun jj v hv => HF.out.cellSome (HY.out jj v hv) (fun x => x)
                  clear HF
                  generalize w' = wr at *
                  go_upto_region 4 with fail
                  refine wp_region_st 11 Nothing [Is (.slice (some ad) NA cA), Is (.int .i64 (a : Int)), Is (.pointer (some (ad.add (a * 6)))), Is (.pointer (some { block := (ad.add (a * 6)).block, off := (ad.add (a * 6)).off + 5 })), Is (.string x.2), Is (.slice (some bd) NB cB), Is (.int .i64 (b : Int)), Is (.pointer (some (bd.add (b * 6)))), Is (.pointer (some { block := (bd.add (b * 6)).block, off := (bd.add (b * 6)).off + 5 })), Is (.string y.2), Is (.bool true)] [] (fun _ => True) (fun _ _ => false) (by kernel_rfl) (by kernel_rfl) (by kernel_rfl) (by kernel_rfl) ⟨Is.stable _, Is.stable _, Is.stable _, Is.stable _, Is.stable _, Is.stable _, Is.stable _, Is.stable _, Is.stable _, Is.stable _, Is.stable _, trivial⟩ trivial (fun _ _ _ _ h => h) trivial ?_ ?_
                  · refine ⟨?a17_0, ?a17_1, ?a17_2, ?a17_3, ?a17_4, ?a17_5, ?a17_6, ?a17_7, ?a17_8, ?a17_9, ?a17_10, trivial⟩
                    all_goals intro u w' d hf hR k1 k0 kM
                    all_goals simp only [List.take_succ_cons, List.take_zero, List.map_cons, List.map_nil, puts, Act.put, List.setIfInBounds_toArray, List.set_cons_zero, List.set_cons_succ, Nat.reduceAdd, Nat.zero_add]
                    case' a17_2 => simp only [show u 0 = _ from hR 0 (by kernel_rfl), show u 1 = _ from hR 1 (by kernel_rfl)]
                    case' a17_3 => simp only [show u 2 = _ from hR 2 (by kernel_rfl)]
                    case a17_4 =>
                      simp only [show u 3 = _ from hR 3 (by kernel_rfl)]
                      clear hR k1 k0 kM
                      refine .inl ⟨by kernel_rfl, ?_⟩
                      have q : _ = some (Value.string x.2) := hf.cellSome (show wr.cell? { block := (ad.add (a * 6)).block, off := (ad.add (a * 6)).off + 5 } = some (.string x.2) from HX.out 5 _ rfl) (fun x => x)
                      go_simp
                      exact ⟨_, rfl, Fr.refl _ _, rfl, trivial⟩
                    case' a17_7 => simp only [show u 5 = _ from hR 5 (by kernel_rfl), show u 6 = _ from hR 6 (by kernel_rfl)]
                    case' a17_8 => simp only [show u 7 = _ from hR 7 (by kernel_rfl)]
                    case a17_9 =>
                      simp only [show u 8 = _ from hR 8 (by kernel_rfl)]
                      clear hR k1 k0 kM
                      refine .inl ⟨by kernel_rfl, ?_⟩
                      have q : _ = some (Value.string y.2) := hf.cellSome (show wr.cell? { block := (bd.add (b * 6)).block, off := (bd.add (b * 6)).off + 5 } = some (.string y.2) from HY.out 5 _ rfl) (fun x => x)
                      go_simp
                      exact ⟨_, rfl, Fr.refl _ _, rfl, trivial⟩
                    case' a17_10 => simp only [show u 4 = _ from hR 4 (by kernel_rfl), show u 9 = _ from hR 9 (by kernel_rfl)]
                    all_goals
                      clear hR k1 k0 kM
                      refine .inl ⟨by kernel_rfl, ?_⟩
                      go_simp
                      exact ⟨_, rfl, Fr.refl _ _, rfl, trivial⟩
                  · intro u w' hf hR kM
                    have kz : u 10 = _ := hR 10 (by omega)
                    clear hR kM
                    simp only [List.take_succ_cons, List.take_zero, List.map_cons, List.map_nil, puts, Act.put, List.setIfInBounds_toArray, List.set_cons_zero, List.set_cons_succ, List.drop_succ_cons, List.drop_zero, Nat.reduceAdd, Nat.zero_add, kz]
                    have HF := Lib.hid hf
                    clear hf kz
                    have KG := Lib.hid (KG.out.behind HF.out)
                    have HX : Hid (∀ jj v, (entC x)[jj]? = some v → w'.cell? ((ad.add (a * 6)).add jj) = some v) := fun jj v hv => HF.out.cellSome (HX.out jj v hv) (fun x => x)
                    have HY : Hid (∀ jj v, (entC y)[jj]? = some v → w'.cell? ((bd.add (b * 6)).add jj) = some v) := fun jj v hv => HF.out.cellSome (HY.out jj v hv) (fun x => x)
                    clear HF
                    generalize w' = wr at *
                    go_upto_region 5 with fail
                    refine wp_region_st 13 Nothing [Is (.slice A5 done.length c5), Is (.slice (some bd) NB cB), Is (.int .i64 (b : Int)), Is (.pointer (some (bd.add (b * 6)))), Is (.pointer (some (bd.add (b * 6)))), Is (.agg y.1.cells.toArray), Is (.slice (some bd) NB cB), Is (.int .i64 (b : Int)), Is (.pointer (some (bd.add (b * 6)))), Is (.pointer (some { block := (bd.add (b * 6)).block, off := (bd.add (b * 6)).off + 5 })), Is (.string y.2), Is (.agg (setC y).cells.toArray), (fun zv zW => ∃ g, zv = .slice (some ⟨g, 0, none⟩) 1 1 ∧ Rd zW (fun _ => True) 7 (some ⟨g, 0, none⟩) 1 (setC y).cells)] [] (fun _ => True) (fun _ _ => false) (by kernel_rfl) (by kernel_rfl) (by kernel_rfl) (by kernel_rfl) ⟨Is.stable _, Is.stable _, Is.stable _, Is.stable _, Is.stable _, Is.stable _, Is.stable _, Is.stable _, Is.stable _, Is.stable _, Is.stable _, Is.stable _, fun _ _ _ _ f h => by obtain ⟨g, e, r⟩ := h; exact ⟨g, e, r.fr0 f⟩, trivial⟩ trivial (fun _ _ _ _ h => h) trivial ?_ ?_
                    · refine ⟨?a18_0, ?a18_1, ?a18_2, ?a18_3, ?a18_4, ?a18_5, ?a18_6, ?a18_7, ?a18_8, ?a18_9, ?a18_10, ?a18_11, ?a18_12, trivial⟩
                      all_goals intro u w' d hf hR k1 k0 kM
                      all_goals simp only [List.take_succ_cons, List.take_zero, List.map_cons, List.map_nil, puts, Act.put, List.setIfInBounds_toArray, List.set_cons_zero, List.set_cons_succ, Nat.reduceAdd, Nat.zero_add]
                      case' a18_3 => simp only [show u 1 = _ from hR 1 (by kernel_rfl), show u 2 = _ from hR 2 (by kernel_rfl)]
                      case' a18_4 => simp only [show u 3 = _ from hR 3 (by kernel_rfl)]
                      case a18_5 =>
                        simp only [show u 4 = _ from hR 4 (by kernel_rfl)]
                        clear hR k1 k0 kM
                        refine .inl ⟨by kernel_rfl, ?_⟩
                        exact wp_load_add _ _ rfl (bd.add (b * 6)) rfl y.1.cells _ (fun jj v hv => hf.cellSome (HY.out jj v (by rw [entC, List.getElem?_append_left (List.getElem?_eq_some_iff.1 hv).1]; exact hv)) (fun x => x)) Tryd.underlying40 rfl infoN ⟨_, rfl, Fr.refl _ _, rfl, trivial⟩
                      case' a18_8 => simp only [show u 6 = _ from hR 6 (by kernel_rfl), show u 7 = _ from hR 7 (by kernel_rfl)]
                      case' a18_9 => simp only [show u 8 = _ from hR 8 (by kernel_rfl)]
                      case a18_10 =>
                        simp only [show u 9 = _ from hR 9 (by kernel_rfl)]
                        clear hR k1 k0 kM
                        refine .inl ⟨by kernel_rfl, ?_⟩
                        have q : _ = some (Value.string y.2) := hf.cellSome (show wr.cell? { block := (bd.add (b * 6)).block, off := (bd.add (b * 6)).off + 5 } = some (.string y.2) from HY.out 5 _ rfl) (fun x => x)
                        go_simp
                        exact ⟨_, rfl, Fr.refl _ _, rfl, trivial⟩
                      case a18_11 =>
                        simp only [show u 5 = _ from hR 5 (by kernel_rfl), show u 10 = _ from hR 10 (by kernel_rfl)]
                        clear hR k1 k0 kM
                        refine .inl ⟨by kernel_rfl, ?_⟩
                        exact wp_builtA 42 _ rfl (setC y).cells.toArray _ (by simp only [List.map_toArray, List.map_cons, List.map_nil]; rfl) BS.out ⟨_, rfl, Fr.refl _ _, rfl, trivial⟩
                      case a18_12 =>
                        simp only [show u 11 = _ from hR 11 (by kernel_rfl)]
                        clear hR k1 k0 kM
                        refine .inl ⟨by kernel_rfl, ?_⟩
                        refine wp_buildSlice 22 42 1 _ rfl (setC y).cells.toArray ic zeroC Tryd.underlying22 hic hzc gc1.out gc2.out (by simp only [List.map_toArray, List.map_cons, List.map_nil]; exact gc3.out _) ?_
                        exact ⟨_, rfl, (Fr.refl _ _).alloc _, ⟨_, rfl, (rd_new w' (setC y).cells.toArray 42 7 1 rfl).any⟩, trivial⟩
                      all_goals
                        clear hR k1 k0 kM
                        refine .inl ⟨by kernel_rfl, ?_⟩
                        go_simp
                        exact ⟨_, rfl, Fr.refl _ _, rfl, trivial⟩
                    · intro u w' hf hR kM
                      have k0 : u 0 = _ := hR 0 (by omega)
                      obtain ⟨g9, k12, rd9⟩ := hR 12 (by omega)
                      clear hR kM
                      simp only [List.take_succ_cons, List.take_zero, List.map_cons, List.map_nil, puts, Act.put, List.setIfInBounds_toArray, List.set_cons_zero, List.set_cons_succ, List.drop_succ_cons, List.drop_zero, Nat.reduceAdd, Nat.zero_add, k0, k12]
                      have KG := Lib.hid (KG.out.behind hf)
                      have RD9 := Lib.hid rd9
                      clear hf k0 k12 rd9
                      refine wpList_app _ rfl _ _ 22 rfl 42 ic zeroC 7 80 Tryd.underlying22 hic hzc hc1 hc2 rfl (by decide) _ _ _ rfl KG.out.own _ _ 1 1 _ rfl RD9.out (CV_one _) (by have := DL.out; omega) (by decide) ?_
                      intro v9 w9 hG9
                      have KH : Hid (Grew 42 7 w (.slice none 0 0) w9 v9 (done.length + 1) (done.flatMap CV.cells ++ (setC y).cells)) := KG.out.trans hG9
                      obtain ⟨A9, n9, c9, rfl, _, _⟩ := own_slice hG9.own
                      clear hG9 KG
                      go_wp2
                      go_roundw
                      case rel => exact ⟨a + 1, b + 1, done ++ [setC y], by omega, by omega, by go_num, by go_num, by rw [← HD.out, HST.out, List.append_assoc]; rfl, by rw [List.length_append, List.flatMap_append, List.flatMap_singleton]; exact KH.out⟩
                      case measure => simp [intOf]; omega
            · have tv : (x.2.toList == y.2.toList) = true := by rw [beqL]; exact hv
              have HST := Lib.hid (diff_same GX.out GY.out h0 hv)
              clear hv h0
              go_upto_region 8 with fail
              refine wp_region_st 25 Nothing [Is (.int .i64 (b : Int)), Is (.slice (some bd) NB cB), Is (.int .i64 (NB : Nat)), Is (.bool false), Is (.bool false), Is (.int .i64 (a : Int)), Is (.slice (some ad) NA cA), Is (.int .i64 (NA : Nat)), Is (.bool true), Is (.bool true), Is (.slice (some ad) NA cA), Is (.int .i64 (a : Int)), Is (.pointer (some (ad.add (a * 6)))), Is (.pointer (some (ad.add (a * 6)))), Is (.agg x.1.cells.toArray), Is (.slice (some bd) NB cB), Is (.int .i64 (b : Int)), Is (.pointer (some (bd.add (b * 6)))), Is (.pointer (some (bd.add (b * 6)))), Is (.agg y.1.cells.toArray), Is (.int .i64 q), Is (.bool false), Is (.bool false), Is (.bool false), Is (.bool false)] [] (fun _ => True) (fun _ _ => false) (by kernel_rfl) (by kernel_rfl) (by kernel_rfl) (by kernel_rfl) ⟨Is.stable _, Is.stable _, Is.stable _, Is.stable _, Is.stable _, Is.stable _, Is.stable _, Is.stable _, Is.stable _, Is.stable _, Is.stable _, Is.stable _, Is.stable _, Is.stable _, Is.stable _, Is.stable _, Is.stable _, Is.stable _, Is.stable _, Is.stable _, Is.stable _, Is.stable _, Is.stable _, Is.stable _, Is.stable _, trivial⟩ trivial (fun _ _ _ _ h => h) trivial ?_ ?_
              · refine ⟨?a19_0, ?a19_1, ?a19_2, ?a19_3, ?a19_4, ?a19_5, ?a19_6, ?a19_7, ?a19_8, ?a19_9, ?a19_10, ?a19_11, ?a19_12, ?a19_13, ?a19_14, ?a19_15, ?a19_16, ?a19_17, ?a19_18, ?a19_19, ?a19_20, ?a19_21, ?a19_22, ?a19_23, ?a19_24, trivial⟩
                all_goals intro u w' d hf hR k1 k0 kM
                all_goals simp only [List.take_succ_cons, List.take_zero, List.map_cons, List.map_nil, puts, Act.put, List.setIfInBounds_toArray, List.set_cons_zero, List.set_cons_succ, Nat.reduceAdd, Nat.zero_add]
                case' a19_2 => simp only [show u 1 = _ from hR 1 (by kernel_rfl)]
                case' a19_3 => simp only [show u 0 = _ from hR 0 (by kernel_rfl), show u 2 = _ from hR 2 (by kernel_rfl)]
                case' a19_4 => simp only [show u 3 = _ from hR 3 (by kernel_rfl)]
                case' a19_5 => simp only [show u 4 = _ from hR 4 (by kernel_rfl)]
                case' a19_6 => simp only [show u 4 = _ from hR 4 (by kernel_rfl)]
                case' a19_7 => simp only [show u 6 = _ from hR 6 (by kernel_rfl), show u 4 = _ from hR 4 (by kernel_rfl)]
                case' a19_8 => simp only [show u 5 = _ from hR 5 (by kernel_rfl), show u 7 = _ from hR 7 (by kernel_rfl), show u 4 = _ from hR 4 (by kernel_rfl)]
                case' a19_9 => simp only [show u 8 = _ from hR 8 (by kernel_rfl), show u 4 = _ from hR 4 (by kernel_rfl)]
                case' a19_10 => simp only [show u 9 = _ from hR 9 (by kernel_rfl)]
                case' a19_11 => simp only [show u 9 = _ from hR 9 (by kernel_rfl)]
                case' a19_12 => simp only [show u 10 = _ from hR 10 (by kernel_rfl), show u 11 = _ from hR 11 (by kernel_rfl), show u 9 = _ from hR 9 (by kernel_rfl)]
                case' a19_13 => simp only [show u 12 = _ from hR 12 (by kernel_rfl), show u 9 = _ from hR 9 (by kernel_rfl)]
                case a19_14 =>
                  simp only [show u 13 = _ from hR 13 (by kernel_rfl), show u 9 = _ from hR 9 (by kernel_rfl)]
                  clear hR k1 k0 kM
                  refine .inl ⟨by kernel_rfl, ?_⟩
                  exact wp_load_add _ _ rfl (ad.add (a * 6)) rfl x.1.cells _ (fun jj v hv => hf.cellSome (HX.out jj v (by rw [entC, List.getElem?_append_left (List.getElem?_eq_some_iff.1 hv).1]; exact hv)) (fun x => x)) Tryd.underlying40 rfl infoN ⟨_, rfl, Fr.refl _ _, rfl, trivial⟩
                case' a19_15 => simp only [show u 9 = _ from hR 9 (by kernel_rfl)]
                case' a19_16 => simp only [show u 9 = _ from hR 9 (by kernel_rfl)]
                case' a19_17 => simp only [show u 15 = _ from hR 15 (by kernel_rfl), show u 16 = _ from hR 16 (by kernel_rfl), show u 9 = _ from hR 9 (by kernel_rfl)]
                case' a19_18 => simp only [show u 17 = _ from hR 17 (by kernel_rfl), show u 9 = _ from hR 9 (by kernel_rfl)]
                case a19_19 =>
                  simp only [show u 18 = _ from hR 18 (by kernel_rfl), show u 9 = _ from hR 9 (by kernel_rfl)]
                  clear hR k1 k0 kM
                  refine .inl ⟨by kernel_rfl, ?_⟩
                  exact wp_load_add _ _ rfl (bd.add (b * 6)) rfl y.1.cells _ (fun jj v hv => hf.cellSome (HY.out jj v (by rw [entC, List.getElem?_append_left (List.getElem?_eq_some_iff.1 hv).1]; exact hv)) (fun x => x)) Tryd.underlying40 rfl infoN ⟨_, rfl, Fr.refl _ _, rfl, trivial⟩
                case a19_20 =>
                  simp only [show u 14 = _ from hR 14 (by kernel_rfl), show u 19 = _ from hR 19 (by kernel_rfl), show u 9 = _ from hR 9 (by kernel_rfl)]
                  clear hR k1 k0 kM
                  refine .inl ⟨by kernel_rfl, ?_⟩
                  go_simp
                  refine (CQ.out _).mono ?_
                  rintro e w4 ⟨rfl, f4⟩
                  exact ⟨_, rfl, f4.weak, rfl, trivial⟩
                case' a19_21 => simp only [show u 20 = _ from hR 20 (by kernel_rfl), show u 9 = _ from hR 9 (by kernel_rfl)]
                case' a19_22 => simp only [show u 9 = _ from hR 9 (by kernel_rfl), show u 21 = _ from hR 21 (by kernel_rfl), show u 4 = _ from hR 4 (by kernel_rfl)]
                case' a19_23 => simp only [show u 4 = _ from hR 4 (by kernel_rfl), show u 22 = _ from hR 22 (by kernel_rfl)]
                case' a19_24 => simp only [show u 23 = _ from hR 23 (by kernel_rfl)]
                all_goals
                  clear hR k1 k0 kM
                  refine .inl ⟨by kernel_rfl, ?_⟩
                  go_simp
                  exact ⟨_, rfl, Fr.refl _ _, rfl, trivial⟩
              · intro u w' hf hR kM
                have kz : u 24 = _ := hR 24 (by omega)
                clear hR kM
                simp only [List.take_succ_cons, List.take_zero, List.map_cons, List.map_nil, puts, Act.put, List.setIfInBounds_toArray, List.set_cons_zero, List.set_cons_succ, List.drop_succ_cons, List.drop_zero, Nat.reduceAdd, Nat.zero_add, kz]
                have HF := Lib.hid hf
                clear hf kz
                have KG := Lib.hid (KG.out.behind HF.out)
                have HX : Hid (∀ jj v, (entC x)[jj]? = some v → w'.cell? ((ad.add (a * 6)).add jj) = some v) := fun jj v hv => HF.out.cellSome (HX.out jj v hv) (fun x => x)
                have HY : Hid (∀ jj v, (entC y)[jj]? = some v → w'.cell? ((bd.add (b * 6)).add jj) = some v) := fun jj v hv => HF.out.cellSome (HY.out jj v hv) (fun x => x)
                clear HF
                generalize w' = wr at *
                go_upto_region 11 with fail
                refine wp_region_st 19 Nothing [Is (.int .i64 (a : Int)), Is (.slice (some ad) NA cA), Is (.int .i64 (NA : Nat)), Is (.bool false), Is (.bool false), Is (.slice (some ad) NA cA), Is (.int .i64 (a : Int)), Is (.pointer (some (ad.add (a * 6)))), Is (.pointer (some (ad.add (a * 6)))), Is (.agg x.1.cells.toArray), Is (.slice (some bd) NB cB), Is (.int .i64 (b : Int)), Is (.pointer (some (bd.add (b * 6)))), Is (.pointer (some (bd.add (b * 6)))), Is (.agg y.1.cells.toArray), Is (.int .i64 q), Is (.bool false), Is (.bool false), Is (.bool false)] [] (fun _ => True) (fun _ _ => false) (by kernel_rfl) (by kernel_rfl) (by kernel_rfl) (by kernel_rfl) ⟨Is.stable _, Is.stable _, Is.stable _, Is.stable _, Is.stable _, Is.stable _, Is.stable _, Is.stable _, Is.stable _, Is.stable _, Is.stable _, Is.stable _, Is.stable _, Is.stable _, Is.stable _, Is.stable _, Is.stable _, Is.stable _, Is.stable _, trivial⟩ trivial (fun _ _ _ _ h => h) trivial ?_ ?_
                · refine ⟨?a20_0, ?a20_1, ?a20_2, ?a20_3, ?a20_4, ?a20_5, ?a20_6, ?a20_7, ?a20_8, ?a20_9, ?a20_10, ?a20_11, ?a20_12, ?a20_13, ?a20_14, ?a20_15, ?a20_16, ?a20_17, ?a20_18, trivial⟩
                  all_goals intro u w' d hf hR k1 k0 kM
                  all_goals simp only [List.take_succ_cons, List.take_zero, List.map_cons, List.map_nil, puts, Act.put, List.setIfInBounds_toArray, List.set_cons_zero, List.set_cons_succ, Nat.reduceAdd, Nat.zero_add]
                  case' a20_2 => simp only [show u 1 = _ from hR 1 (by kernel_rfl)]
                  case' a20_3 => simp only [show u 0 = _ from hR 0 (by kernel_rfl), show u 2 = _ from hR 2 (by kernel_rfl)]
                  case' a20_4 => simp only [show u 3 = _ from hR 3 (by kernel_rfl)]
                  case' a20_5 => simp only [show u 4 = _ from hR 4 (by kernel_rfl)]
                  case' a20_6 => simp only [show u 4 = _ from hR 4 (by kernel_rfl)]
                  case' a20_7 => simp only [show u 5 = _ from hR 5 (by kernel_rfl), show u 6 = _ from hR 6 (by kernel_rfl), show u 4 = _ from hR 4 (by kernel_rfl)]
                  case' a20_8 => simp only [show u 7 = _ from hR 7 (by kernel_rfl), show u 4 = _ from hR 4 (by kernel_rfl)]
                  case a20_9 =>
                    simp only [show u 8 = _ from hR 8 (by kernel_rfl), show u 4 = _ from hR 4 (by kernel_rfl)]
                    clear hR k1 k0 kM
                    refine .inl ⟨by kernel_rfl, ?_⟩
                    exact wp_load_add _ _ rfl (ad.add (a * 6)) rfl x.1.cells _ (fun jj v hv => hf.cellSome (HX.out jj v (by rw [entC, List.getElem?_append_left (List.getElem?_eq_some_iff.1 hv).1]; exact hv)) (fun x => x)) Tryd.underlying40 rfl infoN ⟨_, rfl, Fr.refl _ _, rfl, trivial⟩
                  case' a20_10 => simp only [show u 4 = _ from hR 4 (by kernel_rfl)]
                  case' a20_11 => simp only [show u 4 = _ from hR 4 (by kernel_rfl)]
                  case' a20_12 => simp only [show u 10 = _ from hR 10 (by kernel_rfl), show u 11 = _ from hR 11 (by kernel_rfl), show u 4 = _ from hR 4 (by kernel_rfl)]
                  case' a20_13 => simp only [show u 12 = _ from hR 12 (by kernel_rfl), show u 4 = _ from hR 4 (by kernel_rfl)]
                  case a20_14 =>
                    simp only [show u 13 = _ from hR 13 (by kernel_rfl), show u 4 = _ from hR 4 (by kernel_rfl)]
                    clear hR k1 k0 kM
                    refine .inl ⟨by kernel_rfl, ?_⟩
                    exact wp_load_add _ _ rfl (bd.add (b * 6)) rfl y.1.cells _ (fun jj v hv => hf.cellSome (HY.out jj v (by rw [entC, List.getElem?_append_left (List.getElem?_eq_some_iff.1 hv).1]; exact hv)) (fun x => x)) Tryd.underlying40 rfl infoN ⟨_, rfl, Fr.refl _ _, rfl, trivial⟩
                  case a20_15 =>
                    simp only [show u 9 = _ from hR 9 (by kernel_rfl), show u 14 = _ from hR 14 (by kernel_rfl), show u 4 = _ from hR 4 (by kernel_rfl)]
                    clear hR k1 k0 kM
                    refine .inl ⟨by kernel_rfl, ?_⟩
                    go_simp
                    refine (CQ.out _).mono ?_
                    rintro e w4 ⟨rfl, f4⟩
                    exact ⟨_, rfl, f4.weak, rfl, trivial⟩
                  case' a20_16 => simp only [show u 15 = _ from hR 15 (by kernel_rfl), show u 4 = _ from hR 4 (by kernel_rfl)]
                  case' a20_17 => simp only [show u 4 = _ from hR 4 (by kernel_rfl), show u 16 = _ from hR 16 (by kernel_rfl)]
                  case' a20_18 => simp only [show u 17 = _ from hR 17 (by kernel_rfl)]
                  all_goals
                    clear hR k1 k0 kM
                    refine .inl ⟨by kernel_rfl, ?_⟩
                    go_simp
                    exact ⟨_, rfl, Fr.refl _ _, rfl, trivial⟩
                · intro u w' hf hR kM
                  have kz : u 18 = _ := hR 18 (by omega)
                  clear hR kM
                  simp only [List.take_succ_cons, List.take_zero, List.map_cons, List.map_nil, puts, Act.put, List.setIfInBounds_toArray, List.set_cons_zero, List.set_cons_succ, List.drop_succ_cons, List.drop_zero, Nat.reduceAdd, Nat.zero_add, kz]
                  have HF := Lib.hid hf
                  clear hf kz
                  have KG := Lib.hid (KG.out.behind HF.out)
                  have HX : Hid (∀ jj v, (entC x)[jj]? = some v → w'.cell? ((ad.add (a * 6)).add jj) = some v) := fun jj v hv => HF.out.cellSome (HX.out jj v hv) (fun x => x)
                  have HY : Hid (∀ jj v, (entC y)[jj]? = some v → w'.cell? ((bd.add (b * 6)).add jj) = some v) := fun jj v hv => HF.out.cellSome (HY.out jj v hv) (fun x => x)
                  clear HF
                  generalize w' = wr at *
                  go_upto_region 4 with fail
                  refine wp_region_st 11 Nothing [Is (.slice (some ad) NA cA), Is (.int .i64 (a : Int)), Is (.pointer (some (ad.add (a * 6)))), Is (.pointer (some { block := (ad.add (a * 6)).block, off := (ad.add (a * 6)).off + 5 })), Is (.string x.2), Is (.slice (some bd) NB cB), Is (.int .i64 (b : Int)), Is (.pointer (some (bd.add (b * 6)))), Is (.pointer (some { block := (bd.add (b * 6)).block, off := (bd.add (b * 6)).off + 5 })), Is (.string y.2), Is (.bool false)] [] (fun _ => True) (fun _ _ => false) (by kernel_rfl) (by kernel_rfl) (by kernel_rfl) (by kernel_rfl) ⟨Is.stable _, Is.stable _, Is.stable _, Is.stable _, Is.stable _, Is.stable _, Is.stable _, Is.stable _, Is.stable _, Is.stable _, Is.stable _, trivial⟩ trivial (fun _ _ _ _ h => h) trivial ?_ ?_
                  · refine ⟨?a21_0, ?a21_1, ?a21_2, ?a21_3, ?a21_4, ?a21_5, ?a21_6, ?a21_7, ?a21_8, ?a21_9, ?a21_10, trivial⟩
                    all_goals intro u w' d hf hR k1 k0 kM
                    all_goals simp only [List.take_succ_cons, List.take_zero, List.map_cons, List.map_nil, puts, Act.put, List.setIfInBounds_toArray, List.set_cons_zero, List.set_cons_succ, Nat.reduceAdd, Nat.zero_add]
                    case' a21_2 => simp only [show u 0 = _ from hR 0 (by kernel_rfl), show u 1 = _ from hR 1 (by kernel_rfl)]
                    case' a21_3 => simp only [show u 2 = _ from hR 2 (by kernel_rfl)]
                    case a21_4 =>
                      simp only [show u 3 = _ from hR 3 (by kernel_rfl)]
                      clear hR k1 k0 kM
                      refine .inl ⟨by kernel_rfl, ?_⟩
                      have q : _ = some (Value.string x.2) := hf.cellSome (show wr.cell? { block := (ad.add (a * 6)).block, off := (ad.add (a * 6)).off + 5 } = some (.string x.2) from HX.out 5 _ rfl) (fun x => x)
                      go_simp
                      exact ⟨_, rfl, Fr.refl _ _, rfl, trivial⟩
                    case' a21_7 => simp only [show u 5 = _ from hR 5 (by kernel_rfl), show u 6 = _ from hR 6 (by kernel_rfl)]
                    case' a21_8 => simp only [show u 7 = _ from hR 7 (by kernel_rfl)]
                    case a21_9 =>
                      simp only [show u 8 = _ from hR 8 (by kernel_rfl)]
                      clear hR k1 k0 kM
                      refine .inl ⟨by kernel_rfl, ?_⟩
                      have q : _ = some (Value.string y.2) := hf.cellSome (show wr.cell? { block := (bd.add (b * 6)).block, off := (bd.add (b * 6)).off + 5 } = some (.string y.2) from HY.out 5 _ rfl) (fun x => x)
                      go_simp
                      exact ⟨_, rfl, Fr.refl _ _, rfl, trivial⟩
                    case' a21_10 => simp only [show u 4 = _ from hR 4 (by kernel_rfl), show u 9 = _ from hR 9 (by kernel_rfl)]
                    all_goals
                      clear hR k1 k0 kM
                      refine .inl ⟨by kernel_rfl, ?_⟩
                      go_simp
                      exact ⟨_, rfl, Fr.refl _ _, rfl, trivial⟩
                  · intro u w' hf hR kM
                    have kz : u 10 = _ := hR 10 (by omega)
                    clear hR kM
                    simp only [List.take_succ_cons, List.take_zero, List.map_cons, List.map_nil, puts, Act.put, List.setIfInBounds_toArray, List.set_cons_zero, List.set_cons_succ, List.drop_succ_cons, List.drop_zero, Nat.reduceAdd, Nat.zero_add, kz]
                    have HF := Lib.hid hf
                    clear hf kz
                    have KG := Lib.hid (KG.out.behind HF.out)
                    have HX : Hid (∀ jj v, (entC x)[jj]? = some v → w'.cell? ((ad.add (a * 6)).add jj) = some v) := fun jj v hv => HF.out.cellSome (HX.out jj v hv) (fun x => x)
                    have HY : Hid (∀ jj v, (entC y)[jj]? = some v → w'.cell? ((bd.add (b * 6)).add jj) = some v) := fun jj v hv => HF.out.cellSome (HY.out jj v hv) (fun x => x)
                    clear HF
                    generalize w' = wr at *
                    go_wp2
                    go_roundw
                    case rel => exact ⟨a + 1, b + 1, done, by omega, by omega, by go_num, by go_num, by rw [← HD.out, HST.out], KG.out⟩
                    case measure => simp [intOf]; omega
      · obtain rfl : b = NB := by omega
        have HST := Lib.hid (diff_lt (B := LB) GX.out (.inl (by have := HLB.out; omega) : b = LB.length ∨ _))
        have BD := Lib.hid (builtCd x)
        have tb : decide ((b : Int) < (b : Int)) = false := decide_eq_false (by omega)
        have eb : ((b : Int) == (b : Int)) = true := by simp
        go_upto_region 8 with fail
        refine wp_region_st 25 Nothing [Is (.int .i64 (b : Int)), Is (.slice B b cB), Is (.int .i64 (b : Nat)), Is (.bool true), Is (.bool true), Is (undef), Is (undef), Is (undef), Is (undef), Is (undef), Is (undef), Is (undef), Is (undef), Is (undef), Is (undef), Is (undef), Is (undef), Is (undef), Is (undef), Is (undef), Is (undef), Is (undef), Is (undef), Is (.bool true), Is (.bool true)] [] (fun _ => True) (fun _ _ => false) (by kernel_rfl) (by kernel_rfl) (by kernel_rfl) (by kernel_rfl) ⟨Is.stable _, Is.stable _, Is.stable _, Is.stable _, Is.stable _, Is.stable _, Is.stable _, Is.stable _, Is.stable _, Is.stable _, Is.stable _, Is.stable _, Is.stable _, Is.stable _, Is.stable _, Is.stable _, Is.stable _, Is.stable _, Is.stable _, Is.stable _, Is.stable _, Is.stable _, Is.stable _, Is.stable _, Is.stable _, trivial⟩ trivial (fun _ _ _ _ h => h) trivial ?_ ?_
        · refine ⟨?a22_0, ?a22_1, ?a22_2, ?a22_3, ?a22_4, ?a22_5, ?a22_6, ?a22_7, ?a22_8, ?a22_9, ?a22_10, ?a22_11, ?a22_12, ?a22_13, ?a22_14, ?a22_15, ?a22_16, ?a22_17, ?a22_18, ?a22_19, ?a22_20, ?a22_21, ?a22_22, ?a22_23, ?a22_24, trivial⟩
          all_goals intro u w' d hf hR k1 k0 kM
          all_goals simp only [List.take_succ_cons, List.take_zero, List.map_cons, List.map_nil, puts, Act.put, List.setIfInBounds_toArray, List.set_cons_zero, List.set_cons_succ, Nat.reduceAdd, Nat.zero_add]
          case' a22_2 => simp only [show u 1 = _ from hR 1 (by kernel_rfl)]
          case' a22_3 => simp only [show u 0 = _ from hR 0 (by kernel_rfl), show u 2 = _ from hR 2 (by kernel_rfl)]
          case' a22_4 => simp only [show u 3 = _ from hR 3 (by kernel_rfl)]
          case a22_5 => simp only [show u 4 = _ from hR 4 (by kernel_rfl)]; exact .inr ⟨by kernel_rfl, _, rfl, Fr.refl _ _, rfl, trivial⟩
          case a22_6 => simp only [show u 4 = _ from hR 4 (by kernel_rfl)]; exact .inr ⟨by kernel_rfl, _, rfl, Fr.refl _ _, rfl, trivial⟩
          case a22_7 => simp only [show u 4 = _ from hR 4 (by kernel_rfl)]; exact .inr ⟨by kernel_rfl, _, rfl, Fr.refl _ _, rfl, trivial⟩
          case a22_8 => simp only [show u 4 = _ from hR 4 (by kernel_rfl)]; exact .inr ⟨by kernel_rfl, _, rfl, Fr.refl _ _, rfl, trivial⟩
          case a22_9 => simp only [show u 4 = _ from hR 4 (by kernel_rfl)]; exact .inr ⟨by kernel_rfl, _, rfl, Fr.refl _ _, rfl, trivial⟩
          case a22_10 => simp only [show u 9 = _ from hR 9 (by kernel_rfl)]; exact .inr ⟨by kernel_rfl, _, rfl, Fr.refl _ _, rfl, trivial⟩
          case a22_11 => simp only [show u 9 = _ from hR 9 (by kernel_rfl)]; exact .inr ⟨by kernel_rfl, _, rfl, Fr.refl _ _, rfl, trivial⟩
          case a22_12 => simp only [show u 9 = _ from hR 9 (by kernel_rfl)]; exact .inr ⟨by kernel_rfl, _, rfl, Fr.refl _ _, rfl, trivial⟩
          case a22_13 => simp only [show u 9 = _ from hR 9 (by kernel_rfl)]; exact .inr ⟨by kernel_rfl, _, rfl, Fr.refl _ _, rfl, trivial⟩
          case a22_14 => simp only [show u 9 = _ from hR 9 (by kernel_rfl)]; exact .inr ⟨by kernel_rfl, _, rfl, Fr.refl _ _, rfl, trivial⟩
          case a22_15 => simp only [show u 9 = _ from hR 9 (by kernel_rfl)]; exact .inr ⟨by kernel_rfl, _, rfl, Fr.refl _ _, rfl, trivial⟩
          case a22_16 => simp only [show u 9 = _ from hR 9 (by kernel_rfl)]; exact .inr ⟨by kernel_rfl, _, rfl, Fr.refl _ _, rfl, trivial⟩
          case a22_17 => simp only [show u 9 = _ from hR 9 (by kernel_rfl)]; exact .inr ⟨by kernel_rfl, _, rfl, Fr.refl _ _, rfl, trivial⟩
          case a22_18 => simp only [show u 9 = _ from hR 9 (by kernel_rfl)]; exact .inr ⟨by kernel_rfl, _, rfl, Fr.refl _ _, rfl, trivial⟩
          case a22_19 => simp only [show u 9 = _ from hR 9 (by kernel_rfl)]; exact .inr ⟨by kernel_rfl, _, rfl, Fr.refl _ _, rfl, trivial⟩
          case a22_20 => simp only [show u 9 = _ from hR 9 (by kernel_rfl)]; exact .inr ⟨by kernel_rfl, _, rfl, Fr.refl _ _, rfl, trivial⟩
          case a22_21 => simp only [show u 9 = _ from hR 9 (by kernel_rfl)]; exact .inr ⟨by kernel_rfl, _, rfl, Fr.refl _ _, rfl, trivial⟩
          case a22_22 => simp only [show u 4 = _ from hR 4 (by kernel_rfl)]; exact .inr ⟨by kernel_rfl, _, rfl, Fr.refl _ _, rfl, trivial⟩
          case' a22_23 => simp only [show u 4 = _ from hR 4 (by kernel_rfl), show u 22 = _ from hR 22 (by kernel_rfl)]
          case' a22_24 => simp only [show u 23 = _ from hR 23 (by kernel_rfl)]
          all_goals
            clear hR k1 k0 kM
            refine .inl ⟨by kernel_rfl, ?_⟩
            go_simp
            exact ⟨_, rfl, Fr.refl _ _, rfl, trivial⟩
        · intro u w' hf hR kM
          have kz : u 24 = _ := hR 24 (by omega)
          clear hR kM
          simp only [List.take_succ_cons, List.take_zero, List.map_cons, List.map_nil, puts, Act.put, List.setIfInBounds_toArray, List.set_cons_zero, List.set_cons_succ, List.drop_succ_cons, List.drop_zero, Nat.reduceAdd, Nat.zero_add, kz]
          have HF := Lib.hid hf
          clear hf kz
          have KG := Lib.hid (KG.out.behind HF.out)
          have HX : Hid (∀ jj v, (entC x)[jj]? = some v → w'.cell? ((ad.add (a * 6)).add jj) = some v) := fun jj v hv => HF.out.cellSome (HX.out jj v hv) (fun x => x)
          clear HF
          generalize w' = wr at *
          go_wp2_with (refine wpList_load_add rfl 40 (.tmp 76) rfl (ad.add (a * 6)) rfl x.1.cells _ ?hcc1 Tryd.underlying40 rfl infoN (Held.go ?hold1))
          case hcc1 => exact fun jj v hv => HX.out jj v (by rw [entC, List.getElem?_append_left (List.getElem?_eq_some_iff.1 hv).1]; exact hv)
          unfold Held
          refine wpList_built rfl 42 _ rfl (dropC x).cells.toArray _ (by simp only [List.map_toArray, List.map_cons, List.map_nil]; rfl) BD.out (Held.go ?holdb1)
          unfold Held
          refine wpList_buildSlice rfl 22 42 1 _ rfl (dropC x).cells.toArray ic zeroC Tryd.underlying22 hic hzc gc1.out gc2.out (by simp only [List.map_toArray, List.map_cons, List.map_nil]; exact gc3.out _) ?_
          refine wpList_app1 _ rfl _ _ 22 rfl 42 ic zeroC 7 80 Tryd.underlying22 hic hzc hc1 hc2 rfl (by decide) _ _ _ rfl KG.out.own 1 (dropC x).cells.toArray _ rfl rfl rfl (CV_one _) (by have := DL.out; omega) (by decide) ?_
          intro v9 w9 hG9
          have KH : Hid (Grew 42 7 w (.slice none 0 0) w9 v9 (done.length + 1) (done.flatMap CV.cells ++ (dropC x).cells)) := KG.out.trans hG9
          obtain ⟨A9, n9, c9, rfl, _, _⟩ := own_slice hG9.own
          clear hG9 KG
          go_wp2
          go_roundw
          case rel => exact ⟨a + 1, b, done ++ [dropC x], by omega, by omega, by go_num, by go_num, by rw [← HD.out, HST.out, List.append_assoc]; rfl, by rw [List.length_append, List.flatMap_append, List.flatMap_singleton]; exact KH.out⟩
          case measure => simp [intOf]; omega
    · obtain rfl : a = NA := by omega
      have ta : decide ((a : Int) < (a : Int)) = false := decide_eq_false (by omega)
      have ea : ((a : Int) == (a : Int)) = true := by simp
      by_cases hbb : b < NB
      · have tb : decide ((b : Int) < (NB : Int)) = true := decide_eq_true (by omega)
        have eb : ((b : Int) == (NB : Int)) = false := beq_eq_false_iff_ne.2 (by omega)
        have ib : (b : Int) < (NB : Int) := by omega
        have ib0 : (0 : Int) ≤ (b : Int) := by omega
        obtain ⟨bd, y, rfl, hy, hcy⟩ := (HB.out.fr0 FW.out).at_ hbb
        have HY := Lib.hid hcy
        have GY := Lib.hid hy
        clear hcy hy
        have HST := Lib.hid (diff_gt (A := LA) GY.out (.inl (by have := HLA.out; omega) : a = LA.length ∨ _))
        have BS := Lib.hid (builtCs y)
        go_upto_region 8 with fail
        refine wp_region_st 25 Nothing [Is (.int .i64 (b : Int)), Is (.slice (some bd) NB cB), Is (.int .i64 (NB : Nat)), Is (.bool false), Is (.bool false), Is (.int .i64 (a : Int)), Is (.slice A a cA), Is (.int .i64 (a : Nat)), Is (.bool false), Is (.bool false), Is (undef), Is (undef), Is (undef), Is (undef), Is (undef), Is (undef), Is (undef), Is (undef), Is (undef), Is (undef), Is (undef), Is (undef), Is (.bool false), Is (.bool false), Is (.bool false)] [] (fun _ => True) (fun _ _ => false) (by kernel_rfl) (by kernel_rfl) (by kernel_rfl) (by kernel_rfl) ⟨Is.stable _, Is.stable _, Is.stable _, Is.stable _, Is.stable _, Is.stable _, Is.stable _, Is.stable _, Is.stable _, Is.stable _, Is.stable _, Is.stable _, Is.stable _, Is.stable _, Is.stable _, Is.stable _, Is.stable _, Is.stable _, Is.stable _, Is.stable _, Is.stable _, Is.stable _, Is.stable _, Is.stable _, Is.stable _, trivial⟩ trivial (fun _ _ _ _ h => h) trivial ?_ ?_
        · refine ⟨?a23_0, ?a23_1, ?a23_2, ?a23_3, ?a23_4, ?a23_5, ?a23_6, ?a23_7, ?a23_8, ?a23_9, ?a23_10, ?a23_11, ?a23_12, ?a23_13, ?a23_14, ?a23_15, ?a23_16, ?a23_17, ?a23_18, ?a23_19, ?a23_20, ?a23_21, ?a23_22, ?a23_23, ?a23_24, trivial⟩
          all_goals intro u w' d hf hR k1 k0 kM
          all_goals simp only [List.take_succ_cons, List.take_zero, List.map_cons, List.map_nil, puts, Act.put, List.setIfInBounds_toArray, List.set_cons_zero, List.set_cons_succ, Nat.reduceAdd, Nat.zero_add]
          case' a23_2 => simp only [show u 1 = _ from hR 1 (by kernel_rfl)]
          case' a23_3 => simp only [show u 0 = _ from hR 0 (by kernel_rfl), show u 2 = _ from hR 2 (by kernel_rfl)]
          case' a23_4 => simp only [show u 3 = _ from hR 3 (by kernel_rfl)]
          case' a23_5 => simp only [show u 4 = _ from hR 4 (by kernel_rfl)]
          case' a23_6 => simp only [show u 4 = _ from hR 4 (by kernel_rfl)]
          case' a23_7 => simp only [show u 6 = _ from hR 6 (by kernel_rfl), show u 4 = _ from hR 4 (by kernel_rfl)]
          case' a23_8 => simp only [show u 5 = _ from hR 5 (by kernel_rfl), show u 7 = _ from hR 7 (by kernel_rfl), show u 4 = _ from hR 4 (by kernel_rfl)]
          case' a23_9 => simp only [show u 8 = _ from hR 8 (by kernel_rfl), show u 4 = _ from hR 4 (by kernel_rfl)]
          case a23_10 => simp only [show u 9 = _ from hR 9 (by kernel_rfl)]; exact .inr ⟨by kernel_rfl, _, rfl, Fr.refl _ _, rfl, trivial⟩
          case a23_11 => simp only [show u 9 = _ from hR 9 (by kernel_rfl)]; exact .inr ⟨by kernel_rfl, _, rfl, Fr.refl _ _, rfl, trivial⟩
          case a23_12 => simp only [show u 9 = _ from hR 9 (by kernel_rfl)]; exact .inr ⟨by kernel_rfl, _, rfl, Fr.refl _ _, rfl, trivial⟩
          case a23_13 => simp only [show u 9 = _ from hR 9 (by kernel_rfl)]; exact .inr ⟨by kernel_rfl, _, rfl, Fr.refl _ _, rfl, trivial⟩
          case a23_14 => simp only [show u 9 = _ from hR 9 (by kernel_rfl)]; exact .inr ⟨by kernel_rfl, _, rfl, Fr.refl _ _, rfl, trivial⟩
          case a23_15 => simp only [show u 9 = _ from hR 9 (by kernel_rfl)]; exact .inr ⟨by kernel_rfl, _, rfl, Fr.refl _ _, rfl, trivial⟩
          case a23_16 => simp only [show u 9 = _ from hR 9 (by kernel_rfl)]; exact .inr ⟨by kernel_rfl, _, rfl, Fr.refl _ _, rfl, trivial⟩
          case a23_17 => simp only [show u 9 = _ from hR 9 (by kernel_rfl)]; exact .inr ⟨by kernel_rfl, _, rfl, Fr.refl _ _, rfl, trivial⟩
          case a23_18 => simp only [show u 9 = _ from hR 9 (by kernel_rfl)]; exact .inr ⟨by kernel_rfl, _, rfl, Fr.refl _ _, rfl, trivial⟩
          case a23_19 => simp only [show u 9 = _ from hR 9 (by kernel_rfl)]; exact .inr ⟨by kernel_rfl, _, rfl, Fr.refl _ _, rfl, trivial⟩
          case a23_20 => simp only [show u 9 = _ from hR 9 (by kernel_rfl)]; exact .inr ⟨by kernel_rfl, _, rfl, Fr.refl _ _, rfl, trivial⟩
          case a23_21 => simp only [show u 9 = _ from hR 9 (by kernel_rfl)]; exact .inr ⟨by kernel_rfl, _, rfl, Fr.refl _ _, rfl, trivial⟩
          case' a23_22 => simp only [show u 9 = _ from hR 9 (by kernel_rfl), show u 21 = _ from hR 21 (by kernel_rfl), show u 4 = _ from hR 4 (by kernel_rfl)]
          case' a23_23 => simp only [show u 4 = _ from hR 4 (by kernel_rfl), show u 22 = _ from hR 22 (by kernel_rfl)]
          case' a23_24 => simp only [show u 23 = _ from hR 23 (by kernel_rfl)]
          all_goals
            clear hR k1 k0 kM
            refine .inl ⟨by kernel_rfl, ?_⟩
            go_simp
            exact ⟨_, rfl, Fr.refl _ _, rfl, trivial⟩
        · intro u w' hf hR kM
          have kz : u 24 = _ := hR 24 (by omega)
          clear hR kM
          simp only [List.take_succ_cons, List.take_zero, List.map_cons, List.map_nil, puts, Act.put, List.setIfInBounds_toArray, List.set_cons_zero, List.set_cons_succ, List.drop_succ_cons, List.drop_zero, Nat.reduceAdd, Nat.zero_add, kz]
          have HF := Lib.hid hf
          clear hf kz
          have KG := Lib.hid (KG.out.behind HF.out)
          have HY : Hid (∀ jj v, (entC y)[jj]? = some v → w'.cell? ((bd.add (b * 6)).add jj) = some v) := fun jj v hv => HF.out.cellSome (HY.out jj v hv) (fun x => x)
          clear HF
          generalize w' = wr at *
          go_upto_region 11 with fail
          refine wp_region_st 19 Nothing [Is (.int .i64 (a : Int)), Is (.slice A a cA), Is (.int .i64 (a : Nat)), Is (.bool true), Is (.bool true), Is (undef), Is (undef), Is (undef), Is (undef), Is (undef), Is (undef), Is (undef), Is (undef), Is (undef), Is (undef), Is (undef), Is (undef), Is (.bool true), Is (.bool true)] [] (fun _ => True) (fun _ _ => false) (by kernel_rfl) (by kernel_rfl) (by kernel_rfl) (by kernel_rfl) ⟨Is.stable _, Is.stable _, Is.stable _, Is.stable _, Is.stable _, Is.stable _, Is.stable _, Is.stable _, Is.stable _, Is.stable _, Is.stable _, Is.stable _, Is.stable _, Is.stable _, Is.stable _, Is.stable _, Is.stable _, Is.stable _, Is.stable _, trivial⟩ trivial (fun _ _ _ _ h => h) trivial ?_ ?_
          · refine ⟨?a24_0, ?a24_1, ?a24_2, ?a24_3, ?a24_4, ?a24_5, ?a24_6, ?a24_7, ?a24_8, ?a24_9, ?a24_10, ?a24_11, ?a24_12, ?a24_13, ?a24_14, ?a24_15, ?a24_16, ?a24_17, ?a24_18, trivial⟩
            all_goals intro u w' d hf hR k1 k0 kM
            all_goals simp only [List.take_succ_cons, List.take_zero, List.map_cons, List.map_nil, puts, Act.put, List.setIfInBounds_toArray, List.set_cons_zero, List.set_cons_succ, Nat.reduceAdd, Nat.zero_add]
            case' a24_2 => simp only [show u 1 = _ from hR 1 (by kernel_rfl)]
            case' a24_3 => simp only [show u 0 = _ from hR 0 (by kernel_rfl), show u 2 = _ from hR 2 (by kernel_rfl)]
            case' a24_4 => simp only [show u 3 = _ from hR 3 (by kernel_rfl)]
            case a24_5 => simp only [show u 4 = _ from hR 4 (by kernel_rfl)]; exact .inr ⟨by kernel_rfl, _, rfl, Fr.refl _ _, rfl, trivial⟩
            case a24_6 => simp only [show u 4 = _ from hR 4 (by kernel_rfl)]; exact .inr ⟨by kernel_rfl, _, rfl, Fr.refl _ _, rfl, trivial⟩
            case a24_7 => simp only [show u 4 = _ from hR 4 (by kernel_rfl)]; exact .inr ⟨by kernel_rfl, _, rfl, Fr.refl _ _, rfl, trivial⟩
            case a24_8 => simp only [show u 4 = _ from hR 4 (by kernel_rfl)]; exact .inr ⟨by kernel_rfl, _, rfl, Fr.refl _ _, rfl, trivial⟩
            case a24_9 => simp only [show u 4 = _ from hR 4 (by kernel_rfl)]; exact .inr ⟨by kernel_rfl, _, rfl, Fr.refl _ _, rfl, trivial⟩
            case a24_10 => simp only [show u 4 = _ from hR 4 (by kernel_rfl)]; exact .inr ⟨by kernel_rfl, _, rfl, Fr.refl _ _, rfl, trivial⟩
            case a24_11 => simp only [show u 4 = _ from hR 4 (by kernel_rfl)]; exact .inr ⟨by kernel_rfl, _, rfl, Fr.refl _ _, rfl, trivial⟩
            case a24_12 => simp only [show u 4 = _ from hR 4 (by kernel_rfl)]; exact .inr ⟨by kernel_rfl, _, rfl, Fr.refl _ _, rfl, trivial⟩
            case a24_13 => simp only [show u 4 = _ from hR 4 (by kernel_rfl)]; exact .inr ⟨by kernel_rfl, _, rfl, Fr.refl _ _, rfl, trivial⟩
            case a24_14 => simp only [show u 4 = _ from hR 4 (by kernel_rfl)]; exact .inr ⟨by kernel_rfl, _, rfl, Fr.refl _ _, rfl, trivial⟩
            case a24_15 => simp only [show u 4 = _ from hR 4 (by kernel_rfl)]; exact .inr ⟨by kernel_rfl, _, rfl, Fr.refl _ _, rfl, trivial⟩
            case a24_16 => simp only [show u 4 = _ from hR 4 (by kernel_rfl)]; exact .inr ⟨by kernel_rfl, _, rfl, Fr.refl _ _, rfl, trivial⟩
            case' a24_17 => simp only [show u 4 = _ from hR 4 (by kernel_rfl), show u 16 = _ from hR 16 (by kernel_rfl)]
            case' a24_18 => simp only [show u 17 = _ from hR 17 (by kernel_rfl)]
            all_goals
              clear hR k1 k0 kM
              refine .inl ⟨by kernel_rfl, ?_⟩
              go_simp
              exact ⟨_, rfl, Fr.refl _ _, rfl, trivial⟩
          · intro u w' hf hR kM
            have kz : u 18 = _ := hR 18 (by omega)
            clear hR kM
            simp only [List.take_succ_cons, List.take_zero, List.map_cons, List.map_nil, puts, Act.put, List.setIfInBounds_toArray, List.set_cons_zero, List.set_cons_succ, List.drop_succ_cons, List.drop_zero, Nat.reduceAdd, Nat.zero_add, kz]
            have HF := Lib.hid hf
            clear hf kz
            have KG := Lib.hid (KG.out.behind HF.out)
            have HY : Hid (∀ jj v, (entC y)[jj]? = some v → w'.cell? ((bd.add (b * 6)).add jj) = some v) := fun jj v hv => HF.out.cellSome (HY.out jj v hv) (fun x => x)
            clear HF
            generalize w' = wr at *
            go_upto_region 12 with fail
            refine wp_region_st 13 Nothing [Is (.slice A5 done.length c5), Is (.slice (some bd) NB cB), Is (.int .i64 (b : Int)), Is (.pointer (some (bd.add (b * 6)))), Is (.pointer (some (bd.add (b * 6)))), Is (.agg y.1.cells.toArray), Is (.slice (some bd) NB cB), Is (.int .i64 (b : Int)), Is (.pointer (some (bd.add (b * 6)))), Is (.pointer (some { block := (bd.add (b * 6)).block, off := (bd.add (b * 6)).off + 5 })), Is (.string y.2), Is (.agg (setC y).cells.toArray), (fun zv zW => ∃ g, zv = .slice (some ⟨g, 0, none⟩) 1 1 ∧ Rd zW (fun _ => True) 7 (some ⟨g, 0, none⟩) 1 (setC y).cells)] [] (fun _ => True) (fun _ _ => false) (by kernel_rfl) (by kernel_rfl) (by kernel_rfl) (by kernel_rfl) ⟨Is.stable _, Is.stable _, Is.stable _, Is.stable _, Is.stable _, Is.stable _, Is.stable _, Is.stable _, Is.stable _, Is.stable _, Is.stable _, Is.stable _, fun _ _ _ _ f h => by obtain ⟨g, e, r⟩ := h; exact ⟨g, e, r.fr0 f⟩, trivial⟩ trivial (fun _ _ _ _ h => h) trivial ?_ ?_
            · refine ⟨?a25_0, ?a25_1, ?a25_2, ?a25_3, ?a25_4, ?a25_5, ?a25_6, ?a25_7, ?a25_8, ?a25_9, ?a25_10, ?a25_11, ?a25_12, trivial⟩
              all_goals intro u w' d hf hR k1 k0 kM
              all_goals simp only [List.take_succ_cons, List.take_zero, List.map_cons, List.map_nil, puts, Act.put, List.setIfInBounds_toArray, List.set_cons_zero, List.set_cons_succ, Nat.reduceAdd, Nat.zero_add]
              case' a25_3 => simp only [show u 1 = _ from hR 1 (by kernel_rfl), show u 2 = _ from hR 2 (by kernel_rfl)]
              case' a25_4 => simp only [show u 3 = _ from hR 3 (by kernel_rfl)]
              case a25_5 =>
                simp only [show u 4 = _ from hR 4 (by kernel_rfl)]
                clear hR k1 k0 kM
                refine .inl ⟨by kernel_rfl, ?_⟩
                exact wp_load_add _ _ rfl (bd.add (b * 6)) rfl y.1.cells _ (fun jj v hv => hf.cellSome (HY.out jj v (by rw [entC, List.getElem?_append_left (List.getElem?_eq_some_iff.1 hv).1]; exact hv)) (fun x => x)) Tryd.underlying40 rfl infoN ⟨_, rfl, Fr.refl _ _, rfl, trivial⟩
              case' a25_8 => simp only [show u 6 = _ from hR 6 (by kernel_rfl), show u 7 = _ from hR 7 (by kernel_rfl)]
              case' a25_9 => simp only [show u 8 = _ from hR 8 (by kernel_rfl)]
              case a25_10 =>
                simp only [show u 9 = _ from hR 9 (by kernel_rfl)]
                clear hR k1 k0 kM
                refine .inl ⟨by kernel_rfl, ?_⟩
                have q : _ = some (Value.string y.2) := hf.cellSome (show wr.cell? { block := (bd.add (b * 6)).block, off := (bd.add (b * 6)).off + 5 } = some (.string y.2) from HY.out 5 _ rfl) (fun x => x)
                go_simp
                exact ⟨_, rfl, Fr.refl _ _, rfl, trivial⟩
              case a25_11 =>
                simp only [show u 5 = _ from hR 5 (by kernel_rfl), show u 10 = _ from hR 10 (by kernel_rfl)]
                clear hR k1 k0 kM
                refine .inl ⟨by kernel_rfl, ?_⟩
                exact wp_builtA 42 _ rfl (setC y).cells.toArray _ (by simp only [List.map_toArray, List.map_cons, List.map_nil]; rfl) BS.out ⟨_, rfl, Fr.refl _ _, rfl, trivial⟩
              case a25_12 =>
                simp only [show u 11 = _ from hR 11 (by kernel_rfl)]
                clear hR k1 k0 kM
                refine .inl ⟨by kernel_rfl, ?_⟩
                refine wp_buildSlice 22 42 1 _ rfl (setC y).cells.toArray ic zeroC Tryd.underlying22 hic hzc gc1.out gc2.out (by simp only [List.map_toArray, List.map_cons, List.map_nil]; exact gc3.out _) ?_
                exact ⟨_, rfl, (Fr.refl _ _).alloc _, ⟨_, rfl, (rd_new w' (setC y).cells.toArray 42 7 1 rfl).any⟩, trivial⟩
              all_goals
                clear hR k1 k0 kM
                refine .inl ⟨by kernel_rfl, ?_⟩
                go_simp
                exact ⟨_, rfl, Fr.refl _ _, rfl, trivial⟩
            · intro u w' hf hR kM
              have k0 : u 0 = _ := hR 0 (by omega)
              obtain ⟨g9, k12, rd9⟩ := hR 12 (by omega)
              clear hR kM
              simp only [List.take_succ_cons, List.take_zero, List.map_cons, List.map_nil, puts, Act.put, List.setIfInBounds_toArray, List.set_cons_zero, List.set_cons_succ, List.drop_succ_cons, List.drop_zero, Nat.reduceAdd, Nat.zero_add, k0, k12]
              have KG := Lib.hid (KG.out.behind hf)
              have RD9 := Lib.hid rd9
              clear hf k0 k12 rd9
              refine wpList_app _ rfl _ _ 22 rfl 42 ic zeroC 7 80 Tryd.underlying22 hic hzc hc1 hc2 rfl (by decide) _ _ _ rfl KG.out.own _ _ 1 1 _ rfl RD9.out (CV_one _) (by have := DL.out; omega) (by decide) ?_
              intro v9 w9 hG9
              have KH : Hid (Grew 42 7 w (.slice none 0 0) w9 v9 (done.length + 1) (done.flatMap CV.cells ++ (setC y).cells)) := KG.out.trans hG9
              obtain ⟨A9, n9, c9, rfl, _, _⟩ := own_slice hG9.own
              clear hG9 KG
              go_wp2
              go_roundw
              case rel => exact ⟨a, b + 1, done ++ [setC y], by omega, by omega, by go_num, by go_num, by rw [← HD.out, HST.out, List.append_assoc]; rfl, by rw [List.length_append, List.flatMap_append, List.flatMap_singleton]; exact KH.out⟩
              case measure => simp [intOf]; omega
      · obtain rfl : b = NB := by omega
        have tb : decide ((b : Int) < (b : Int)) = false := decide_eq_false (by omega)
        have hend : done = D := by
          have h := HD.out
          rw [List.drop_eq_nil_of_le (by have := HLA.out; omega), List.drop_eq_nil_of_le (by have := HLB.out; omega), diffL, List.append_nil] at h
          exact h
        go_wp2
        go_ret
        rw [← hend]
        exact ⟨_, rfl, KG.out⟩
end Go.Proofs.YtpnchdgplpdefaaDoor
