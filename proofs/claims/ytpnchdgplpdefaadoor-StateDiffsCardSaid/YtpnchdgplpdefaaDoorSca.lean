/- StateDiffs: the walk (written by genSbZ.py). -/
import Derived.Test.YtpnchdgplpdefaaDoorSbZ
import Derived.Test.YtpnchdgplpdefaaDoorSbV
import Derived.Test.YtpnchdgplpdefaaDoorSbS
namespace Go.Proofs.YtpnchdgplpdefaaDoor
open Go.RowKit Go.Shelf

set_option maxRecDepth 100000 in
set_option maxHeartbeats 4000000 in
theorem StateDiffs_any (n1 : Nat) (xs : List CV) (A1 : Option Addr) (c1 : Nat) (S1 : Nat → Prop) (n2 : Nat) (ys : List CV) (A2 : Option Addr) (c2 : Nat) (S2 : Nat → Prop) (w : World) (hD : CL w S1 A1 n1 xs) (hn : n1 ≤ 9223372036854775807) (hD2 : CL w S2 A2 n2 ys) (hn2 : n2 ≤ 9223372036854775807) (hU : UsaT w) :
    Calls Tryd.prog 5 #[.slice A1 n1 c1, .slice A2 n2 c2] w (TrueNew w) := by
  have HU := Lib.hid hU
  have CK : Hid (∀ w', Fr Nothing w w' → Calls Tryd.prog 12 #[] w' (Same' w' (.bool true))) := fun w' hf => known_any w' (HU.out.fr0 hf)
  have G1 : Hid (GoodK 24 (fillL xs n1)) := fillL_good xs n1 hD.len
  have G2 : Hid (GoodK 24 (fillL ys n2)) := fillL_good ys n2 hD2.len
  have CF1 : Hid (∀ w', Fr Nothing w w' → Calls Tryd.prog 17 #[.slice A1 n1 c1] w' (Filled w' (fillL xs n1))) := fun w' hf => fill_any n1 xs A1 c1 S1 w' (hD.fr0 hf) hn (HU.out.fr0 hf)
  have CF2 : Hid (∀ w', Fr Nothing w w' → Calls Tryd.prog 17 #[.slice A2 n2 c2] w' (Filled w' (fillL ys n2))) := fun w' hf => fill_any n2 ys A2 c2 S2 w' (hD2.fr0 hf) hn2 (HU.out.fr0 hf)
  clear hD hn hU hD2 hn2
  generalize fillL xs n1 = L1 at *
  generalize fillL ys n2 = L2 at *
  have OW : ∀ {L : List Ent}, GoodK 24 L → OwnS L := fun h => (h.good (by omega)).short
  have L60 : ∀ {L : List Ent}, GoodK 24 L → L.length ≤ 60000 := fun h => by have := h.len; omega
  have CD : Hid (∀ s1 s2 w', StL w' s1 L1 → StL w' s2 L2 → Calls Tryd.prog 23 #[.pointer (some ⟨s1, 0, none⟩), .pointer (some ⟨s2, 0, none⟩)] w' (Diffed w' (diffL L1 L2))) := fun s1 s2 w' h1 h2 => Diff_any L1 L2 s1 s2 w' h1 h2 (L60 G1.out) (L60 G2.out) (OW G1.out) (OW G2.out)
  have CR : Hid (∀ (A B : Option Addr) (NA cA NB cB : Nat) (w' : World), EL w' (fun _ => True) A NA L1 → EL w' (fun _ => True) B NB L2 → Calls Tryd.prog 24 #[.slice A NA cA, .slice B NB cB] w' (RDiffed w' (diffL L1 L2))) := fun A B NA cA NB cB w' h1 h2 => rDiff_any L1 L2 A B NA cA NB cB _ _ w' h1 h2 (by have := h1.len; have := L60 G1.out; omega) (by have := h2.len; have := L60 G2.out; omega) (OW G1.out) (OW G2.out)
  have CA : Hid (∀ (s : Nat) (n : Nat) (A : Option Addr) (c : Nat) (w' : World), StL w' s L1 → UsaT w' → CL w' (fun _ => True) A n (diffL L1 L2) → Calls Tryd.prog 25 #[.pointer (some ⟨s, 0, none⟩), .slice A n c] w' (Applied w' L1 (diffL L1 L2))) := fun s n A c w' h1 hu h2 => Apply_any L1 _ n 24 A c _ s w' h1 hu G1.out h2 (diff_small G1.out G2.out).1 (by have := diff_length L1 L2; have := h2.len; have := G1.out.len; have := G2.out.len; omega)
  have HRUN := Lib.hid (diff_run G1.out.sort G2.out.sort)
  have HOKD := Lib.hid (diff_small G1.out G2.out).2
  have HNIL := Lib.hid (diff_nil G1.out.sort G2.out.sort)
  have HDL : Hid ((diffL L1 L2).length ≤ 48) := by have := diff_length L1 L2; have := G1.out.len; have := G2.out.len; simp only [Hid]; omega
  have CE1 : Hid (∀ s1 s2 w', StL w' s1 L2 → StL w' s2 L2 → Calls Tryd.prog 26 #[.pointer (some ⟨s1, 0, none⟩), .pointer (some ⟨s2, 0, none⟩)] w' (Same' w' (.bool true))) := fun s1 s2 w' h1 h2 => Equal_any L2 L2 s1 s2 w' h1 h2 (G2.out.good (by omega)) (G2.out.good (by omega)) true ⟨fun _ => rfl, fun _ => rfl⟩
  obtain ⟨E, hE⟩ : ∃ E : Bool, (E = true ↔ L1 = L2) := by
    by_cases h : L1 = L2
    · exact ⟨true, fun _ => h, fun _ => rfl⟩
    · exact ⟨false, fun e => (by cases e), fun e => absurd e h⟩
  have HE := Lib.hid hE
  have CE2 : Hid (∀ s1 s2 w', StL w' s1 L1 → StL w' s2 L2 → Calls Tryd.prog 26 #[.pointer (some ⟨s1, 0, none⟩), .pointer (some ⟨s2, 0, none⟩)] w' (Same' w' (.bool E))) := fun s1 s2 w' h1 h2 => Equal_any L1 L2 s1 s2 w' h1 h2 (G1.out.good (by omega)) (G2.out.good (by omega)) E HE.out
  clear OW L60 hE
  generalize diffL L1 L2 = D at *
  go_enter Tryd.func5, Tryd.ntmps5
  go_wp2_with fail
  refine (CK.out _ (Fr.refl _ _)).mono ?_
  rintro e w1 ⟨rfl, f1⟩
  have F1 := Lib.hid f1
  clear f1
  go_wp2_with fail
  refine (CF1.out _ F1.out).mono ?_
  rintro e w2 ⟨s, rv, rfl, f2, hS, hR⟩
  have F2 := Lib.hid (F1.out.trans f2)
  have HS := Lib.hid hS
  have HR := Lib.hid hR
  clear f2 hS hR F1
  go_wp2_with fail
  refine (CF2.out _ F2.out).mono ?_
  rintro e w3 ⟨t, rw2, rfl, f3, hS2, hR2⟩
  have F3 := Lib.hid (F2.out.trans f3)
  have HS3 := Lib.hid (HS.out.fr0 f3)
  have HR3 := Lib.hid (HR.out.fr0 f3)
  have HT3 := Lib.hid hS2
  have HQ3 := Lib.hid hR2
  clear f3 hS2 hR2 F2 HS HR
  go_wp2_with fail
  refine (CD.out s t _ HS3.out HT3.out).mono ?_
  rintro e w4 ⟨v9, rfl, g9⟩
  have F4 := Lib.hid g9.fr0
  have O9 := Lib.hid g9.own
  clear g9
  obtain ⟨A6, m6, k6, rfl, _, _⟩ := own_slice HR3.out
  obtain ⟨A7, m7, k7, rfl, _, _⟩ := own_slice HQ3.out
  have E6 : Hid (EL w4 (fun _ => True) A6 m6 L1) := HR3.out.el.2.1.fr0 F4.out
  have E7 : Hid (EL w4 (fun _ => True) A7 m7 L2) := HQ3.out.el.2.1.fr0 F4.out
  go_wp2_with fail
  refine (CR.out A6 A7 m6 k6 m7 k7 _ E6.out E7.out).mono ?_
  rintro e w5 ⟨v8, rfl, g8⟩
  have F5 := Lib.hid g8.fr0
  have F35 := Lib.hid (F4.out.trans F5.out)
  have OA := Lib.hid (own_fr O9.out F5.out (fun _ _ x => x))
  have OB := Lib.hid g8.own
  clear g8
  obtain ⟨A8, n8, cB, rfl, H8, _⟩ := own_slice OB.out
  obtain ⟨A9, n9, cA, rfl, H9, _⟩ := own_slice OA.out
  have h8 := H8.out
  have h9 := H9.out
  generalize hdl : D.length = n at *
  subst h8
  subst h9
  have DA : Hid (CL w5 (fun _ => True) A9 n9 D) := ⟨(Rd.of_own OA.out).any, hdl⟩
  have DB : Hid (CL w5 (fun _ => True) A8 n9 D) := ⟨(Rd.of_own OB.out).any, hdl⟩
  have HLN := Lib.hid hdl
  have hn48 : n9 ≤ 48 := HDL.out
  have HI0 : Hid (IInv w5 n9 (.int .i64 0) w5) := ⟨0, by omega, rfl, Fr.refl _ _⟩
  clear OA OB H8 H9 hdl E6 E7 HR3 HQ3 O9 HDL
  go_wp2
  go_loopw [11] (fun i wr => IInv w5 n9 i wr) (fun i _ => n9 - (intOf i).toNat)
  case atStart => exact HI0.out
  case round =>
    obtain ⟨j, hj, rfl, hF⟩ := hrel
    have FR := Lib.hid hF
    clear hF HI0
    by_cases hlt : j < n9
    · have hI : (j : Int) < (n9 : Int) := by omega
      have hI0 : (0 : Int) ≤ (j : Int) := by omega
      have t0 : decide ((j : Int) < (n9 : Int)) = true := decide_eq_true hI
      obtain ⟨ad, c, rfl, hc, hx⟩ := (DA.out.fr0 FR.out).at_ hlt
      obtain ⟨bd, c', rfl, hc', hy⟩ := (DB.out.fr0 FR.out).at_ hlt
      rw [hc] at hc'
      cases hc'
      have HX := Lib.hid hx
      have HY := Lib.hid hy
      clear hc hx hy
      go_upto_region 12 with fail
      refine wp_region_st 38 Nothing [Is (.slice (some ad) n9 cA), Is (.int .i64 (j : Int)), Is (.pointer (some (ad.add (j * 7)))), Is (.pointer (some (ad.add (j * 7)))), Is (.agg c.nm.cells.toArray), Is (.agg c.nm.cells.toArray), Is (.slice (some bd) n9 cB), Is (.int .i64 (j : Int)), Is (.pointer (some (bd.add (j * 7)))), Is (.pointer (some (bd.add (j * 7)))), Is (.agg c.nm.cells.toArray), Is (.bool false), Is (.bool false), Is (.slice (some ad) n9 cA), Is (.int .i64 (j : Int)), Is (.pointer (some (ad.add (j * 7)))), Is (.pointer (some { block := (ad.add (j * 7)).block, off := (ad.add (j * 7)).off + 5 })), Is (.string c.value), Is (.slice (some bd) n9 cB), Is (.int .i64 (j : Int)), Is (.pointer (some (bd.add (j * 7)))), Is (.pointer (some { block := (bd.add (j * 7)).block, off := (bd.add (j * 7)).off + 5 })), Is (.string c.value), Is (.bool false), Is (.bool false), Is (.bool false), Is (.slice (some ad) n9 cA), Is (.int .i64 (j : Int)), Is (.pointer (some (ad.add (j * 7)))), Is (.pointer (some { block := (ad.add (j * 7)).block, off := (ad.add (j * 7)).off + 6 })), Is (.bool c.absent), Is (.slice (some bd) n9 cB), Is (.int .i64 (j : Int)), Is (.pointer (some (bd.add (j * 7)))), Is (.pointer (some { block := (bd.add (j * 7)).block, off := (bd.add (j * 7)).off + 6 })), Is (.bool c.absent), Is (.bool false), Is (.bool false)] [] (fun _ => True) (fun _ _ => false) (by kernel_rfl) (by kernel_rfl) (by kernel_rfl) (by kernel_rfl) ⟨Is.stable _, Is.stable _, Is.stable _, Is.stable _, Is.stable _, Is.stable _, Is.stable _, Is.stable _, Is.stable _, Is.stable _, Is.stable _, Is.stable _, Is.stable _, Is.stable _, Is.stable _, Is.stable _, Is.stable _, Is.stable _, Is.stable _, Is.stable _, Is.stable _, Is.stable _, Is.stable _, Is.stable _, Is.stable _, Is.stable _, Is.stable _, Is.stable _, Is.stable _, Is.stable _, Is.stable _, Is.stable _, Is.stable _, Is.stable _, Is.stable _, Is.stable _, Is.stable _, Is.stable _, trivial⟩ trivial (fun _ _ _ _ h => h) trivial ?_ ?_
      · refine ⟨?a11_0, ?a11_1, ?a11_2, ?a11_3, ?a11_4, ?a11_5, ?a11_6, ?a11_7, ?a11_8, ?a11_9, ?a11_10, ?a11_11, ?a11_12, ?a11_13, ?a11_14, ?a11_15, ?a11_16, ?a11_17, ?a11_18, ?a11_19, ?a11_20, ?a11_21, ?a11_22, ?a11_23, ?a11_24, ?a11_25, ?a11_26, ?a11_27, ?a11_28, ?a11_29, ?a11_30, ?a11_31, ?a11_32, ?a11_33, ?a11_34, ?a11_35, ?a11_36, ?a11_37, trivial⟩
        all_goals intro u w' d hf hR k1 k0 kM
        all_goals simp only [List.take_succ_cons, List.take_zero, List.map_cons, List.map_nil, puts, Act.put, List.setIfInBounds_toArray, List.set_cons_zero, List.set_cons_succ, Nat.reduceAdd, Nat.zero_add]
        case' a11_2 => simp only [show u 0 = _ from hR 0 (by kernel_rfl), show u 1 = _ from hR 1 (by kernel_rfl)]
        case' a11_3 => simp only [show u 2 = _ from hR 2 (by kernel_rfl)]
        case a11_4 =>
          simp only [show u 3 = _ from hR 3 (by kernel_rfl)]
          clear hR k1 k0 kM
          refine .inl ⟨by kernel_rfl, ?_⟩
          exact wp_load_add _ _ rfl (ad.add (j * 7)) rfl c.nm.cells _ (fun jj v hv => hf.cellSome (HX.out jj v (by rw [CV.cells, List.getElem?_append_left (List.getElem?_eq_some_iff.1 hv).1]; exact hv)) (fun x => x)) Tryd.underlying36 rfl infoName ⟨_, rfl, Fr.refl _ _, rfl, trivial⟩
        case a11_5 =>
          simp only [show u 4 = _ from hR 4 (by kernel_rfl)]
          clear hR k1 k0 kM
          refine .inl ⟨by kernel_rfl, ?_⟩
          go_simp
          refine (Of4_any c.nm _).mono ?_
          rintro e w4 ⟨rfl, f4⟩
          exact ⟨_, rfl, f4.weak, rfl, trivial⟩
        case' a11_8 => simp only [show u 6 = _ from hR 6 (by kernel_rfl), show u 7 = _ from hR 7 (by kernel_rfl)]
        case' a11_9 => simp only [show u 8 = _ from hR 8 (by kernel_rfl)]
        case a11_10 =>
          simp only [show u 9 = _ from hR 9 (by kernel_rfl)]
          clear hR k1 k0 kM
          refine .inl ⟨by kernel_rfl, ?_⟩
          exact wp_load_add _ _ rfl (bd.add (j * 7)) rfl c.nm.cells _ (fun jj v hv => hf.cellSome (HY.out jj v (by rw [CV.cells, List.getElem?_append_left (List.getElem?_eq_some_iff.1 hv).1]; exact hv)) (fun x => x)) Tryd.underlying40 rfl infoN ⟨_, rfl, Fr.refl _ _, rfl, trivial⟩
        case a11_11 =>
          simp only [show u 5 = _ from hR 5 (by kernel_rfl), show u 10 = _ from hR 10 (by kernel_rfl)]
          clear hR k1 k0 kM
          refine .inl ⟨by kernel_rfl, ?_⟩
          exact wp_binAgg _ _ _ _ _ rfl _ _ rfl rfl Tryd.eqGuardType40 _ (neqN_same c.nm _) ⟨_, rfl, Fr.refl _ _, rfl, trivial⟩
        case' a11_12 => simp only [show u 11 = _ from hR 11 (by kernel_rfl)]
        case' a11_13 => simp only [show u 12 = _ from hR 12 (by kernel_rfl)]
        case' a11_14 => simp only [show u 12 = _ from hR 12 (by kernel_rfl)]
        case' a11_15 => simp only [show u 13 = _ from hR 13 (by kernel_rfl), show u 14 = _ from hR 14 (by kernel_rfl), show u 12 = _ from hR 12 (by kernel_rfl)]
        case' a11_16 => simp only [show u 15 = _ from hR 15 (by kernel_rfl), show u 12 = _ from hR 12 (by kernel_rfl)]
        case a11_17 =>
          simp only [show u 16 = _ from hR 16 (by kernel_rfl), show u 12 = _ from hR 12 (by kernel_rfl)]
          clear hR k1 k0 kM
          refine .inl ⟨by kernel_rfl, ?_⟩
          have q : _ = some (Value.string c.value) := hf.cellSome (show wr.cell? { block := (ad.add (j * 7)).block, off := (ad.add (j * 7)).off + 5 } = some (.string c.value) from HX.out 5 _ rfl) (fun x => x)
          go_simp
          exact ⟨_, rfl, Fr.refl _ _, rfl, trivial⟩
        case' a11_18 => simp only [show u 12 = _ from hR 12 (by kernel_rfl)]
        case' a11_19 => simp only [show u 12 = _ from hR 12 (by kernel_rfl)]
        case' a11_20 => simp only [show u 18 = _ from hR 18 (by kernel_rfl), show u 19 = _ from hR 19 (by kernel_rfl), show u 12 = _ from hR 12 (by kernel_rfl)]
        case' a11_21 => simp only [show u 20 = _ from hR 20 (by kernel_rfl), show u 12 = _ from hR 12 (by kernel_rfl)]
        case a11_22 =>
          simp only [show u 21 = _ from hR 21 (by kernel_rfl), show u 12 = _ from hR 12 (by kernel_rfl)]
          clear hR k1 k0 kM
          refine .inl ⟨by kernel_rfl, ?_⟩
          have q : _ = some (Value.string c.value) := hf.cellSome (show wr.cell? { block := (bd.add (j * 7)).block, off := (bd.add (j * 7)).off + 5 } = some (.string c.value) from HY.out 5 _ rfl) (fun x => x)
          go_simp
          exact ⟨_, rfl, Fr.refl _ _, rfl, trivial⟩
        case' a11_23 => simp only [show u 17 = _ from hR 17 (by kernel_rfl), show u 22 = _ from hR 22 (by kernel_rfl), show u 12 = _ from hR 12 (by kernel_rfl)]
        case' a11_24 => simp only [show u 12 = _ from hR 12 (by kernel_rfl), show u 23 = _ from hR 23 (by kernel_rfl)]
        case' a11_25 => simp only [show u 24 = _ from hR 24 (by kernel_rfl)]
        case' a11_26 => simp only [show u 25 = _ from hR 25 (by kernel_rfl)]
        case' a11_27 => simp only [show u 25 = _ from hR 25 (by kernel_rfl)]
        case' a11_28 => simp only [show u 26 = _ from hR 26 (by kernel_rfl), show u 27 = _ from hR 27 (by kernel_rfl), show u 25 = _ from hR 25 (by kernel_rfl)]
        case' a11_29 => simp only [show u 28 = _ from hR 28 (by kernel_rfl), show u 25 = _ from hR 25 (by kernel_rfl)]
        case a11_30 =>
          simp only [show u 29 = _ from hR 29 (by kernel_rfl), show u 25 = _ from hR 25 (by kernel_rfl)]
          clear hR k1 k0 kM
          refine .inl ⟨by kernel_rfl, ?_⟩
          have q : _ = some (Value.bool c.absent) := hf.cellSome (show wr.cell? { block := (ad.add (j * 7)).block, off := (ad.add (j * 7)).off + 6 } = some (.bool c.absent) from HX.out 6 _ rfl) (fun x => x)
          go_simp
          exact ⟨_, rfl, Fr.refl _ _, rfl, trivial⟩
        case' a11_31 => simp only [show u 25 = _ from hR 25 (by kernel_rfl)]
        case' a11_32 => simp only [show u 25 = _ from hR 25 (by kernel_rfl)]
        case' a11_33 => simp only [show u 31 = _ from hR 31 (by kernel_rfl), show u 32 = _ from hR 32 (by kernel_rfl), show u 25 = _ from hR 25 (by kernel_rfl)]
        case' a11_34 => simp only [show u 33 = _ from hR 33 (by kernel_rfl), show u 25 = _ from hR 25 (by kernel_rfl)]
        case a11_35 =>
          simp only [show u 34 = _ from hR 34 (by kernel_rfl), show u 25 = _ from hR 25 (by kernel_rfl)]
          clear hR k1 k0 kM
          refine .inl ⟨by kernel_rfl, ?_⟩
          have q : _ = some (Value.bool c.absent) := hf.cellSome (show wr.cell? { block := (bd.add (j * 7)).block, off := (bd.add (j * 7)).off + 6 } = some (.bool c.absent) from HY.out 6 _ rfl) (fun x => x)
          go_simp
          exact ⟨_, rfl, Fr.refl _ _, rfl, trivial⟩
        case' a11_36 => simp only [show u 30 = _ from hR 30 (by kernel_rfl), show u 35 = _ from hR 35 (by kernel_rfl), show u 25 = _ from hR 25 (by kernel_rfl)]
        case' a11_37 => simp only [show u 25 = _ from hR 25 (by kernel_rfl), show u 36 = _ from hR 36 (by kernel_rfl)]
        all_goals
          clear hR k1 k0 kM
          refine .inl ⟨by kernel_rfl, ?_⟩
          go_simp
          exact ⟨_, rfl, Fr.refl _ _, rfl, trivial⟩
      · intro u w' hf hR kM
        have k37 : u 37 = _ := hR 37 (by omega)
        clear hR kM
        simp only [List.take_succ_cons, List.take_zero, List.map_cons, List.map_nil, puts, Act.put, List.setIfInBounds_toArray, List.set_cons_zero, List.set_cons_succ, List.drop_succ_cons, List.drop_zero, Nat.reduceAdd, Nat.zero_add, k37]
        have FX := Lib.hid (FR.out.trans hf)
        clear hf k37
        go_wp2
        go_roundw
        case rel => exact ⟨j + 1, by omega, by go_num, FX.out⟩
        case measure => simp [intOf]; omega
    · obtain rfl : j = n9 := by omega
      have t0 : decide ((j : Int) < (j : Int)) = false := decide_eq_false (by omega)
      have F6 : Hid (Fr Nothing w3 wr) := F35.out.trans FR.out
      have U6 : Hid (UsaT wr) := HU.out.fr0 (F3.out.trans F6.out)
      go_wp2_with fail
      refine (CA.out s j A9 cA _ (HS3.out.fr0 F6.out) U6.out (DA.out.fr0 FR.out)).mono ?_
      rintro e w7 ⟨p, q, rfl, f7, hcase⟩
      have F7 := Lib.hid (F6.out.trans f7)
      obtain ⟨rfl, s7, rfl, hs7⟩ : q = 0 ∧ ∃ s', p = some ⟨s', 0, none⟩ ∧ StL w7 s' L2 := by
        rcases hcase with ⟨_, h0, s', hp, hs⟩ | ⟨⟨c, hc, ho⟩, _, _⟩
        · rw [HRUN.out] at hs
          exact ⟨h0, s', hp, hs⟩
        · rw [HOKD.out c hc] at ho
          cases ho
      have HS7 := Lib.hid hs7
      clear f7 hcase hs7
      go_wp2_with fail
      refine (CE1.out s7 t _ HS7.out (HT3.out.fr0 F7.out)).mono ?_
      rintro e w8 ⟨rfl, f8⟩
      have F8 := Lib.hid (F7.out.trans f8)
      clear f8
      go_wp2_with fail
      refine (CE2.out s t _ (HS3.out.fr0 F8.out) (HT3.out.fr0 F8.out)).mono ?_
      rintro e w9 ⟨rfl, f9⟩
      have F9 := Lib.hid (F8.out.trans f9)
      clear f9
      cases E
      · have hj0 : ((j : Int) == 0) = false := beq_eq_false_iff_ne.2 (fun h => Bool.false_ne_true (HE.out.2 (HNIL.out.1 (List.length_eq_zero_iff.1 (by have := HLN.out; omega)))))
        go_wp2
        go_ret
        exact ⟨rfl, F3.out.trans F9.out⟩
      · obtain rfl : j = 0 := by rw [← HLN.out, HNIL.out.2 (HE.out.1 rfl)]; rfl
        go_wp2
        go_ret
        exact ⟨rfl, F3.out.trans F9.out⟩
end Go.Proofs.YtpnchdgplpdefaaDoor
