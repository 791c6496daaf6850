/- StateOrder: the walk (written by genSch.py). -/
import Derived.Test.YtpnchdgplpdefaaDoorGwE
import Derived.Test.YtpnchdgplpdefaaDoorSbY
import Derived.Test.YtpnchdgplpdefaaDoorSbZ
import Derived.Test.YtpnchdgplpdefaaDoorSbS
namespace Go.Proofs.YtpnchdgplpdefaaDoor
open Go.RowKit Go.Shelf

set_option maxRecDepth 100000 in
theorem eqNm_any (a b : NameV) (w : World) : (binOp .eql 36 (.agg a.cells.toArray) (.agg b.cells.toArray)).run Tryd.prog w = .ok (.bool (eqB a b)) w := by
  by_cases h : a = b
  · subst h
    have e : eqB a a = true := by unfold eqB; exact beq_iff_eq.2 (cmpN_is.refl _)
    rw [e]
    obtain ⟨k, o, n, i, t⟩ := a
    simp only [NameV.cells]
    go_simp
  · have e : eqB a b = false := by unfold eqB; exact beq_eq_false_iff_ne.2 (fun e => h (cmpN_is.eq _ _ e))
    rw [e]
    obtain ⟨k, o, n, i, t⟩ := a
    obtain ⟨k', o', n', i', t'⟩ := b
    simp only [NameV.cells]
    go_simp
    intro h1 h2 h3 h4 h5
    exact h (by rw [h1, toList_inj h2, h3, h4, toList_inj h5])
theorem CV_one' (c : CV) : ∀ u ∈ c.cells, u.oneCell' = true := fun u hu => by
  have h := c.one
  rw [Array.all_eq_true_iff_forall_mem] at h
  exact h u (by simpa using hu)
def PickI (w3 : World) (zs : List CV) (N : Nat) (cs i : Value) (wr : World) : Prop := ∃ k : Nat, k ≤ N ∧ i = .int .i64 (k : Int) ∧ Grew 38 7 w3 (.slice none 0 0) wr cs (pickL (zs.take k)).length ((pickL (zs.take k)).flatMap CV.cells)
def AnyI (w5 : World) (P : List CV) (z : CV) (g0 : Bool) (g j : Value) (wq : World) : Prop := ∃ m : Nat, m ≤ P.length ∧ j = .int .i64 (m : Int) ∧ g = .bool (g0 || (P.take m).any (fun y => eqB y.nm z.nm)) ∧ Fr Nothing w5 wq
theorem any_next {P : List CV} {m : Nat} {y z : CV} (h : P[m]? = some y) : (P.take (m + 1)).any (fun y => eqB y.nm z.nm) = ((P.take m).any (fun y => eqB y.nm z.nm) || eqB y.nm z.nm) := by
  rw [List.take_add_one, h, Option.toList_some, List.any_append]
  simp
def RotI (w6 : World) (P : List CV) (t : Nat) (ds i : Value) (wr : World) : Prop := ∃ k : Nat, k ≤ P.length ∧ i = .int .i64 (k : Int) ∧ Grew 38 7 w6 (.slice none 0 0) wr ds k ((rotK P t k).flatMap CV.cells)

set_option maxRecDepth 100000 in
set_option maxHeartbeats 8000000 in
theorem StateOrder_any (n1 : Nat) (xs : List CV) (A1 : Option Addr) (c1 : Nat) (S1 : Nat → Prop) (n2 : Nat) (ys : List CV) (A2 : Option Addr) (c2 : Nat) (S2 : Nat → Prop) (tn : Nat) (w : World) (hD : CL w S1 A1 n1 xs) (hn : n1 ≤ 9223372036854775807) (hD2 : CL w S2 A2 n2 ys) (hn2 : n2 ≤ 9223372036854775807) (htn : tn ≤ 255) (hU : UsaT w) :
    Calls Tryd.prog 8 #[.slice A1 n1 c1, .slice A2 n2 c2, .int .u8 (tn : Int)] w (TrueNew w) := by
  obtain ⟨ic, hic, hzc, hc1, hc2⟩ := info_parts zinfoCh
  have gc1 : Hid (¬ 1 * ic.size > 2 ^ 24) := by simp only [Hid]; rw [hc1]; omega
  have gc2 : Hid (¬ 1 * ic.size = 0) := by simp only [Hid]; rw [hc1]; omega
  have gc3 : Hid (∀ c : CV, Instr.fill (fun i => some (i * ic.size, ic.size)) ((Array.range (1 * ic.size)).map (zeroC.cells[· % zeroC.cells.size]!)) [(0, .agg c.cells.toArray)] = some c.cells.toArray) := fun c => by rw [hc1]; exact fill_seven _ _ rfl (by simp [zeroC, Value.cells])
  have HU := Lib.hid hU
  have CK : Hid (∀ w', Fr Nothing w w' → Calls Tryd.prog 12 #[] w' (Same' w' (.bool true))) := fun w' hf => known_any w' (HU.out.fr0 hf)
  have G1 : Hid (GoodK 24 (fillL xs n1)) := fillL_good xs n1 hD.len
  have CF1 : Hid (∀ w', Fr Nothing w w' → Calls Tryd.prog 17 #[.slice A1 n1 c1] w' (Filled w' (fillL xs n1))) := fun w' hf => fill_any n1 xs A1 c1 S1 w' (hD.fr0 hf) hn (HU.out.fr0 hf)
  have CT : Hid (∀ w', Fr Nothing w w' → Calls Tryd.prog 14 #[.slice A2 n2 c2] w' (Toed w' (min n2 24) (fillC ys n2))) := fun w' hf => To_cl n2 ys A2 c2 S2 w' (hD2.fr0 hf) hn2
  have HX := Lib.hid (fillC_small ys n2)
  have HYL : Hid ((fillC ys n2).length = min n2 24) := by simp only [Hid]; rw [fillC, List.length_map, List.length_take, hD2.len]; omega
  have HN24 : Hid (min n2 24 ≤ 24) := by simp only [Hid]; omega
  clear hD hn hU hD2 hn2
  generalize fillL xs n1 = L1 at *
  generalize fillC ys n2 = zs at *
  generalize min n2 24 = N at *
  go_enter Tryd.func8, Tryd.ntmps8
  go_wp2_with fail
  refine (CK.out _ (Fr.refl _ _)).mono ?_
  rintro e w1 ⟨rfl, f1⟩
  have F1 := Lib.hid f1
  clear f1
  go_wp2_with fail
  refine (CF1.out _ F1.out).mono ?_
  rintro e w2 ⟨s, rv, rfl, f2, hS, hR⟩
  have F2 := Lib.hid (F1.out.trans f2)
  have HS := Lib.hid hS
  clear f2 hS hR F1
  go_wp2_with fail
  refine (CT.out _ F2.out).mono ?_
  rintro e w3 ⟨A4, c4, A5, c5, rfl, f3, tr⟩
  have F3 := Lib.hid (F2.out.trans f3)
  have HS3 := Lib.hid (HS.out.fr0 f3)
  have D4 := Lib.hid tr.cl4
  have HC0 : Hid (PickI w3 zs N (.slice none 0 0) (.int .i64 0) w3) := ⟨0, by omega, rfl, Grew.start ⟨rfl, .inl ⟨rfl, rfl⟩⟩⟩
  clear f3 tr HS F2 CK CF1 CT
  go_wp2
  go_loopw [11, 12] (fun cs i wr => PickI w3 zs N cs i wr) (fun _ i _ => N - (intOf i).toNat)
  case atStart => exact HC0.out
  case round =>
    obtain ⟨k, hk, rfl, hG⟩ := hrel
    have KG := Lib.hid hG
    have FW : Hid (Fr Nothing w3 wr) := hG.fr0
    obtain ⟨A6, n6, c6, rfl, H6, _⟩ := own_slice hG.own
    obtain rfl : n6 = (pickL (zs.take k)).length := H6.out
    have hN24 : N ≤ 24 := HN24.out
    have PKK : Hid (Picked zs (pickL (zs.take k)) ∧ (pickL (zs.take k)).length ≤ k) := pickL_ok zs k (by have := HYL.out; omega)
    clear hG H6 HC0
    by_cases hlt : k < N
    · have hI : (k : Int) < (N : Int) := by omega
      have hI0 : (0 : Int) ≤ (k : Int) := by omega
      have t0 : decide ((k : Int) < (N : Int)) = true := decide_eq_true hI
      obtain ⟨ad, z, rfl, hz, hcz⟩ := (D4.out.fr0 FW.out).at_ hlt
      have HZ := Lib.hid hcz
      have HT := Lib.hid (pickL_take hz)
      have SZ : Hid (SmallC z) := HX.out z (List.mem_of_getElem? hz)
      clear hcz hz
      generalize pickL (zs.take k) = P at *
      have hP24 : P.length ≤ 24 := by have := PKK.out.2; omega
      have CH : Hid (Calls Tryd.prog 30 #[.agg z.nm.cells.toArray] wr (Checked wr z.nm)) := Check_any z.nm wr (HU.out.fr0 (F3.out.trans FW.out)) (by have := SZ.out.owner; omega) (by have := SZ.out.text; omega)
      go_wp2_with (refine wpList_load_add rfl 36 (.tmp 42) rfl (ad.add (k * 7)) rfl z.nm.cells _ ?hcc1 Tryd.underlying36 rfl infoName (Held.go ?hold1))
      case hcc1 => exact fun jj v hv => HZ.out jj v (by rw [CV.cells, List.getElem?_append_left (List.getElem?_eq_some_iff.1 hv).1]; exact hv)
      unfold Held
      go_wp2_with fail
      refine CH.out.mono ?_
      rintro e w5 ⟨q, rfl, hq, f5⟩
      obtain ⟨g0, hg0⟩ : ∃ g0, (q != 0) = g0 := ⟨_, rfl⟩
      have HG0 : Hid (g0 = !okNm z.nm) := by rw [← hq, ← hg0]; rfl
      have F5 := Lib.hid f5
      have HI0 : Hid (AnyI w5 P z g0 (.bool g0) (.int .i64 0) w5) := ⟨0, by omega, rfl, by simp, Fr.refl _ _⟩
      have DP : Hid (CL w5 (fun _ => True) A6 P.length P) := ⟨(Rd.of_own (own_fr KG.out.own f5 (fun _ _ x => x))).any, rfl⟩
      have KG5 := Lib.hid (KG.out.behind f5)
      have HZ5 : Hid (∀ jj v, z.cells[jj]? = some v → w5.cell? ((ad.add (k * 7)).add jj) = some v) := fun jj v hv => f5.cellSome (HZ.out jj v hv) (fun x => x)
      clear f5 hq CH KG HZ
      generalize hPL : P.length = pl at *
      have HPL := Lib.hid hPL
      clear hPL
      go_wp2
      go_loopw [13, 14] (fun g j wr => AnyI w5 P z g0 g j wr) (fun _ j _ => pl - (intOf j).toNat)
      case atStart => exact HI0.out
      case round =>
        obtain ⟨m, hm, rfl, rfl, hF⟩ := hrel
        have FQ := Lib.hid hF
        have hm' : m ≤ pl := by have := HPL.out; omega
        clear hF HI0 hm
        by_cases hml : m < pl
        · have mI : (m : Int) < (pl : Int) := by omega
          have mI0 : (0 : Int) ≤ (m : Int) := by omega
          have t1 : decide ((m : Int) < (pl : Int)) = true := decide_eq_true mI
          obtain ⟨bd, y, rfl, hy, hcy⟩ := (DP.out.fr0 FQ.out).at_ hml
          have HY := Lib.hid hcy
          have HN := Lib.hid (any_next (z := z) hy)
          have HZQ : Hid (∀ jj v, z.cells[jj]? = some v → wr.cell? ((ad.add (k * 7)).add jj) = some v) := fun jj v hv => FQ.out.cellSome (HZ5.out jj v hv) (fun x => x)
          clear hcy hy
          generalize hav : (P.take m).any (fun y => eqB y.nm z.nm) = av at *
          clear hav
          obtain ⟨G, hG⟩ : ∃ G, (g0 || av) = G := ⟨_, rfl⟩
          have HGV := Lib.hid hG
          rw [hG]
          clear hG
          cases G
          · go_upto_region 13 with fail
            refine wp_region_sr [(14, .bool false)] ?hIfalse 15 Nothing [Is (.bool false), Is (.bool false), Is (.slice (some bd) pl c6), Is (.int .i64 (m : Int)), Is (.pointer (some (bd.add (m * 7)))), Is (.pointer (some (bd.add (m * 7)))), Is (.agg y.nm.cells.toArray), Is (.slice (some ad) N c4), Is (.int .i64 (k : Int)), Is (.pointer (some (ad.add (k * 7)))), Is (.pointer (some (ad.add (k * 7)))), Is (.agg z.nm.cells.toArray), Is (.bool (eqB y.nm z.nm)), Is (.bool (eqB y.nm z.nm)), Is (.bool (eqB y.nm z.nm))] [] (fun _ => True) (fun p i => p == 0 && i == 14) (by rfl) (by kernel_rfl) (by kernel_rfl) (by kernel_rfl) (by kernel_rfl) ⟨Is.stable _, Is.stable _, Is.stable _, Is.stable _, Is.stable _, Is.stable _, Is.stable _, Is.stable _, Is.stable _, Is.stable _, Is.stable _, Is.stable _, Is.stable _, Is.stable _, Is.stable _, trivial⟩ trivial (fun _ _ _ _ h => h) trivial ?_ ?_
            · intro u h x hx
              simp only [List.map_cons, List.map_nil, puts, Act.put, List.setIfInBounds_toArray, List.set_cons_zero, List.set_cons_succ, Nat.reduceAdd, Nat.zero_add, Act.mk.injEq, Array.mk.injEq, List.cons.injEq, true_and, and_true] at h
              simp only [List.mem_cons, List.not_mem_nil, or_false] at hx
              rcases hx with rfl
              first | exact h | exact h.1
            · refine ⟨?a11_0, ?a11_1, ?a11_2, ?a11_3, ?a11_4, ?a11_5, ?a11_6, ?a11_7, ?a11_8, ?a11_9, ?a11_10, ?a11_11, ?a11_12, ?a11_13, ?a11_14, trivial⟩
              all_goals intro u w' d hf hR k1 k0 kM kI
              all_goals simp only [List.take_succ_cons, List.take_zero, List.map_cons, List.map_nil, puts, Act.put, List.setIfInBounds_toArray, List.set_cons_zero, List.set_cons_succ, Nat.reduceAdd, Nat.zero_add]
              case a11_0 =>
                clear hR k1 kM
                refine .inl ⟨by kernel_rfl, ?_⟩
                have e14 : u 14 = .bool false := kI (14, .bool false) (by simp) (k0 14 (by kernel_rfl))
                clear kI k0
                go_simp
                exact ⟨_, rfl, Fr.refl _ _, rfl, trivial⟩
              case' a11_1 => simp only [show u 0 = _ from hR 0 (by kernel_rfl)]
              case' a11_2 => simp only [show u 1 = _ from hR 1 (by kernel_rfl)]
              case' a11_3 => simp only [show u 1 = _ from hR 1 (by kernel_rfl)]
              case' a11_4 => simp only [show u 2 = _ from hR 2 (by kernel_rfl), show u 3 = _ from hR 3 (by kernel_rfl), show u 1 = _ from hR 1 (by kernel_rfl)]
              case' a11_5 => simp only [show u 4 = _ from hR 4 (by kernel_rfl), show u 1 = _ from hR 1 (by kernel_rfl)]
              case a11_6 =>
                simp only [show u 5 = _ from hR 5 (by kernel_rfl), show u 1 = _ from hR 1 (by kernel_rfl)]
                clear hR k1 k0 kM
                refine .inl ⟨by kernel_rfl, ?_⟩
                exact wp_load_add _ _ rfl (bd.add (m * 7)) rfl y.nm.cells _ (fun jj v hv => hf.cellSome (HY.out jj v (by rw [CV.cells, List.getElem?_append_left (List.getElem?_eq_some_iff.1 hv).1]; exact hv)) (fun x => x)) Tryd.underlying36 rfl infoName ⟨_, rfl, Fr.refl _ _, rfl, trivial⟩
              case' a11_7 => simp only [show u 1 = _ from hR 1 (by kernel_rfl)]
              case' a11_8 => simp only [show u 1 = _ from hR 1 (by kernel_rfl)]
              case' a11_9 => simp only [show u 7 = _ from hR 7 (by kernel_rfl), show u 8 = _ from hR 8 (by kernel_rfl), show u 1 = _ from hR 1 (by kernel_rfl)]
              case' a11_10 => simp only [show u 9 = _ from hR 9 (by kernel_rfl), show u 1 = _ from hR 1 (by kernel_rfl)]
              case a11_11 =>
                simp only [show u 10 = _ from hR 10 (by kernel_rfl), show u 1 = _ from hR 1 (by kernel_rfl)]
                clear hR k1 k0 kM
                refine .inl ⟨by kernel_rfl, ?_⟩
                exact wp_load_add _ _ rfl (ad.add (k * 7)) rfl z.nm.cells _ (fun jj v hv => hf.cellSome (HZQ.out jj v (by rw [CV.cells, List.getElem?_append_left (List.getElem?_eq_some_iff.1 hv).1]; exact hv)) (fun x => x)) Tryd.underlying36 rfl infoName ⟨_, rfl, Fr.refl _ _, rfl, trivial⟩
              case a11_12 =>
                simp only [show u 6 = _ from hR 6 (by kernel_rfl), show u 11 = _ from hR 11 (by kernel_rfl), show u 1 = _ from hR 1 (by kernel_rfl)]
                clear hR k1 k0 kM
                refine .inl ⟨by kernel_rfl, ?_⟩
                exact wp_binAgg _ _ _ _ _ rfl _ _ rfl rfl Tryd.eqGuardType36 _ (eqNm_any y.nm z.nm _) ⟨_, rfl, Fr.refl _ _, rfl, trivial⟩
              case' a11_13 => simp only [show u 1 = _ from hR 1 (by kernel_rfl), show u 12 = _ from hR 12 (by kernel_rfl)]
              case' a11_14 => simp only [show u 13 = _ from hR 13 (by kernel_rfl)]
              all_goals
                clear hR k1 k0 kM
                refine .inl ⟨by kernel_rfl, ?_⟩
                go_simp
                exact ⟨_, rfl, Fr.refl _ _, rfl, trivial⟩
            · intro u w' hf hR kM
              have kz : u 14 = _ := hR 14 (by omega)
              clear hR kM
              simp only [List.take_succ_cons, List.take_zero, List.map_cons, List.map_nil, puts, Act.put, List.setIfInBounds_toArray, List.set_cons_zero, List.set_cons_succ, List.drop_succ_cons, List.drop_zero, Nat.reduceAdd, Nat.zero_add, kz]
              have HF := Lib.hid (FQ.out.trans hf)
              clear hf kz
              go_wp2
              go_roundw
              case rel =>
                refine ⟨m + 1, by have := HPL.out; omega, by go_num, ?_, HF.out⟩
                rw [HN.out, ← Bool.or_assoc, HGV.out]
                rfl
              case measure => simp [intOf]; omega
          · go_upto_region 13 with fail
            refine wp_region_sr [(14, .bool true)] ?hItrue 15 Nothing [Is (.bool true), Is (.bool true), Is (undef), Is (undef), Is (undef), Is (undef), Is (undef), Is (undef), Is (undef), Is (undef), Is (undef), Is (undef), Is (undef), Is (.bool true), Is (.bool true)] [] (fun _ => True) (fun p i => p == 0 && i == 14) (by rfl) (by kernel_rfl) (by kernel_rfl) (by kernel_rfl) (by kernel_rfl) ⟨Is.stable _, Is.stable _, Is.stable _, Is.stable _, Is.stable _, Is.stable _, Is.stable _, Is.stable _, Is.stable _, Is.stable _, Is.stable _, Is.stable _, Is.stable _, Is.stable _, Is.stable _, trivial⟩ trivial (fun _ _ _ _ h => h) trivial ?_ ?_
            · intro u h x hx
              simp only [List.map_cons, List.map_nil, puts, Act.put, List.setIfInBounds_toArray, List.set_cons_zero, List.set_cons_succ, Nat.reduceAdd, Nat.zero_add, Act.mk.injEq, Array.mk.injEq, List.cons.injEq, true_and, and_true] at h
              simp only [List.mem_cons, List.not_mem_nil, or_false] at hx
              rcases hx with rfl
              first | exact h | exact h.1
            · refine ⟨?a12_0, ?a12_1, ?a12_2, ?a12_3, ?a12_4, ?a12_5, ?a12_6, ?a12_7, ?a12_8, ?a12_9, ?a12_10, ?a12_11, ?a12_12, ?a12_13, ?a12_14, trivial⟩
              all_goals intro u w' d hf hR k1 k0 kM kI
              all_goals simp only [List.take_succ_cons, List.take_zero, List.map_cons, List.map_nil, puts, Act.put, List.setIfInBounds_toArray, List.set_cons_zero, List.set_cons_succ, Nat.reduceAdd, Nat.zero_add]
              case a12_0 =>
                clear hR k1 kM
                refine .inl ⟨by kernel_rfl, ?_⟩
                have e14 : u 14 = .bool true := kI (14, .bool true) (by simp) (k0 14 (by kernel_rfl))
                clear kI k0
                go_simp
                exact ⟨_, rfl, Fr.refl _ _, rfl, trivial⟩
              case' a12_1 => simp only [show u 0 = _ from hR 0 (by kernel_rfl)]
              case a12_2 => simp only [show u 1 = _ from hR 1 (by kernel_rfl)]; exact .inr ⟨by kernel_rfl, _, rfl, Fr.refl _ _, rfl, trivial⟩
              case a12_3 => simp only [show u 1 = _ from hR 1 (by kernel_rfl)]; exact .inr ⟨by kernel_rfl, _, rfl, Fr.refl _ _, rfl, trivial⟩
              case a12_4 => simp only [show u 1 = _ from hR 1 (by kernel_rfl)]; exact .inr ⟨by kernel_rfl, _, rfl, Fr.refl _ _, rfl, trivial⟩
              case a12_5 => simp only [show u 1 = _ from hR 1 (by kernel_rfl)]; exact .inr ⟨by kernel_rfl, _, rfl, Fr.refl _ _, rfl, trivial⟩
              case a12_6 => simp only [show u 1 = _ from hR 1 (by kernel_rfl)]; exact .inr ⟨by kernel_rfl, _, rfl, Fr.refl _ _, rfl, trivial⟩
              case a12_7 => simp only [show u 1 = _ from hR 1 (by kernel_rfl)]; exact .inr ⟨by kernel_rfl, _, rfl, Fr.refl _ _, rfl, trivial⟩
              case a12_8 => simp only [show u 1 = _ from hR 1 (by kernel_rfl)]; exact .inr ⟨by kernel_rfl, _, rfl, Fr.refl _ _, rfl, trivial⟩
              case a12_9 => simp only [show u 1 = _ from hR 1 (by kernel_rfl)]; exact .inr ⟨by kernel_rfl, _, rfl, Fr.refl _ _, rfl, trivial⟩
              case a12_10 => simp only [show u 1 = _ from hR 1 (by kernel_rfl)]; exact .inr ⟨by kernel_rfl, _, rfl, Fr.refl _ _, rfl, trivial⟩
              case a12_11 => simp only [show u 1 = _ from hR 1 (by kernel_rfl)]; exact .inr ⟨by kernel_rfl, _, rfl, Fr.refl _ _, rfl, trivial⟩
              case a12_12 => simp only [show u 1 = _ from hR 1 (by kernel_rfl)]; exact .inr ⟨by kernel_rfl, _, rfl, Fr.refl _ _, rfl, trivial⟩
              case' a12_13 => simp only [show u 1 = _ from hR 1 (by kernel_rfl), show u 12 = _ from hR 12 (by kernel_rfl)]
              case' a12_14 => simp only [show u 13 = _ from hR 13 (by kernel_rfl)]
              all_goals
                clear hR k1 k0 kM
                refine .inl ⟨by kernel_rfl, ?_⟩
                go_simp
                exact ⟨_, rfl, Fr.refl _ _, rfl, trivial⟩
            · intro u w' hf hR kM
              have kz : u 14 = _ := hR 14 (by omega)
              clear hR kM
              simp only [List.take_succ_cons, List.take_zero, List.map_cons, List.map_nil, puts, Act.put, List.setIfInBounds_toArray, List.set_cons_zero, List.set_cons_succ, List.drop_succ_cons, List.drop_zero, Nat.reduceAdd, Nat.zero_add, kz]
              have HF := Lib.hid (FQ.out.trans hf)
              clear hf kz
              go_wp2
              go_roundw
              case rel =>
                refine ⟨m + 1, by have := HPL.out; omega, by go_num, ?_, HF.out⟩
                rw [HN.out, ← Bool.or_assoc, HGV.out]
                rfl
              case measure => simp [intOf]; omega
        · obtain rfl : m = pl := by omega
          have t1 : decide ((m : Int) < (m : Int)) = false := decide_eq_false (by omega)
          have hx : P.take m = P := List.take_of_length_le (by have := HPL.out; omega)
          rw [hx]
          have HAD : Hid (addC P z = if (g0 || P.any (fun y => eqB y.nm z.nm)) = true then P else P ++ [z]) := by rw [HG0.out]; rfl
          generalize (g0 || P.any (fun y => eqB y.nm z.nm)) = G at *
          have KQ := Lib.hid (KG5.out.behind FQ.out)
          cases G
          · have HA2 : Hid (addC P z = P ++ [z]) := by rw [HAD.out]; rfl
            clear HAD
            go_wp2_with (refine wpList_load_add rfl 38 (.tmp 71) rfl (ad.add (k * 7)) rfl z.cells _ ?hcc2 Tryd.underlying38 rfl infoCh (Held.go ?hold2))
            case hcc2 => exact fun jj v hv => FQ.out.cellSome (HZ5.out jj v hv) (fun x => x)
            unfold Held
            refine wpList_buildSlice rfl 29 38 1 _ rfl z.cells.toArray ic zeroC Tryd.underlying29 hic hzc gc1.out gc2.out (by simp only [List.map_toArray, List.map_cons, List.map_nil]; exact gc3.out _) ?_
            refine wpList_app1 _ rfl _ _ 29 rfl 38 ic zeroC 7 80 Tryd.underlying29 hic hzc hc1 hc2 rfl (by decide) _ _ _ rfl KQ.out.own 1 z.cells.toArray _ rfl rfl rfl (CV_one' _) (by omega) (by decide) ?_
            intro v9 w9 hG9
            have KH : Hid (Grew 38 7 w3 (.slice none 0 0) w9 v9 (m + 1) (P.flatMap CV.cells ++ z.cells)) := KQ.out.trans hG9
            obtain ⟨A9, n9, c9, rfl, _, _⟩ := own_slice hG9.own
            clear hG9
            go_wp2
            go_roundw
            case rel =>
              refine ⟨k + 1, by omega, by go_num, ?_⟩
              rw [HT.out, HA2.out, List.length_append, List.flatMap_append, List.flatMap_singleton, HPL.out]
              exact KH.out
            case measure => simp [intOf]; omega
          · have HA2 : Hid (addC P z = P) := by rw [HAD.out]; rfl
            clear HAD
            go_wp2
            go_roundw
            case rel =>
              refine ⟨k + 1, by omega, by go_num, ?_⟩
              rw [HT.out, HA2.out, HPL.out]
              exact KQ.out
            case measure => simp [intOf]; omega
    · obtain rfl : k = N := by omega
      have t0 : decide ((k : Int) < (k : Int)) = false := decide_eq_false (by omega)
      generalize wr = w6 at *
      generalize pickL (zs.take k) = P at *
      have hP24 : P.length ≤ 24 := by have := PKK.out.2; omega
      have DP : Hid (CL w6 (fun _ => True) A6 P.length P) := ⟨(Rd.of_own KG.out.own).any, rfl⟩
      have HC1 : Hid (RotI w6 P tn (.slice none 0 0) (.int .i64 0) w6) := ⟨0, by omega, rfl, Grew.start ⟨rfl, .inl ⟨rfl, rfl⟩⟩⟩
      have PS : Hid (∀ z ∈ P, SmallC z) := fun z hz => HX.out z (PKK.out.1.of z hz)
      have F6 := Lib.hid (F3.out.trans FW.out)
      have HS6 := Lib.hid (HS3.out.fr0 FW.out)
      clear KG FW D4 HX HYL HN24
      generalize hPL : P.length = pl at *
      have HPL := Lib.hid hPL
      clear hPL
      go_wp2
      go_loopw [15, 16] (fun ds i wr => RotI w6 P tn ds i wr) (fun _ i _ => pl - (intOf i).toNat)
      case atStart => exact HC1.out
      case round =>
        obtain ⟨i, hi, rfl, hG⟩ := hrel
        have KG := Lib.hid hG
        have FR : Hid (Fr Nothing w6 wr) := hG.fr0
        obtain ⟨A7, n7, c7, rfl, H7, _⟩ := own_slice hG.own
        obtain rfl : n7 = i := H7.out
        have hi' : n7 ≤ pl := by have := HPL.out; omega
        clear hG H7 HC1 hi
        by_cases hil : n7 < pl
        · have iI : (n7 : Int) < (pl : Int) := by omega
          have iI0 : (0 : Int) ≤ (n7 : Int) := by omega
          have t1 : decide ((n7 : Int) < (pl : Int)) = true := decide_eq_true iI
          obtain ⟨p, hp⟩ : ∃ p, rotI pl tn n7 = p := ⟨_, rfl⟩
          have hpl : p < pl := by rw [← hp]; exact rotI_lt (by omega)
          have hrem : Int.tmod ((pl : Int) - 1 - (n7 : Int) + (tn : Int)) (pl : Int) = (p : Int) := by
            rw [← hp, rotI, show (pl : Int) - 1 - (n7 : Int) + (tn : Int) = ((pl - 1 - n7 + tn : Nat) : Int) by omega, Int.ofNat_tmod]
          obtain ⟨ad, z, rfl, hz, hcz⟩ := (DP.out.fr0 FR.out).at_ hpl
          have HZ := Lib.hid hcz
          have HNX : Hid (rotK P tn (n7 + 1) = rotK P tn n7 ++ [z]) := rotK_next (by rw [HPL.out, hp]; exact hz)
          have pI : (p : Int) < (pl : Int) := by omega
          have pI0 : (0 : Int) ≤ (p : Int) := by omega
          have n0 : ((pl : Int) == 0) = false := beq_eq_false_iff_ne.2 (by omega)
          have n1' : ¬ (pl : Int) = 0 := by omega
          have n2' : ¬ pl = 0 := by omega
          clear hcz hz hp
          go_wp2_with (refine wpList_load_add rfl 38 (.tmp 94) rfl (ad.add (p * 7)) rfl z.cells _ ?hcc3 Tryd.underlying38 rfl infoCh (Held.go ?hold3))
          case hcc3 => exact HZ.out
          unfold Held
          refine wpList_buildSlice rfl 29 38 1 _ rfl z.cells.toArray ic zeroC Tryd.underlying29 hic hzc gc1.out gc2.out (by simp only [List.map_toArray, List.map_cons, List.map_nil]; exact gc3.out _) ?_
          refine wpList_app1 _ rfl _ _ 29 rfl 38 ic zeroC 7 80 Tryd.underlying29 hic hzc hc1 hc2 rfl (by decide) _ _ _ rfl KG.out.own 1 z.cells.toArray _ rfl rfl rfl (CV_one' _) (by omega) (by decide) ?_
          intro v9 w9 hG9
          have KH : Hid (Grew 38 7 w6 (.slice none 0 0) w9 v9 (n7 + 1) ((rotK P tn n7).flatMap CV.cells ++ z.cells)) := KG.out.trans hG9
          obtain ⟨A9, n9, c9, rfl, _, _⟩ := own_slice hG9.own
          clear hG9
          go_wp2
          go_roundw
          case rel =>
            refine ⟨n7 + 1, by have := HPL.out; omega, by go_num, ?_⟩
            rw [HNX.out, List.flatMap_append, List.flatMap_singleton]
            exact KH.out
          case measure => simp [intOf]; omega
        · obtain rfl : n7 = pl := by omega
          have t1 : decide ((n7 : Int) < (n7 : Int)) = false := decide_eq_false (by omega)
          have DR : Hid (CL wr (fun _ => True) A7 n7 (rotK P tn n7)) := ⟨(Rd.of_own KG.out.own).any, rot_length P tn n7 (by have := HPL.out; omega)⟩
          have RL : Hid (rotK P tn n7 = rotK P tn P.length) := by simp only [Hid]; rw [HPL.out]
          have RM : Hid (∀ z, z ∈ rotK P tn n7 ↔ z ∈ P) := fun z => by rw [RL.out]; exact rot_mem z
          have RD : Hid (DistC (rotK P tn n7)) := by rw [RL.out]; exact rot_dist PKK.out.1.dist
          have RUN : Hid (runC (rotK P tn n7) L1 = runC P L1) := (run_same G1.out.sort PKK.out.1.dist RD.out (fun z => (RM.out z).symm)).symm
          have F8 := Lib.hid (F6.out.trans FR.out)
          have HS8 := Lib.hid (HS6.out.fr0 FR.out)
          have U8 : Hid (UsaT wr) := HU.out.fr0 F8.out
          have DP8 := Lib.hid (DP.out.fr0 FR.out)
          have GR := Lib.hid (runC_good P L1 24 G1.out PS.out PKK.out.1.ok)
          generalize rotK P tn n7 = R at *
          have PSR : Hid (∀ z ∈ R, SmallC z) := fun z hz => PS.out z ((RM.out z).1 hz)
          have POR : Hid (∀ z ∈ R, okNm z.nm = true) := fun z hz => PKK.out.1.ok z ((RM.out z).1 hz)
          clear KG RL RD FR HS6 F6 DP
          go_wp2_with fail
          refine (Apply_any L1 P n7 24 A6 c6 _ s _ HS8.out U8.out G1.out DP8.out PS.out (by omega)).mono ?_
          rintro e w7 ⟨p1, q1, rfl, f7, hcase⟩
          obtain ⟨rfl, s7, rfl, hs7⟩ : q1 = 0 ∧ ∃ s', p1 = some ⟨s', 0, none⟩ ∧ StL w7 s' (runC P L1) := by
            rcases hcase with ⟨_, h0, s', hp, hs⟩ | ⟨⟨c, hc, ho⟩, _, _⟩
            · exact ⟨h0, s', hp, hs⟩
            · rw [PKK.out.1.ok c hc] at ho
              cases ho
          have F7 := Lib.hid f7
          have HS7 := Lib.hid hs7
          clear f7 hcase hs7
          go_wp2_with fail
          refine (Apply_any L1 R n7 24 A7 c7 _ s _ (HS8.out.fr0 F7.out) (U8.out.fr0 F7.out) G1.out (DR.out.fr0 F7.out) PSR.out (by omega)).mono ?_
          rintro e w9 ⟨p2, q2, rfl, f9, hcase⟩
          obtain ⟨rfl, s9, rfl, hs9⟩ : q2 = 0 ∧ ∃ s', p2 = some ⟨s', 0, none⟩ ∧ StL w9 s' (runC P L1) := by
            rcases hcase with ⟨_, h0, s', hp, hs⟩ | ⟨⟨c, hc, ho⟩, _, _⟩
            · rw [RUN.out] at hs
              exact ⟨h0, s', hp, hs⟩
            · rw [POR.out c hc] at ho
              cases ho
          have F9 := Lib.hid ((F8.out.trans F7.out).trans f9)
          have A7' := Lib.hid (HS7.out.fr0 f9)
          have B9' := Lib.hid hs9
          have U9 : Hid (UsaT w9) := HU.out.fr0 F9.out
          have HLP : Hid (P.length ≤ 24) := by have := HPL.out; simp only [Hid]; omega
          generalize runC P L1 = Q at *
          have GQ : Hid (GoodK 48 Q) := GR.out.more (by have := HLP.out; omega)
          have CE : Hid (∀ w', Fr Nothing w9 w' → Calls Tryd.prog 26 #[.pointer (some ⟨s7, 0, none⟩), .pointer (some ⟨s9, 0, none⟩)] w' (Same' w' (.bool true))) := fun w' f => Equal_any Q Q s7 s9 w' (A7'.out.fr0 f) (B9'.out.fr0 f) (GQ.out.good (by omega)) (GQ.out.good (by omega)) true ⟨fun _ => rfl, fun _ => rfl⟩
          have CN7 : Hid (∀ w', Fr Nothing w9 w' → Calls Tryd.prog 29 #[.pointer (some ⟨s7, 0, none⟩)] w' (Encoded w' (encS Q))) := fun w' f => SEnc_any Q s7 w' (A7'.out.fr0 f) (U9.out.fr0 f) (GQ.out.small (by omega))
          have CN9 : Hid (∀ w', Fr Nothing w9 w' → Calls Tryd.prog 29 #[.pointer (some ⟨s9, 0, none⟩)] w' (Encoded w' (encS Q))) := fun w' f => SEnc_any Q s9 w' (B9'.out.fr0 f) (U9.out.fr0 f) (GQ.out.small (by omega))
          obtain ⟨bb, hbb⟩ : ∃ b : ByteArray, b = ⟨(encS Q).toArray⟩ := ⟨_, rfl⟩
          have HBB := Lib.hid hbb
          clear hbb f9 hcase hs9 DP8 DR PS PSR POR RUN RM GR G1 PKK HS7 HS8 A7' B9' U8 U9 F7
          go_upto_region 23 with fail
          refine wp_region_st 21 Nothing [Is (.int .i64 0), Is (.bool true), Is (.bool true), Is (.int .i64 0), Is (.bool true), Is (.bool true), Is (.bool true), Is (.pointer (some ⟨s7, 0, none⟩)), Is (.pointer (some ⟨s9, 0, none⟩)), Is (.bool true), Is (.bool true), Is (.bool true), Is (.pointer (some ⟨s7, 0, none⟩)), (fun zv zW => BytesV (encS Q) zv zW), Is (.string bb), Is (.pointer (some ⟨s9, 0, none⟩)), (fun zv zW => BytesV (encS Q) zv zW), Is (.string bb), Is (.bool true), Is (.bool true), Is (.bool true)] [] (fun _ => True) (fun _ _ => false) (by kernel_rfl) (by kernel_rfl) (by kernel_rfl) (by kernel_rfl) ⟨Is.stable _, Is.stable _, Is.stable _, Is.stable _, Is.stable _, Is.stable _, Is.stable _, Is.stable _, Is.stable _, Is.stable _, Is.stable _, Is.stable _, Is.stable _, fun _ _ _ _ f h => h.fr0 f, Is.stable _, Is.stable _, fun _ _ _ _ f h => h.fr0 f, Is.stable _, Is.stable _, Is.stable _, Is.stable _, trivial⟩ trivial (fun _ _ _ _ h => h) trivial ?_ ?_
          · refine ⟨?a13_0, ?a13_1, ?a13_2, ?a13_3, ?a13_4, ?a13_5, ?a13_6, ?a13_7, ?a13_8, ?a13_9, ?a13_10, ?a13_11, ?a13_12, ?a13_13, ?a13_14, ?a13_15, ?a13_16, ?a13_17, ?a13_18, ?a13_19, ?a13_20, trivial⟩
            all_goals intro u w' d hf hR k1 k0 kM
            all_goals simp only [List.take_succ_cons, List.take_zero, List.map_cons, List.map_nil, puts, Act.put, List.setIfInBounds_toArray, List.set_cons_zero, List.set_cons_succ, Nat.reduceAdd, Nat.zero_add]
            case' a13_1 => simp only [show u 0 = _ from hR 0 (by kernel_rfl)]
            case' a13_2 => simp only [show u 1 = _ from hR 1 (by kernel_rfl)]
            case' a13_3 => simp only [show u 2 = _ from hR 2 (by kernel_rfl)]
            case' a13_4 => simp only [show u 3 = _ from hR 3 (by kernel_rfl), show u 2 = _ from hR 2 (by kernel_rfl)]
            case' a13_5 => simp only [show u 2 = _ from hR 2 (by kernel_rfl), show u 4 = _ from hR 4 (by kernel_rfl)]
            case' a13_6 => simp only [show u 5 = _ from hR 5 (by kernel_rfl)]
            case' a13_7 => simp only [show u 6 = _ from hR 6 (by kernel_rfl)]
            case' a13_8 => simp only [show u 6 = _ from hR 6 (by kernel_rfl)]
            case a13_9 =>
              simp only [show u 7 = _ from hR 7 (by kernel_rfl), show u 8 = _ from hR 8 (by kernel_rfl), show u 6 = _ from hR 6 (by kernel_rfl)]
              clear hR k1 k0 kM
              refine .inl ⟨by kernel_rfl, ?_⟩
              go_simp
              refine (CE.out _ hf).mono ?_
              rintro e w5 ⟨rfl, f5⟩
              exact ⟨_, rfl, f5.weak, rfl, trivial⟩
            case' a13_10 => simp only [show u 6 = _ from hR 6 (by kernel_rfl), show u 9 = _ from hR 9 (by kernel_rfl)]
            case' a13_11 => simp only [show u 10 = _ from hR 10 (by kernel_rfl)]
            case' a13_12 => simp only [show u 11 = _ from hR 11 (by kernel_rfl)]
            case a13_13 =>
              simp only [show u 12 = _ from hR 12 (by kernel_rfl), show u 11 = _ from hR 11 (by kernel_rfl)]
              clear hR k1 k0 kM
              refine .inl ⟨by kernel_rfl, ?_⟩
              go_simp
              refine (CN7.out _ hf).mono ?_
              rintro e w5 he
              obtain ⟨v, rfl, hb, f5⟩ := he.bytes
              exact ⟨_, rfl, f5.weak, hb, trivial⟩
            case a13_14 =>
              obtain ⟨A13, n13, c13, e13, ho13, hn13⟩ := hR 13 (by kernel_rfl)
              simp only [e13, show u 11 = _ from hR 11 (by kernel_rfl)]
              clear hR k1 k0 kM
              refine .inl ⟨by kernel_rfl, ?_⟩
              subst hn13
              have hcv := run_strT w' _ _ _ c13 _ (OwnB.rd ho13 rfl)
              rw [← HBB.out] at hcv
              go_simp
              exact ⟨_, rfl, Fr.refl _ _, rfl, trivial⟩
            case' a13_15 => simp only [show u 11 = _ from hR 11 (by kernel_rfl)]
            case a13_16 =>
              simp only [show u 15 = _ from hR 15 (by kernel_rfl), show u 11 = _ from hR 11 (by kernel_rfl)]
              clear hR k1 k0 kM
              refine .inl ⟨by kernel_rfl, ?_⟩
              go_simp
              refine (CN9.out _ hf).mono ?_
              rintro e w5 he
              obtain ⟨v, rfl, hb, f5⟩ := he.bytes
              exact ⟨_, rfl, f5.weak, hb, trivial⟩
            case a13_17 =>
              obtain ⟨A16, n16, c16, e16, ho16, hn16⟩ := hR 16 (by kernel_rfl)
              simp only [e16, show u 11 = _ from hR 11 (by kernel_rfl)]
              clear hR k1 k0 kM
              refine .inl ⟨by kernel_rfl, ?_⟩
              subst hn16
              have hcv := run_strT w' _ _ _ c16 _ (OwnB.rd ho16 rfl)
              rw [← HBB.out] at hcv
              go_simp
              exact ⟨_, rfl, Fr.refl _ _, rfl, trivial⟩
            case' a13_18 => simp only [show u 14 = _ from hR 14 (by kernel_rfl), show u 17 = _ from hR 17 (by kernel_rfl), show u 11 = _ from hR 11 (by kernel_rfl)]
            case' a13_19 => simp only [show u 11 = _ from hR 11 (by kernel_rfl), show u 18 = _ from hR 18 (by kernel_rfl)]
            case' a13_20 => simp only [show u 19 = _ from hR 19 (by kernel_rfl)]
            all_goals
              clear hR k1 k0 kM
              refine .inl ⟨by kernel_rfl, ?_⟩
              go_simp
              exact ⟨_, rfl, Fr.refl _ _, rfl, trivial⟩
          · intro u w' hf hR kM
            have kz : u 20 = _ := hR 20 (by omega)
            clear hR kM
            simp only [List.take_succ_cons, List.take_zero, List.map_cons, List.map_nil, puts, Act.put, List.setIfInBounds_toArray, List.set_cons_zero, List.set_cons_succ, List.drop_succ_cons, List.drop_zero, Nat.reduceAdd, Nat.zero_add, kz]
            have HF := Lib.hid (F9.out.trans hf)
            clear hf kz
            go_wp2
            go_ret
            exact ⟨rfl, HF.out⟩
theorem StateOrder_int (n1 : Nat) (xs : List CV) (A1 : Option Addr) (c1 : Nat) (S1 : Nat → Prop) (n2 : Nat) (ys : List CV) (A2 : Option Addr) (c2 : Nat) (S2 : Nat → Prop) (t : Int) (w : World) (hD : CL w S1 A1 n1 xs) (hn : n1 ≤ 9223372036854775807) (hD2 : CL w S2 A2 n2 ys) (hn2 : n2 ≤ 9223372036854775807) (ht : 0 ≤ t ∧ t ≤ 255) (hU : UsaT w) :
    Calls Tryd.prog 8 #[.slice A1 n1 c1, .slice A2 n2 c2, .int .u8 t] w (TrueNew w) := by
  obtain ⟨tn, rfl⟩ : ∃ n : Nat, t = (n : Int) := ⟨t.toNat, by omega⟩
  exact StateOrder_any n1 xs A1 c1 S1 n2 ys A2 c2 S2 tn w hD hn hD2 hn2 (by omega) hU
end Go.Proofs.YtpnchdgplpdefaaDoor
