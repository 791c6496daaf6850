/- State: the law's fill (written by genSbN.py). -/
import Derived.Test.YtpnchdgplpdefaaDoorSbM
namespace Go.Proofs.YtpnchdgplpdefaaDoor
open Go.RowKit Go.Shelf

def stepsC (xs : List CV) (L : List Ent) : List Ent := xs.foldl (fun l c => stepC c l) L
def fillC (xs : List CV) (n : Nat) : List CV := (xs.take (min n 24)).map CV.cut
def fillL (xs : List CV) (n : Nat) : List Ent := stepsC (fillC xs n) []
theorem fillC_small (xs : List CV) (n : Nat) : ∀ c ∈ fillC xs n, SmallC c := fun c hc => by
  obtain ⟨x, _, rfl⟩ := List.mem_map.1 hc
  exact x.cut_small
theorem stepsC_take {xs : List CV} {k : Nat} {c : CV} (h : xs[k]? = some c) (L : List Ent) : stepsC (xs.take (k + 1)) L = stepC c (stepsC (xs.take k) L) := by
  rw [stepsC, List.take_add_one, h, Option.toList_some, List.foldl_append]
  rfl
theorem stepsC_good (xs : List CV) (hX : ∀ c ∈ xs, SmallC c) : ∀ k, k ≤ xs.length → GoodK k (stepsC (xs.take k) [])
  | 0, _ => by rw [List.take_zero]; exact GoodK.nil
  | k + 1, h => by
    rw [stepsC_take (List.getElem?_eq_getElem (by omega : k < xs.length))]
    exact (stepsC_good xs hX k (by omega)).step (hX _ (List.getElem_mem _))
theorem fillL_good (xs : List CV) (n : Nat) (hn : xs.length = n) : GoodK 24 (fillL xs n) := by
  have hl : (fillC xs n).length = min n 24 := by rw [fillC, List.length_map, List.length_take]; omega
  have h := stepsC_good (fillC xs n) (fillC_small xs n) _ (Nat.le_refl _)
  rw [List.take_length] at h
  exact h.more (by omega)
def OneV (c : CV) (L : List Ent) (v : Value) (w : World) : Prop := ∃ s' rv', v = .tuple #[.pointer (some ⟨s', 0, none⟩), rv', .bool true] ∧ StL w s' (stepC c L) ∧ RowE w rv' (stepC c L)
theorem OneV.fr0 {c : CV} {L : List Ent} {v : Value} {w w' : World} (h : OneV c L v w) (hf : Fr Nothing w w') : OneV c L v w' := by
  obtain ⟨s, r, e, h1, h2⟩ := h
  exact ⟨s, r, e, h1.fr0 hf, h2.fr0 hf⟩
def SV (c : CV) (L : List Ent) (v : Value) (w : World) : Prop := ∃ s', v = .pointer (some ⟨s', 0, none⟩) ∧ StL w s' (stepC c L)
theorem SV.fr0 {c : CV} {L : List Ent} {v : Value} {w w' : World} (h : SV c L v w) (hf : Fr Nothing w w') : SV c L v w' := by
  obtain ⟨s, e, h1⟩ := h
  exact ⟨s, e, h1.fr0 hf⟩
def FInv (w : World) (ys : List CV) (N : Nat) (s l i : Value) (wr : World) : Prop := ∃ k s', k ≤ N ∧ s = .pointer (some ⟨s', 0, none⟩) ∧ i = .int .i64 ((k : Nat) : Int) ∧ StL wr s' (stepsC (ys.take k) []) ∧ RowE wr l (stepsC (ys.take k) []) ∧ Fr Nothing w wr
def Filled (w : World) (L : List Ent) (e : Ending) (w' : World) : Prop := ∃ s' rv', e = .returned (.tuple #[.pointer (some ⟨s', 0, none⟩), rv']) ∧ Fr Nothing w w' ∧ StL w' s' L ∧ RowE w' rv' L

set_option maxRecDepth 100000 in
set_option maxHeartbeats 600000 in
theorem fill_any (n : Nat) (xs : List CV) (A : Option Addr) (c0 : Nat) (S : Nat → Prop) (w : World) (hD : CL w S A n xs) (hn : n ≤ 9223372036854775807) (hU : UsaT w) :
    Calls Tryd.prog 17 #[.slice A n c0] w (Filled w (fillL xs n)) := by
  have HU := Lib.hid hU
  have HX := Lib.hid (fillC_small xs n)
  have HGK := Lib.hid (stepsC_good (fillC xs n) (fillC_small xs n))
  have HYL : Hid ((fillC xs n).length = min n 24) := by simp only [Hid]; rw [fillC, List.length_map, List.length_take, hD.len]; omega
  have TA : Hid (∀ w', Fr Nothing w w' → Calls Tryd.prog 14 #[.slice A n c0] w' (fun e w'' => ∃ v4 v5, e = .returned (.tuple #[v4, v5]) ∧ Grew 38 7 w' (.slice none 0 0) w'' v4 (min n 24) ((fillC xs n).flatMap CV.cells) ∧ Grew 42 7 w' (.slice none 0 0) w'' v5 (min n 24) ((fillC xs n).flatMap CV.cells))) := fun w' hf => To_any n xs A c0 S w' (hD.fr0 hf) hn
  have HFL : Hid (fillL xs n = stepsC (fillC xs n) []) := rfl
  generalize fillL xs n = FL at *
  generalize fillC xs n = ys at *
  have HN24 : Hid (min n 24 ≤ 24) := by simp only [Hid]; omega
  generalize min n 24 = N at *
  clear hD hn hU
  go_enter Tryd.func17, Tryd.ntmps17
  go_wp2_with fail
  refine (New_any _).mono ?_
  rintro e w1 ⟨s0, rfl, hs0, f1⟩
  have F1 := Lib.hid f1
  have S0 : Hid (StL w1 s0 []) := ⟨_, hs0, rfl⟩
  clear f1 hs0
  go_wp2_with fail
  refine (TA.out _ F1.out).mono ?_
  rintro e w2 ⟨v4, v5, rfl, h4, h5⟩
  have F2 : Hid (Fr Nothing w w2) := F1.out.trans h4.fr0
  have S2 : Hid (StL w2 s0 []) := S0.out.fr0 h4.fr0
  obtain ⟨A4, n4, c4, rfl, H4, _⟩ := own_slice h4.own
  obtain ⟨A5, n5, c5, rfl, H5, _⟩ := own_slice h5.own
  obtain rfl : n4 = N := H4.out
  obtain rfl : n5 = n4 := H5.out
  have D4 : Hid (CL w2 (fun _ => True) A4 n5 ys) := ⟨(Rd.of_own h4.own).any, HYL.out⟩
  have D5 : Hid (CL w2 (fun _ => True) A5 n5 ys) := ⟨(Rd.of_own h5.own).any, HYL.out⟩
  have HS : Hid (FInv w2 ys n5 (.pointer (some ⟨s0, 0, none⟩)) (.slice none 0 0) (.int .i64 0) w2) := ⟨0, s0, by omega, rfl, rfl, S2.out, RowE.nil _, Fr.refl _ _⟩
  clear h4 h5 H4 H5 F1 S0 TA
  go_wp2
  go_loopw [4, 5, 8] (fun s l i wr => FInv w2 ys n5 s l i wr) (fun _ _ i _ => n5 - (intOf i).toNat)
  case atStart => exact HS.out
  case round =>
    obtain ⟨k, s1, hk, rfl, rfl, hS, hR, hF⟩ := hrel
    have FR := Lib.hid hF
    have SS := Lib.hid hS
    have RR := Lib.hid hR
    obtain ⟨A1, n1, c1, rfl, H1, _⟩ := own_slice hR
    clear hS hR hF HS
    by_cases hlt : k < n5
    · have hn24 : n5 ≤ 24 := HN24.out
      have hI : (k : Int) < (n5 : Int) := by omega
      have hI0 : (0 : Int) ≤ (k : Int) := by omega
      have t0 : decide ((k : Int) < (n5 : Int)) = true := decide_eq_true hI
      obtain ⟨ad, c, rfl, hc, hcell⟩ := (D4.out.fr0 FR.out).at_ hlt
      obtain ⟨ad', c', rfl, hc', hcell'⟩ := (D5.out.fr0 FR.out).at_ hlt
      rw [hc] at hc'
      cases hc'
      have HCE := Lib.hid hcell
      have HCE' := Lib.hid hcell'
      have HT := Lib.hid (stepsC_take hc [])
      have SC : Hid (SmallC c) := HX.out c (List.mem_of_getElem? hc)
      have GG : Hid (GoodK k (stepsC (ys.take k) [])) := HGK.out k (by have := HYL.out; omega)
      generalize stepsC (ys.take k) [] = Lk at *
      have CO : Hid (∀ w', Fr Nothing wr w' → Calls Tryd.prog 15 #[.pointer (some ⟨s1, 0, none⟩), .slice A1 n1 c1, .agg c.cells.toArray, .agg c.cells.toArray] w' (Oned w' c Lk)) := fun w' f => one_any Lk c s1 k _ w' (SS.out.fr0 f) (RR.out.fr0 f) (HU.out.fr0 ((F2.out.trans FR.out).trans f)) GG.out SC.out (by have := HN24.out; omega)
      clear hcell hcell' hc
      go_upto_region 7 with fail
      refine wp_region_sr [(15, .pointer (some ⟨s1, 0, none⟩)), (16, .slice A1 n1 c1)] ?hI 17 Nothing [Is (.pointer (some ⟨s1, 0, none⟩)), Is (.slice A1 n1 c1), Is (.slice (some ad) n5 c4), Is (.int .i64 (k : Int)), Is (.pointer (some (ad.add (k * 7)))), Is (.agg c.cells.toArray), Is (.slice (some ad') n5 c5), Is (.int .i64 (k : Int)), Is (.pointer (some (ad'.add (k * 7)))), Is (.agg c.cells.toArray), (fun zv zW => OneV c Lk zv zW), (fun zv zW => OneV c Lk zv zW), (fun zv zW => SV c Lk zv zW), (fun zv zW => RowE zW zv (stepC c Lk)), (fun _ _ => True), (fun zv zW => SV c Lk zv zW), (fun zv zW => RowE zW zv (stepC c Lk))] [] (fun _ => True) (fun p i => (p == 0 && i == 15) || (p == 1 && i == 16)) (by rfl) (by kernel_rfl) (by kernel_rfl) (by kernel_rfl) (by kernel_rfl) ⟨Is.stable _, Is.stable _, Is.stable _, Is.stable _, Is.stable _, Is.stable _, Is.stable _, Is.stable _, Is.stable _, Is.stable _, fun _ _ _ _ f h => h.fr0 f, fun _ _ _ _ f h => h.fr0 f, fun _ _ _ _ f h => h.fr0 f, fun _ _ _ _ f h => h.fr0 f, fun _ _ _ _ _ h => h, fun _ _ _ _ f h => h.fr0 f, fun _ _ _ _ f h => h.fr0 f, trivial⟩ trivial (fun _ _ _ _ h => h) trivial ?_ ?_
      · intro u h x hx
        simp only [List.map_cons, List.map_nil, puts, Act.put, List.setIfInBounds_toArray, List.set_cons_zero, List.set_cons_succ, Nat.reduceAdd, Nat.zero_add, Act.mk.injEq, Array.mk.injEq, List.cons.injEq, true_and, and_true] at h
        have h2 := h.1
        have h3 := h.2.1
        simp only [List.mem_cons, List.not_mem_nil, or_false] at hx
        rcases hx with rfl | rfl
        · exact h2
        · exact h3
      · refine ⟨fun u w' d hf hR k1 k0 kM kI => ?_, fun u w' d hf hR k1 k0 kM kI => ?_, fun u w' d hf hR k1 k0 kM kI => ?_, fun u w' d hf hR k1 k0 kM kI => ?_, fun u w' d hf hR k1 k0 kM kI => ?_, fun u w' d hf hR k1 k0 kM kI => ?_, fun u w' d hf hR k1 k0 kM kI => ?_, fun u w' d hf hR k1 k0 kM kI => ?_, fun u w' d hf hR k1 k0 kM kI => ?_, fun u w' d hf hR k1 k0 kM kI => ?_, fun u w' d hf hR k1 k0 kM kI => ?_, fun u w' d hf hR k1 k0 kM kI => ?_, fun u w' d hf hR k1 k0 kM kI => ?_, fun u w' d hf hR k1 k0 kM kI => ?_, fun u w' d hf hR k1 k0 kM kI => ?_, fun u w' d hf hR k1 k0 kM kI => ?_, fun u w' d hf hR k1 k0 kM kI => ?_, trivial⟩
        all_goals simp only [List.take_succ_cons, List.take_zero, List.map_cons, List.map_nil, puts, Act.put, List.setIfInBounds_toArray, List.set_cons_zero, List.set_cons_succ, Nat.reduceAdd, Nat.zero_add]
        · clear hR k1 kM
          refine .inl ⟨by kernel_rfl, ?_⟩
          have e15 : u 15 = .pointer (some ⟨s1, 0, none⟩) := kI (15, .pointer (some ⟨s1, 0, none⟩)) (by simp) (k0 15 (by kernel_rfl))
          clear kI k0
          go_simp
          exact ⟨_, rfl, Fr.refl _ _, rfl, trivial⟩
        · clear hR k1 kM
          refine .inl ⟨by kernel_rfl, ?_⟩
          have e16 : u 16 = .slice A1 n1 c1 := kI (16, .slice A1 n1 c1) (by simp) (k0 16 (by kernel_rfl))
          clear kI k0
          go_simp
          exact ⟨_, rfl, Fr.refl _ _, rfl, trivial⟩
        · clear hR k1 k0 kM
          refine .inl ⟨by kernel_rfl, ?_⟩
          go_simp
          exact ⟨_, rfl, Fr.refl _ _, rfl, trivial⟩
        · clear hR k1 k0 kM
          refine .inl ⟨by kernel_rfl, ?_⟩
          go_simp
          exact ⟨_, rfl, Fr.refl _ _, rfl, trivial⟩
        · have h2 : u 2 = _ := hR 2 (by kernel_rfl)
          have h3 : u 3 = _ := hR 3 (by kernel_rfl)
          clear hR k1 k0 kM
          simp only [h2, h3]
          refine .inl ⟨by kernel_rfl, ?_⟩
          go_simp
          exact ⟨_, rfl, Fr.refl _ _, rfl, trivial⟩
        · have h4 : u 4 = _ := hR 4 (by kernel_rfl)
          clear hR k1 k0 kM
          simp only [h4]
          refine .inl ⟨by kernel_rfl, ?_⟩
          exact wp_load_add _ _ rfl (ad.add (k * 7)) rfl c.cells _ (fun j v hv => hf.cellSome (HCE.out j v hv) (fun x => x)) Tryd.underlying38 rfl infoCh ⟨_, rfl, Fr.refl _ _, rfl, trivial⟩
        · clear hR k1 k0 kM
          refine .inl ⟨by kernel_rfl, ?_⟩
          go_simp
          exact ⟨_, rfl, Fr.refl _ _, rfl, trivial⟩
        · clear hR k1 k0 kM
          refine .inl ⟨by kernel_rfl, ?_⟩
          go_simp
          exact ⟨_, rfl, Fr.refl _ _, rfl, trivial⟩
        · have h6 : u 6 = _ := hR 6 (by kernel_rfl)
          have h7 : u 7 = _ := hR 7 (by kernel_rfl)
          clear hR k1 k0 kM
          simp only [h6, h7]
          refine .inl ⟨by kernel_rfl, ?_⟩
          go_simp
          exact ⟨_, rfl, Fr.refl _ _, rfl, trivial⟩
        · have h8 : u 8 = _ := hR 8 (by kernel_rfl)
          clear hR k1 k0 kM
          simp only [h8]
          refine .inl ⟨by kernel_rfl, ?_⟩
          exact wp_load_add _ _ rfl (ad'.add (k * 7)) rfl c.cells _ (fun j v hv => hf.cellSome (HCE'.out j v hv) (fun x => x)) Tryd.underlying42 rfl infoC ⟨_, rfl, Fr.refl _ _, rfl, trivial⟩
        · have h0 : u 0 = _ := hR 0 (by kernel_rfl)
          have h1 : u 1 = _ := hR 1 (by kernel_rfl)
          have h5 : u 5 = _ := hR 5 (by kernel_rfl)
          have h9 : u 9 = _ := hR 9 (by kernel_rfl)
          clear hR k1 k0 kM
          simp only [h0, h1, h5, h9]
          refine .inl ⟨by kernel_rfl, ?_⟩
          go_simp
          refine (CO.out _ hf).mono ?_
          rintro e w4 ⟨s', rv', rfl, f4, h1, h2⟩
          exact ⟨_, rfl, f4.weak, ⟨s', rv', rfl, h1, h2⟩, trivial⟩
        · obtain ⟨s2, rv2, e10, hS2, hR2⟩ := hR 10 (by kernel_rfl)
          clear hR k1 k0 kM
          simp only [e10]
          refine .inl ⟨by kernel_rfl, ?_⟩
          go_simp
          exact ⟨_, rfl, Fr.refl _ _, ⟨s2, rv2, rfl, hS2, hR2⟩, trivial⟩
        · obtain ⟨s2, rv2, e11, hS2, hR2⟩ := hR 11 (by kernel_rfl)
          clear hR k1 k0 kM
          simp only [e11]
          refine .inl ⟨by kernel_rfl, ?_⟩
          go_simp
          exact ⟨_, rfl, Fr.refl _ _, ⟨s2, rfl, hS2⟩, trivial⟩
        · obtain ⟨s2, rv2, e11, hS2, hR2⟩ := hR 11 (by kernel_rfl)
          clear hR k1 k0 kM
          simp only [e11]
          refine .inl ⟨by kernel_rfl, ?_⟩
          go_simp
          exact ⟨_, rfl, Fr.refl _ _, hR2, trivial⟩
        · obtain ⟨s2, rv2, e11, hS2, hR2⟩ := hR 11 (by kernel_rfl)
          clear hR k1 k0 kM
          simp only [e11]
          refine .inl ⟨by kernel_rfl, ?_⟩
          go_simp
          exact ⟨_, rfl, Fr.refl _ _, trivial, trivial⟩
        · obtain ⟨s2, e12, hS2⟩ := hR 12 (by kernel_rfl)
          clear hR k1 k0 kM
          simp only [e12]
          refine .inl ⟨by kernel_rfl, ?_⟩
          go_simp
          exact ⟨_, rfl, Fr.refl _ _, ⟨s2, rfl, hS2⟩, trivial⟩
        · have hR2 := hR 13 (by kernel_rfl)
          obtain ⟨v13, e13⟩ : ∃ v, u 13 = v := ⟨_, rfl⟩
          rw [e13] at hR2
          clear hR k1 k0 kM
          simp only [e13]
          refine .inl ⟨by kernel_rfl, ?_⟩
          go_simp
          exact ⟨_, rfl, Fr.refl _ _, hR2, trivial⟩
      · intro u w' hf hR kM
        have q15 : SV c Lk (u 15) w' := hR 15 (by omega)
        have hR2 : RowE w' (u 16) (stepC c Lk) := hR 16 (by omega)
        clear hR kM
        obtain ⟨s2, e10, hS2⟩ := q15
        simp only [List.take_succ_cons, List.take_zero, List.map_cons, List.map_nil, puts, Act.put, List.setIfInBounds_toArray, List.set_cons_zero, List.set_cons_succ, List.drop_succ_cons, List.drop_zero, Nat.reduceAdd, Nat.zero_add, e10]
        generalize u 16 = rv2 at *
        have HF := Lib.hid (FR.out.trans hf)
        have HS2 := Lib.hid hS2
        have HR2 := Lib.hid hR2
        clear hf e10 hS2 hR2
        go_wp2
        go_roundw
        case rel =>
          have := HN24.out
          refine ⟨k + 1, s2, by omega, rfl, by go_num, ?_, ?_, HF.out⟩
          · rw [HT.out]; exact HS2.out
          · rw [HT.out]; exact HR2.out
        case measure => have := HN24.out; simp [intOf]; omega
    · obtain rfl : k = n5 := by omega
      have t0 : decide ((k : Int) < (k : Int)) = false := decide_eq_false (by omega)
      go_wp2
      go_ret2
      have hx : ys.take k = ys := List.take_of_length_le (by have := HYL.out; omega)
      rw [hx] at SS RR
      rw [HFL.out]
      exact ⟨_, _, rfl, F2.out.trans FR.out, SS.out, RR.out⟩
end Go.Proofs.YtpnchdgplpdefaaDoor
