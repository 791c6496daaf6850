/- StateChanges: the walk (written by genSbT.py). -/
import Derived.Test.YtpnchdgplpdefaaDoorSbS
namespace Go.Proofs.YtpnchdgplpdefaaDoor
open Go.RowKit Go.Shelf

def ptrS (p : Nat) : Value := .pointer (some ⟨p, 0, none⟩)
theorem StL.row {w w' : World} {s : Nat} {L : List Ent} {v : Value} {e : TypeId} {size n : Nat} {xs : List Value} (h : StL w s L) (ho : w.ownsRow 0 e size v n xs) (hf : Fr (Rows1 v) w w') (h1 : e ≠ 85) (h2 : e ≠ 89) : StL w' s L := by
  obtain ⟨t, ⟨a, hb, hn⟩, e⟩ := h
  exact ⟨t, ⟨a, hb.fr hf (fun hr => own_blk_ne ho hb h1 hr), hn.kn (KN.fr hf (fun g cs hg hr => own_blk_ne ho hg h2 hr))⟩, e⟩
theorem RowE.row {w w' : World} {rv : Value} {L : List Ent} {v : Value} {e : TypeId} {size n : Nat} {xs : List Value} (h : RowE w rv L) (ho : w.ownsRow 0 e size v n xs) (hf : Fr (Rows1 v) w w') (h1 : e ≠ 54) : RowE w' rv L := own_fr h hf (fun k hk hr => own_types ho h h1 k hr hk)
theorem infoPS : (Tryd.prog.info? 24).map (fun i => (i.zero, i.size, i.bytes)) = some (some (.pointer none), 1, 8) := by kernel_rfl
theorem infoRE : (Tryd.prog.info? 27).map (fun i => (i.zero, i.size, i.bytes)) = some (some (.slice none 0 0), 1, 24) := by kernel_rfl
/-- All states so far, and what they held. -/
structure AllI (w : World) (ys : List CV) (k : Nat) (al th : Value) (ps : List Nat) (rs : List Value) : Prop where
  all : w.ownsRow 0 24 1 al (k + 1) (ps.map ptrS)
  then_ : w.ownsRow 0 27 1 th (k + 1) rs
  at_ : ∀ j, j ≤ k → ∃ p r, ps[j]? = some p ∧ rs[j]? = some r ∧ r.oneCell' = true ∧ StL w p (stepsC (ys.take j) []) ∧ RowE w r (stepsC (ys.take j) [])
theorem AllI.fr0 {w w' : World} {ys : List CV} {k : Nat} {al th : Value} {ps : List Nat} {rs : List Value} (h : AllI w ys k al th ps rs) (hf : Fr Nothing w w') : AllI w' ys k al th ps rs := by
  refine ⟨own_fr h.all hf (fun _ _ x => x), own_fr h.then_ hf (fun _ _ x => x), fun j hj => ?_⟩
  obtain ⟨p, r, h1, h2, h3, h4, h5⟩ := h.at_ j hj
  exact ⟨p, r, h1, h2, h3, h4.fr0 hf, h5.fr0 hf⟩
theorem oneCell_row {w : World} {rv : Value} {L : List Ent} (h : RowE w rv L) : rv.oneCell' = true := by
  obtain ⟨A, m, c, rfl, _⟩ := own_slice h
  rfl
theorem AllI.next {w w1 w2 : World} {ys : List CV} {k s : Nat} {al th al2 th2 rv : Value} {ps : List Nat} {rs : List Value} (h : AllI w ys k al th ps rs) (hS : StL w s (stepsC (ys.take (k + 1)) [])) (hR : RowE w rv (stepsC (ys.take (k + 1)) []))
    (g1 : Grew 24 1 w al w1 al2 (k + 1 + 1) (ps.map ptrS ++ #[ptrS s].toList)) (g2 : Grew 27 1 w1 th w2 th2 (k + 1 + 1) (rs ++ #[rv].toList)) : AllI w2 ys (k + 1) al2 th2 (ps ++ [s]) (rs ++ [rv]) := by
  have ht : w1.ownsRow 0 27 1 th (k + 1) rs := own_fr h.then_ g1.fr (fun g hk hr => own_types h.all h.then_ (by decide) g hr hk)
  have mS : ∀ {p : Nat} {L : List Ent}, StL w p L → StL w2 p L := fun q => (q.row h.all g1.fr (by decide) (by decide)).row ht g2.fr (by decide) (by decide)
  have mR : ∀ {r : Value} {L : List Ent}, RowE w r L → RowE w2 r L := fun q => (q.row h.all g1.fr (by decide)).row ht g2.fr (by decide)
  have hp : ps.length = k + 1 := by have := h.all.1; rw [List.length_map] at this; omega
  have hr : rs.length = k + 1 := by have := h.then_.1; omega
  refine ⟨?_, g2.own, fun j hj => ?_⟩
  · rw [List.map_append]
    exact own_fr g1.own g2.fr (fun g hk hq => own_types g1.own ht (by decide) g hk hq)
  · rcases Nat.lt_or_ge j (k + 1) with hlt | hge
    · obtain ⟨p, r, h1, h2, h3, h4, h5⟩ := h.at_ j (by omega)
      exact ⟨p, r, by rw [List.getElem?_append_left (by omega)]; exact h1, by rw [List.getElem?_append_left (by omega)]; exact h2, h3, mS h4, mR h5⟩
    · obtain rfl : j = k + 1 := by omega
      exact ⟨s, rv, by rw [← hp]; simp, by rw [← hr]; simp, oneCell_row hR, mS hS, mR hR⟩
theorem own_lit (w : World) (e : TypeId) (v : Value) : (w.alloc (.cells #[v] e)).ownsRow 0 e 1 (.slice (some ⟨w.heap.size, 0, none⟩) 1 1) 1 [v] := ⟨rfl, .inr ⟨w.heap.size, 1, #[v], rfl, Nat.zero_le _, Blk.new w e #[v], Nat.le_refl _, by decide, rfl, rfl⟩⟩
theorem AllI.first {w : World} {s : Nat} (ys : List CV) (h : StL w s []) : AllI ((w.alloc (.cells #[ptrS s] 24)).alloc (.cells #[.slice none 0 0] 27)) ys 0 (.slice (some ⟨w.heap.size, 0, none⟩) 1 1) (.slice (some ⟨w.heap.size + 1, 0, none⟩) 1 1) [s] [.slice none 0 0] := by
  refine ⟨(own_lit w _ _).alloc _, ?_, fun j hj => ?_⟩
  · have h1 := own_lit (w.alloc (.cells #[ptrS s] 24)) 27 (.slice none 0 0)
    rw [World.size_alloc] at h1
    exact h1
  · obtain rfl : j = 0 := by omega
    exact ⟨s, _, rfl, rfl, rfl, (h.fr0 ((Fr.refl _ _).alloc _)).fr0 ((Fr.refl _ _).alloc _), RowE.nil _⟩
def ChInv (w : World) (ys : List CV) (N : Nat) (s al l th i : Value) (wr : World) : Prop := ∃ k s' ps rs, k ≤ N ∧ s = .pointer (some ⟨s', 0, none⟩) ∧ i = .int .i64 ((k : Nat) : Int) ∧ StL wr s' (stepsC (ys.take k) []) ∧ RowE wr l (stepsC (ys.take k) []) ∧ Fr Nothing w wr ∧
  AllI wr ys k al th ps rs ∧ (∀ g, al.ownBlock = some g → w.heap.size ≤ g) ∧ (∀ g, th.ownBlock = some g → w.heap.size ≤ g)

set_option maxRecDepth 100000 in
set_option maxHeartbeats 4000000 in
theorem StateChanges_any (n : Nat) (xs : List CV) (A : Option Addr) (c0 : Nat) (S : Nat → Prop) (w : World) (hD : CL w S A n xs) (hn : n ≤ 9223372036854775807) (hU : UsaT w) :
    Calls Tryd.prog 3 #[.slice A n c0] w (TrueNew w) := by
  obtain ⟨ip, hip, hpz, hp1, hp2⟩ := info_parts infoPS
  obtain ⟨ir, hir, hrz, hr1, hr2⟩ := info_parts infoRE
  have HU := Lib.hid hU
  have CK : Hid (∀ w', Fr Nothing w w' → Calls Tryd.prog 12 #[] w' (Same' w' (.bool true))) := fun w' hf => known_any w' (HU.out.fr0 hf)
  have CT : Hid (∀ w', Fr Nothing w w' → Calls Tryd.prog 14 #[.slice A n c0] w' (Toed w' (min n 24) (fillC xs n))) := fun w' hf => To_cl n xs A c0 S w' (hD.fr0 hf) hn
  have HX := Lib.hid (fillC_small xs n)
  have HGK := Lib.hid (stepsC_good (fillC xs n) (fillC_small xs n))
  have HYL : Hid ((fillC xs n).length = min n 24) := by simp only [Hid]; rw [fillC, List.length_map, List.length_take, hD.len]; omega
  have HN24 : Hid (min n 24 ≤ 24) := by simp only [Hid]; omega
  clear hD hn hU
  generalize fillC xs n = ys at *
  generalize min n 24 = N at *
  go_enter Tryd.func3, Tryd.ntmps3
  go_wp2_with fail
  refine (CK.out _ (Fr.refl _ _)).mono ?_
  rintro e w1 ⟨rfl, f1⟩
  have F1 := Lib.hid f1
  clear f1
  go_wp2_with fail
  refine (New_any _).mono ?_
  rintro e w2 ⟨s0, rfl, hs0, f2⟩
  have F2 := Lib.hid (F1.out.trans f2)
  have S2 : Hid (StL w2 s0 []) := ⟨_, hs0, rfl⟩
  clear f2 hs0 F1
  go_wp2_with fail
  refine (CT.out _ (F2.out.trans (((Fr.refl _ _).alloc _).alloc _))).mono ?_
  rintro e w5 ⟨A4, c4, A5, c5, rfl, f5, tr⟩
  have F5 := Lib.hid ((F2.out.trans (((Fr.refl _ _).alloc _).alloc _)).trans f5)
  have S5 := Lib.hid ((S2.out.fr0 (((Fr.refl _ _).alloc _).alloc _)).fr0 f5)
  have AI := Lib.hid ((AllI.first ys S2.out).fr0 f5)
  have TR := Lib.hid tr
  clear f5 tr CT CK
  have hgs : w.heap.size ≤ w2.heap.size := F2.out.size
  generalize w2.heap.size = g2 at *
  have HC0 : Hid (ChInv w ys N (.pointer (some ⟨s0, 0, none⟩)) (.slice (some ⟨g2, 0, none⟩) 1 1) (.slice none 0 0) (.slice (some ⟨g2 + 1, 0, none⟩) 1 1) (.int .i64 0) w5) :=
    ⟨0, s0, _, _, by omega, rfl, rfl, S5.out, RowE.nil _, F5.out, AI.out, fun g hg => by simp [Value.ownBlock] at hg; omega, fun g hg => by simp [Value.ownBlock] at hg; omega⟩
  clear S2 S5 AI
  go_wp2
  go_loopw [3, 4, 5, 6, 9] (fun s al l th i wr => ChInv w ys N s al l th i wr ∧ ToR wr N ys (.slice A4 N c4) (.slice A5 N c5)) (fun _ _ _ _ i _ => N - (intOf i).toNat)
  case atStart => exact ⟨HC0.out, TR.out⟩
  case round =>
    obtain ⟨⟨k, s1, ps, rs, hk, rfl, rfl, hS, hR, hF, hA, hna, hnt⟩, hT⟩ := hrel
    have FR := Lib.hid hF
    have TQ := Lib.hid hT
    have SS := Lib.hid hS
    have RR := Lib.hid hR
    have AA := Lib.hid hA
    have NA := Lib.hid hna
    have NT := Lib.hid hnt
    obtain ⟨A1, n1, c1, rfl, H1, _⟩ := own_slice hR
    obtain ⟨A2, n2, c2, rfl, H2, _⟩ := own_slice hA.all
    obtain ⟨A3, n3, c3, rfl, H3, _⟩ := own_slice hA.then_
    obtain rfl : n2 = k + 1 := H2.out
    obtain rfl : n3 = k + 1 := H3.out
    clear hS hR hF hT hA hna hnt HC0 H2 H3
    have hn24 : N ≤ 24 := HN24.out
    by_cases hlt : k < N
    · have hI : (k : Int) < (N : Int) := by omega
      have hI0 : (0 : Int) ≤ (k : Int) := by omega
      have t0 : decide ((k : Int) < (N : Int)) = true := decide_eq_true hI
      obtain ⟨ad, c, rfl, hc, hcell⟩ := TQ.out.cl4.at_ hlt
      obtain ⟨ad', c', rfl, hc', hcell'⟩ := TQ.out.cl5.at_ hlt
      rw [hc] at hc'
      cases hc'
      have HCE := Lib.hid hcell
      have HCE' := Lib.hid hcell'
      have HT := Lib.hid (stepsC_take hc [])
      have SC : Hid (SmallC c) := HX.out c (List.mem_of_getElem? hc)
      have GG : Hid (GoodK k (stepsC (ys.take k) [])) := HGK.out k (by have := HYL.out; omega)
      generalize hLk : stepsC (ys.take k) [] = Lk at *
      have GN : Hid (GoodK (k + 1) (stepC c Lk)) := GG.out.step SC.out
      have CO : Hid (∀ w', Fr Nothing wr w' → Calls Tryd.prog 15 #[.pointer (some ⟨s1, 0, none⟩), .slice A1 n1 c1, .agg c.cells.toArray, .agg c.cells.toArray] w' (Oned w' c Lk)) := fun w' f => one_any Lk c s1 k _ w' (SS.out.fr0 f) (RR.out.fr0 f) (HU.out.fr0 (FR.out.trans f)) GG.out SC.out (by have := HN24.out; omega)
      clear hcell hcell' hc hLk
      go_upto_region 12 with fail
      refine wp_region_sr [(15, .pointer (some ⟨s1, 0, none⟩)), (16, .slice A1 n1 c1)] ?hI 18 Nothing [Is (.pointer (some ⟨s1, 0, none⟩)), Is (.slice A1 n1 c1), Is (.slice (some ad) N c4), Is (.int .i64 (k : Int)), Is (.pointer (some (ad.add (k * 7)))), Is (.agg c.cells.toArray), Is (.slice (some ad') N c5), Is (.int .i64 (k : Int)), Is (.pointer (some (ad'.add (k * 7)))), Is (.agg c.cells.toArray), (fun zv zW => OneV c Lk zv zW), (fun zv zW => OneV c Lk zv zW), (fun zv zW => SV c Lk zv zW), (fun zv zW => RowE zW zv (stepC c Lk)), Is (.bool true), (fun zv zW => SV c Lk zv zW), (fun zv zW => RowE zW zv (stepC c Lk)), Is (.bool true)] [] (fun _ => True) (fun p i => (p == 0 && i == 15) || (p == 1 && i == 16)) (by rfl) (by kernel_rfl) (by kernel_rfl) (by kernel_rfl) (by kernel_rfl) ⟨Is.stable _, Is.stable _, Is.stable _, Is.stable _, Is.stable _, Is.stable _, Is.stable _, Is.stable _, Is.stable _, Is.stable _, fun _ _ _ _ f h => h.fr0 f, fun _ _ _ _ f h => h.fr0 f, fun _ _ _ _ f h => h.fr0 f, fun _ _ _ _ f h => h.fr0 f, Is.stable _, fun _ _ _ _ f h => h.fr0 f, fun _ _ _ _ f h => h.fr0 f, Is.stable _, trivial⟩ trivial (fun _ _ _ _ h => h) trivial ?_ ?_
      · intro u h x hx
        simp only [List.map_cons, List.map_nil, puts, Act.put, List.setIfInBounds_toArray, List.set_cons_zero, List.set_cons_succ, Nat.reduceAdd, Nat.zero_add, Act.mk.injEq, Array.mk.injEq, List.cons.injEq, true_and, and_true] at h
        have h2 := h.1
        have h3 := h.2.1
        simp only [List.mem_cons, List.not_mem_nil, or_false] at hx
        rcases hx with rfl | rfl
        · exact h2
        · exact h3
      · refine ⟨fun u w' d hf hR k1 k0 kM kI => ?_, fun u w' d hf hR k1 k0 kM kI => ?_, fun u w' d hf hR k1 k0 kM kI => ?_, fun u w' d hf hR k1 k0 kM kI => ?_, fun u w' d hf hR k1 k0 kM kI => ?_, fun u w' d hf hR k1 k0 kM kI => ?_, fun u w' d hf hR k1 k0 kM kI => ?_, fun u w' d hf hR k1 k0 kM kI => ?_, fun u w' d hf hR k1 k0 kM kI => ?_, fun u w' d hf hR k1 k0 kM kI => ?_, fun u w' d hf hR k1 k0 kM kI => ?_, fun u w' d hf hR k1 k0 kM kI => ?_, fun u w' d hf hR k1 k0 kM kI => ?_, fun u w' d hf hR k1 k0 kM kI => ?_, fun u w' d hf hR k1 k0 kM kI => ?_, fun u w' d hf hR k1 k0 kM kI => ?_, fun u w' d hf hR k1 k0 kM kI => ?_, fun u w' d hf hR k1 k0 kM kI => ?_, trivial⟩
        all_goals simp only [List.take_succ_cons, List.take_zero, List.map_cons, List.map_nil, puts, Act.put, List.setIfInBounds_toArray, List.set_cons_zero, List.set_cons_succ, Nat.reduceAdd, Nat.zero_add]
        · clear hR k1 kM
          refine .inl ⟨by kernel_rfl, ?_⟩
          have e15 : u 15 = .pointer (some ⟨s1, 0, none⟩) := kI (15, .pointer (some ⟨s1, 0, none⟩)) (by simp) (k0 15 (by kernel_rfl))
          clear kI k0
          go_simp
          exact ⟨_, rfl, Fr.refl _ _, rfl, trivial⟩
        · clear hR k1 kM
          refine .inl ⟨by kernel_rfl, ?_⟩
          have e16 : u 16 = .slice A1 n1 c1 := kI (16, .slice A1 n1 c1) (by simp) (k0 16 (by kernel_rfl))
          clear kI k0
          go_simp
          exact ⟨_, rfl, Fr.refl _ _, rfl, trivial⟩
        · clear hR k1 k0 kM
          refine .inl ⟨by kernel_rfl, ?_⟩
          go_simp
          exact ⟨_, rfl, Fr.refl _ _, rfl, trivial⟩
        · clear hR k1 k0 kM
          refine .inl ⟨by kernel_rfl, ?_⟩
          go_simp
          exact ⟨_, rfl, Fr.refl _ _, rfl, trivial⟩
        · have h2 : u 2 = _ := hR 2 (by kernel_rfl)
          have h3 : u 3 = _ := hR 3 (by kernel_rfl)
          clear hR k1 k0 kM
          simp only [h2, h3]
          refine .inl ⟨by kernel_rfl, ?_⟩
          go_simp
          exact ⟨_, rfl, Fr.refl _ _, rfl, trivial⟩
        · have h4 : u 4 = _ := hR 4 (by kernel_rfl)
          clear hR k1 k0 kM
          simp only [h4]
          refine .inl ⟨by kernel_rfl, ?_⟩
          exact wp_load_add _ _ rfl (ad.add (k * 7)) rfl c.cells _ (fun j v hv => hf.cellSome (HCE.out j v hv) (fun x => x)) Tryd.underlying38 rfl infoCh ⟨_, rfl, Fr.refl _ _, rfl, trivial⟩
        · clear hR k1 k0 kM
          refine .inl ⟨by kernel_rfl, ?_⟩
          go_simp
          exact ⟨_, rfl, Fr.refl _ _, rfl, trivial⟩
        · clear hR k1 k0 kM
          refine .inl ⟨by kernel_rfl, ?_⟩
          go_simp
          exact ⟨_, rfl, Fr.refl _ _, rfl, trivial⟩
        · have h6 : u 6 = _ := hR 6 (by kernel_rfl)
          have h7 : u 7 = _ := hR 7 (by kernel_rfl)
          clear hR k1 k0 kM
          simp only [h6, h7]
          refine .inl ⟨by kernel_rfl, ?_⟩
          go_simp
          exact ⟨_, rfl, Fr.refl _ _, rfl, trivial⟩
        · have h8 : u 8 = _ := hR 8 (by kernel_rfl)
          clear hR k1 k0 kM
          simp only [h8]
          refine .inl ⟨by kernel_rfl, ?_⟩
          exact wp_load_add _ _ rfl (ad'.add (k * 7)) rfl c.cells _ (fun j v hv => hf.cellSome (HCE'.out j v hv) (fun x => x)) Tryd.underlying42 rfl infoC ⟨_, rfl, Fr.refl _ _, rfl, trivial⟩
        · have h0 : u 0 = _ := hR 0 (by kernel_rfl)
          have h1 : u 1 = _ := hR 1 (by kernel_rfl)
          have h5 : u 5 = _ := hR 5 (by kernel_rfl)
          have h9 : u 9 = _ := hR 9 (by kernel_rfl)
          clear hR k1 k0 kM
          simp only [h0, h1, h5, h9]
          refine .inl ⟨by kernel_rfl, ?_⟩
          go_simp
          refine (CO.out _ hf).mono ?_
          rintro e w4 ⟨s', rv', rfl, f4, h1, h2⟩
          exact ⟨_, rfl, f4.weak, ⟨s', rv', rfl, h1, h2⟩, trivial⟩
        · obtain ⟨s2, rv2, e10, hS2, hR2⟩ := hR 10 (by kernel_rfl)
          clear hR k1 k0 kM
          simp only [e10]
          refine .inl ⟨by kernel_rfl, ?_⟩
          go_simp
          exact ⟨_, rfl, Fr.refl _ _, ⟨s2, rv2, rfl, hS2, hR2⟩, trivial⟩
        · obtain ⟨s2, rv2, e11, hS2, hR2⟩ := hR 11 (by kernel_rfl)
          clear hR k1 k0 kM
          simp only [e11]
          refine .inl ⟨by kernel_rfl, ?_⟩
          go_simp
          exact ⟨_, rfl, Fr.refl _ _, ⟨s2, rfl, hS2⟩, trivial⟩
        · obtain ⟨s2, rv2, e11, hS2, hR2⟩ := hR 11 (by kernel_rfl)
          clear hR k1 k0 kM
          simp only [e11]
          refine .inl ⟨by kernel_rfl, ?_⟩
          go_simp
          exact ⟨_, rfl, Fr.refl _ _, hR2, trivial⟩
        · obtain ⟨s2, rv2, e11, hS2, hR2⟩ := hR 11 (by kernel_rfl)
          clear hR k1 k0 kM
          simp only [e11]
          refine .inl ⟨by kernel_rfl, ?_⟩
          go_simp
          exact ⟨_, rfl, Fr.refl _ _, rfl, trivial⟩
        · obtain ⟨s2, e12, hS2⟩ := hR 12 (by kernel_rfl)
          clear hR k1 k0 kM
          simp only [e12]
          refine .inl ⟨by kernel_rfl, ?_⟩
          go_simp
          exact ⟨_, rfl, Fr.refl _ _, ⟨s2, rfl, hS2⟩, trivial⟩
        · have hR2 := hR 13 (by kernel_rfl)
          obtain ⟨v13, e13⟩ : ∃ v, u 13 = v := ⟨_, rfl⟩
          rw [e13] at hR2
          clear hR k1 k0 kM
          simp only [e13]
          refine .inl ⟨by kernel_rfl, ?_⟩
          go_simp
          exact ⟨_, rfl, Fr.refl _ _, hR2, trivial⟩
        · have h14 : u 14 = _ := hR 14 (by kernel_rfl)
          clear hR k1 k0 kM
          simp only [h14]
          refine .inl ⟨by kernel_rfl, ?_⟩
          go_simp
          exact ⟨_, rfl, Fr.refl _ _, rfl, trivial⟩
      · intro u w' hf hR kM
        have q15 : SV c Lk (u 15) w' := hR 15 (by omega)
        have hR2 : RowE w' (u 16) (stepC c Lk) := hR 16 (by omega)
        have k17 : u 17 = _ := hR 17 (by omega)
        clear hR kM
        obtain ⟨s2, e10, hS2⟩ := q15
        simp only [List.take_succ_cons, List.take_zero, List.map_cons, List.map_nil, puts, Act.put, List.setIfInBounds_toArray, List.set_cons_zero, List.set_cons_succ, List.drop_succ_cons, List.drop_zero, Nat.reduceAdd, Nat.zero_add, e10, k17]
        generalize u 16 = rv2 at *
        have HF := Lib.hid hf
        have HS2 := Lib.hid hS2
        have HR2 := Lib.hid hR2
        clear hf e10 hS2 hR2 k17
        go_wp2_with fail
        refine (Is_good (k + 1) _ s2 rv2 _ HS2.out HR2.out GN.out (by have := HN24.out; omega)).mono ?_
        rintro e w7 ⟨rfl, f7⟩
        have AK : Hid (AllI w7 ys k (.slice A2 (k + 1) c2) (.slice A3 (k + 1) c3) ps rs) := AA.out.fr0 (HF.out.trans f7)
        have SK : Hid (StL w7 s2 (stepsC (ys.take (k + 1)) [])) := by rw [HT.out]; exact HS2.out.fr0 f7
        have RK : Hid (RowE w7 rv2 (stepsC (ys.take (k + 1)) [])) := by rw [HT.out]; exact HR2.out.fr0 f7
        have T7 : Hid (ToR w7 N ys (.slice (some ad) N c4) (.slice (some ad') N c5)) := TQ.out.fr0 (HF.out.trans f7)
        have F7 : Hid (Fr Nothing w w7) := (FR.out.trans HF.out).trans f7

        obtain ⟨A8, n8, c8, rfl, _, _⟩ := own_slice RK.out
        clear f7 HF HS2 HR2 AA TQ
        go_wp2_with (at_builtin; refine wpList_app1 _ rfl _ _ 26 rfl 24 ip _ 1 8 Tryd.underlying26 hip hpz hp1 hp2 rfl (by omega) _ _ _ rfl AK.out.all 1 _ _ rfl rfl rfl ?a1 (by omega) (by omega) ?_)
        case a1 => simp [Value.oneCell']
        intro v8 w8 g8
        have TH : Hid (w8.ownsRow 0 27 1 (.slice A3 (k + 1) c3) (k + 1) rs) := own_fr AK.out.then_ g8.fr (fun g hk hr => own_types AK.out.all AK.out.then_ (by decide) g hr hk)
        have G8 := Lib.hid g8
        clear g8
        go_wp2_with (at_builtin; refine wpList_app1 _ rfl _ _ 28 rfl 27 ir _ 1 24 Tryd.underlying28 hir hrz hr1 hr2 rfl (by omega) _ _ _ rfl TH.out 1 _ _ rfl rfl rfl ?a2 (by omega) (by omega) ?_)
        case a2 => simp [Value.oneCell']
        intro v9 w9 g9
        have AN : Hid (AllI w9 ys (k + 1) v8 v9 (ps ++ [s2]) (rs ++ [.slice A8 n8 c8])) := AK.out.next SK.out RK.out G8.out g9
        have F9 : Hid (Fr Nothing w w9) := (F7.out.then_ G8.out.fr (fun i hi hr => by have := NA.out i hr; omega)).then_ g9.fr (fun i hi hr => by have := NT.out i hr; omega)
        have S9 : Hid (StL w9 s2 (stepsC (ys.take (k + 1)) [])) := by
          exact (SK.out.row AK.out.all G8.out.fr (by decide) (by decide)).row TH.out g9.fr (by decide) (by decide)
        have R9 : Hid (RowE w9 (.slice A8 n8 c8) (stepsC (ys.take (k + 1)) [])) := (RK.out.row AK.out.all G8.out.fr (by decide)).row TH.out g9.fr (by decide)
        have T9 : Hid (ToR w9 N ys (.slice (some ad) N c4) (.slice (some ad') N c5)) := (T7.out.row AK.out.all G8.out.fr (by decide) (by decide)).row TH.out g9.fr (by decide) (by decide)
        have N8 : Hid (∀ g, v8.ownBlock = some g → w.heap.size ≤ g) := fun g hg => by
          rcases G8.out.lies g hg with h | h
          · exact NA.out g h
          · have := F7.out.size; omega
        have N9 : Hid (∀ g, v9.ownBlock = some g → w.heap.size ≤ g) := fun g hg => by
          rcases g9.lies g hg with h | h
          · exact NT.out g h
          · have := F7.out.size; have := G8.out.fr.size; omega
        clear g9 G8 TH AK SK RK F7 T7
        go_wp2
        go_roundw
        case rel => exact ⟨⟨k + 1, s2, _, _, by have := HN24.out; omega, rfl, by go_num, S9.out, R9.out, F9.out, AN.out, N8.out, N9.out⟩, T9.out⟩
        case measure => have := HN24.out; simp [intOf]; omega
    · obtain rfl : k = N := by omega
      have t0 : decide ((k : Int) < (k : Int)) = false := decide_eq_false (by omega)
      have RD2 : Hid (Rd wr (fun _ => True) 1 A2 (k + 1) (ps.map ptrS)) := (Rd.of_own AA.out.all).any
      have RD3 : Hid (Rd wr (fun _ => True) 1 A3 (k + 1) rs) := (Rd.of_own AA.out.then_).any
      have HI0 : Hid (IInv wr (k + 1) (.int .i64 0) wr) := ⟨0, by omega, rfl, Fr.refl _ _⟩
      clear SS RR TR TQ HN24
      generalize wr = wz at *
      go_wp2
      go_loopw [11] (fun i wr => IInv wz (k + 1) i wr) (fun i _ => k + 1 - (intOf i).toNat)
      case atStart => exact HI0.out
      case round =>
        obtain ⟨j, hj, rfl, hF⟩ := hrel
        have FQ := Lib.hid hF
        clear hF HI0
        by_cases hlt : j < k + 1
        · have hI : (j : Int) < ((k + 1 : Nat) : Int) := by omega
          have hI0 : (0 : Int) ≤ (j : Int) := by omega
          have t0 : decide ((j : Int) < ((k + 1 : Nat) : Int)) = true := decide_eq_true hI
          obtain ⟨p, r, hp, hr, h1r, hS, hR⟩ := AA.out.at_ j (by omega)
          obtain ⟨a2, rfl, _, hc2⟩ := RD2.out.2 (by omega)
          obtain ⟨a3, rfl, _, hc3⟩ := RD3.out.2 (by omega)
          have X2 : wr.cell? (a2.add j) = some (.pointer (some ⟨p, 0, none⟩)) := FQ.out.cellSome (hc2 j _ (by rw [List.getElem?_map, hp]; rfl)) (fun x => x)
          have X3 : wr.cell? (a3.add j) = some r := FQ.out.cellSome (hc3 j _ hr) (fun x => x)
          have CI : Hid (∀ w', Fr Nothing wz w' → Calls Tryd.prog 16 #[.pointer (some ⟨p, 0, none⟩), r] w' (Same' w' (.bool true))) := fun w' f => Is_good j _ p r w' (hS.fr0 f) (hR.fr0 f) (HGK.out j (by have := HYL.out; omega)) (by omega)
          obtain ⟨A6, n6, c6, rfl, _, _⟩ := own_slice hR
          clear hp hr h1r hS hR hc2 hc3
          go_upto_region 19 with fail
          refine wp_region_st 10 Nothing [Is (.slice (some a2) (k + 1) c2), Is (.int .i64 (j : Int)), Is (.pointer (some (a2.add j))), Is (.pointer (some ⟨p, 0, none⟩)), Is (.slice (some a3) (k + 1) c3), Is (.int .i64 (j : Int)), Is (.pointer (some (a3.add j))), Is (.slice A6 n6 c6), Is (.bool true), Is (.bool false)] [] (fun _ => True) (fun _ _ => false) (by kernel_rfl) (by kernel_rfl) (by kernel_rfl) (by kernel_rfl) ⟨Is.stable _, Is.stable _, Is.stable _, Is.stable _, Is.stable _, Is.stable _, Is.stable _, Is.stable _, Is.stable _, Is.stable _, trivial⟩ trivial (fun _ _ _ _ h => h) trivial ?_ ?_
          · refine ⟨fun u w' d hf hR k1 k0 kM => ?_, fun u w' d hf hR k1 k0 kM => ?_, fun u w' d hf hR k1 k0 kM => ?_, fun u w' d hf hR k1 k0 kM => ?_, fun u w' d hf hR k1 k0 kM => ?_, fun u w' d hf hR k1 k0 kM => ?_, fun u w' d hf hR k1 k0 kM => ?_, fun u w' d hf hR k1 k0 kM => ?_, fun u w' d hf hR k1 k0 kM => ?_, fun u w' d hf hR k1 k0 kM => ?_, trivial⟩
            all_goals simp only [List.take_succ_cons, List.take_zero, List.map_cons, List.map_nil, puts, Act.put, List.setIfInBounds_toArray, List.set_cons_zero, List.set_cons_succ, Nat.reduceAdd, Nat.zero_add]
            · clear hR k1 k0 kM
              refine .inl ⟨by kernel_rfl, ?_⟩
              go_simp
              exact ⟨_, rfl, Fr.refl _ _, rfl, trivial⟩
            · clear hR k1 k0 kM
              refine .inl ⟨by kernel_rfl, ?_⟩
              go_simp
              exact ⟨_, rfl, Fr.refl _ _, rfl, trivial⟩
            · have h0 : u 0 = _ := hR 0 (by kernel_rfl)
              have h1 : u 1 = _ := hR 1 (by kernel_rfl)
              clear hR k1 k0 kM
              simp only [h0, h1]
              refine .inl ⟨by kernel_rfl, ?_⟩
              go_simp
              exact ⟨_, rfl, Fr.refl _ _, rfl, trivial⟩
            · have h2 : u 2 = _ := hR 2 (by kernel_rfl)
              clear hR k1 k0 kM
              simp only [h2]
              refine .inl ⟨by kernel_rfl, ?_⟩
              have q := hf.cellSome X2 (fun x => x)
              go_simp
              exact ⟨_, rfl, Fr.refl _ _, rfl, trivial⟩
            · clear hR k1 k0 kM
              refine .inl ⟨by kernel_rfl, ?_⟩
              go_simp
              exact ⟨_, rfl, Fr.refl _ _, rfl, trivial⟩
            · clear hR k1 k0 kM
              refine .inl ⟨by kernel_rfl, ?_⟩
              go_simp
              exact ⟨_, rfl, Fr.refl _ _, rfl, trivial⟩
            · have h4 : u 4 = _ := hR 4 (by kernel_rfl)
              have h5 : u 5 = _ := hR 5 (by kernel_rfl)
              clear hR k1 k0 kM
              simp only [h4, h5]
              refine .inl ⟨by kernel_rfl, ?_⟩
              go_simp
              exact ⟨_, rfl, Fr.refl _ _, rfl, trivial⟩
            · have h6 : u 6 = _ := hR 6 (by kernel_rfl)
              clear hR k1 k0 kM
              simp only [h6]
              refine .inl ⟨by kernel_rfl, ?_⟩
              have q := hf.cellSome X3 (fun x => x)
              go_simp
              exact ⟨_, rfl, Fr.refl _ _, rfl, trivial⟩
            · have h3 : u 3 = _ := hR 3 (by kernel_rfl)
              have h7 : u 7 = _ := hR 7 (by kernel_rfl)
              clear hR k1 k0 kM
              simp only [h3, h7]
              refine .inl ⟨by kernel_rfl, ?_⟩
              go_simp
              refine (CI.out _ (FQ.out.trans hf)).mono ?_
              rintro e w4 ⟨rfl, f4⟩
              exact ⟨_, rfl, f4.weak, rfl, trivial⟩
            · have h8 : u 8 = _ := hR 8 (by kernel_rfl)
              clear hR k1 k0 kM
              simp only [h8]
              refine .inl ⟨by kernel_rfl, ?_⟩
              go_simp
              exact ⟨_, rfl, Fr.refl _ _, rfl, trivial⟩
          · intro u w' hf hR kM
            have k9 : u 9 = _ := hR 9 (by omega)
            clear hR kM
            simp only [List.take_succ_cons, List.take_zero, List.map_cons, List.map_nil, puts, Act.put, List.setIfInBounds_toArray, List.set_cons_zero, List.set_cons_succ, List.drop_succ_cons, List.drop_zero, Nat.reduceAdd, Nat.zero_add, k9]
            have FX := Lib.hid (FQ.out.trans hf)
            clear hf k9
            go_wp2
            go_roundw
            case rel => exact ⟨j + 1, by omega, by go_num, FX.out⟩
            case measure => simp [intOf]; omega
        · obtain rfl : j = k + 1 := by omega
          have t0 : decide (((k + 1 : Nat) : Int) < ((k + 1 : Nat) : Int)) = false := decide_eq_false (by omega)
          go_wp2
          go_ret
          exact ⟨rfl, FR.out.trans FQ.out⟩
end Go.Proofs.YtpnchdgplpdefaaDoor
