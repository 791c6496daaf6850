/- maps.DeleteFunc at the tree's map, with the predicate of Truncate: the laws of the loop. -/
import Derived.Maps.RangeWalk
import Derived.Test.YtkaghbpdnmigmaaDoorTrJ
namespace Go.Proofs.YtkaghbpdnmigmaaDoor
open Go.RowKit Go.ChangeMaps

/-- A loop over the map under way: what stands, what has been seen; every part that has been seen (but the one at hand) ends within n leaves. -/
def SweepX (w : World) (b r n : Nat) (ds : List (List UInt8)) (C X : Nat → Nat → Prop) : Prop :=
  ∃ es clock seen, w.heap[b]? = some (.map es clock) ∧ w.heap[r]? = some (.mapIter (some b) clock seen clock) ∧ (∀ e ∈ es.toList, EntryOk ds C e) ∧
    (∀ l i, C l i → (i + 1) * 2 ^ l ≤ n → ∃ e ∈ es.toList, e.key = keyV l i) ∧ Stamp es clock ∧ (∀ e ∈ es.toList, seen.contains e.born = true → ∃ l i, e.key = keyV l i ∧ ((i + 1) * 2 ^ l ≤ n ∨ X l i))
def None2 : Nat → Nat → Prop := fun _ _ => False
def One2 (l i : Nat) : Nat → Nat → Prop := fun l' i' => l' = l ∧ i' = i
theorem SweepX.fr {w w' : World} {T : Nat → Prop} {b r n : Nat} {ds : List (List UInt8)} {C X : Nat → Nat → Prop} (h : SweepX w b r n ds C X) (hf : Fr T w w') (hb : ¬ T b) (hr : ¬ T r) : SweepX w' b r n ds C X := by
  obtain ⟨es, clock, seen, h1, h2, h3, h4, h5, h6⟩ := h
  exact ⟨es, clock, seen, (hf.block b (Array.getElem?_eq_some_iff.1 h1).1 hb).trans h1, (hf.block r (Array.getElem?_eq_some_iff.1 h2).1 hr).trans h2, h3, h4, h5, h6⟩
theorem SweepX.left_fr {w w' : World} {T : Nat → Prop} {b r n : Nat} {ds : List (List UInt8)} {C X : Nat → Nat → Prop} (h : SweepX w b r n ds C X) (hf : Fr T w w') (hb : ¬ T b) (hr : ¬ T r) : w'.rangeLeft b r = w.rangeLeft b r := by
  obtain ⟨es, clock, seen, h1, h2, _⟩ := h
  unfold World.rangeLeft
  rw [(hf.block b (Array.getElem?_eq_some_iff.1 h1).1 hb), (hf.block r (Array.getElem?_eq_some_iff.1 h2).1 hr)]
theorem SweepX.lt {w : World} {b r n : Nat} {ds : List (List UInt8)} {C X : Nat → Nat → Prop} (h : SweepX w b r n ds C X) : b < w.heap.size ∧ r < w.heap.size := by
  obtain ⟨es, clock, seen, h1, h2, _⟩ := h
  exact ⟨(Array.getElem?_eq_some_iff.1 h1).1, (Array.getElem?_eq_some_iff.1 h2).1⟩
theorem SweepX.ne {w : World} {b r n g : Nat} {ds : List (List UInt8)} {C X : Nat → Nat → Prop} (h : SweepX w b r n ds C X) {t : TypeId} {cs : Array Value} (hB : Blk w g t cs) : b ≠ g ∧ r ≠ g := by
  obtain ⟨es, clock, seen, h1, h2, _⟩ := h
  unfold Blk at hB
  constructor
  · rintro rfl
    rw [h1] at hB
    cases hB
  · rintro rfl
    rw [h2] at hB
    cases hB
theorem SweepX.judged {w : World} {b r n l i : Nat} {ds : List (List UInt8)} {C : Nat → Nat → Prop} (h : SweepX w b r n ds C (One2 l i)) (hn : (i + 1) * 2 ^ l ≤ n) : SweepX w b r n ds C None2 := by
  obtain ⟨es, clock, seen, h1, h2, h3, h4, h5, h6⟩ := h
  refine ⟨es, clock, seen, h1, h2, h3, h4, h5, fun e he hs => ?_⟩
  obtain ⟨l', i', k1, k2⟩ := h6 e he hs
  refine ⟨l', i', k1, .inl ?_⟩
  rcases k2 with k2 | ⟨rfl, rfl⟩
  · exact k2
  · exact hn

theorem fr_setBlock {w : World} {b : Nat} (o : Obj) (_hb : b < w.heap.size) : Fr (fun k => k = b) w (setBlock w b o) :=
  ⟨rfl, rfl, rfl, by simp [setBlock], fun k _ hk => by
    show (w.heap.setIfInBounds b o)[k]? = _
    rw [Array.getElem?_setIfInBounds_ne (fun e => hk e.symm)]⟩
theorem setBlock_self {w : World} {b : Nat} (o : Obj) (hb : b < w.heap.size) : (setBlock w b o).heap[b]? = some o := by
  show (w.heap.setIfInBounds b o)[b]? = _
  rw [Array.getElem?_setIfInBounds_self_of_lt hb]

set_option maxRecDepth 100000 in
/-- 'range m'. -/
theorem wpList_range_part {ops : Array Oper} {rest : List Oper} {o : Oper} {a : Act} {w : World} {Q : Exit → Act → World → Prop} (hg : o.guard = none) (m : Operand) (hop : o.op = Op.range 100 m) (b n : Nat) (ds : List (List UInt8)) (C : Nat → Nat → Prop)
    (hm : a.eval m = .map (some b)) (h : PartM w b ds C)
    (hK : ∀ w', SweepX w' b w.heap.size n ds C None2 → Fr Nothing w w' → w'.heap.size = w.heap.size + 1 → wpList Tryd.prog ops Q rest (a.put o.dst (.pointer (some ⟨w.heap.size, 0, none⟩))) w') : wpList Tryd.prog ops Q (o :: rest) a w := by
  obtain ⟨es, clock, h1, h2, h3, h4⟩ := h
  have hrun := run_range_map (P := Tryd.prog) w _ _ _ b es clock und_map h1
  have hf : Fr Nothing w (w.alloc (.mapIter (some b) clock #[] clock)) := (Fr.refl _ _).alloc _
  refine wpList_plain hg fun K' hK' => ?_
  unfold Oper.wp
  simp [execOp, hop, hm, hrun, Result.andThen]
  refine hK' _ _ (hK _ ⟨es, clock, #[], (hf.block b (Array.getElem?_eq_some_iff.1 h1).1 (fun x => x)).trans h1, heap_alloc_new w _, h2, fun l i hc _ => h3 l i hc, h4, fun e _ hs => ?_⟩ hf (by simp))
  simp at hs

set_option maxRecDepth 100000 in
/-- The step. -/
theorem wpList_next_part {ops : Array Oper} {rest : List Oper} {o : Oper} {a : Act} {w : World} {Q : Exit → Act → World → Prop} (hg : o.guard = none) (it : Operand) (hop : o.op = Op.next it false) (b r n : Nat) (ds : List (List UInt8)) (C : Nat → Nat → Prop)
    (hit : a.eval it = .pointer (some ⟨r, 0, none⟩)) (h : SweepX w b r n ds C None2)
    (hDone : PartM w b ds (fun l i => C l i ∧ (i + 1) * 2 ^ l ≤ n) → wpList Tryd.prog ops Q rest (a.put o.dst (.tuple #[.bool false])) w)
    (hMore : ∀ l i w', C l i → SweepX w' b r n ds C (One2 l i) → w'.rangeLeft b r < w.rangeLeft b r → Fr (fun k => k = r) w w' → w'.heap.size = w.heap.size →
      (Instr.entry (.pointer (some ⟨r, 0, none⟩))).run Tryd.prog w' = .ok (.tuple #[keyV l i, digV (partR ds l i)]) w' → wpList Tryd.prog ops Q rest (a.put o.dst (.tuple #[.bool true, keyV l i, digV (partR ds l i)])) w') : wpList Tryd.prog ops Q (o :: rest) a w := by
  obtain ⟨es, clock, seen, h1, h2, h3, h4, h5, h6⟩ := h
  have hbr : b ≠ r := fun e => by rw [e, h2] at h1; cases h1
  refine wpList_plain hg fun K' hK' => ?_
  unfold Oper.wp
  rcases run_next_at (P := Tryd.prog) w o.type r b clock clock seen es clock h2 h1 h5.1 (Nat.le_refl _) with ⟨h0, hrun⟩ | ⟨e, he, w1, hal, hrun⟩
  · simp [execOp, hop, hit, hrun, Result.andThen]
    refine hK' _ _ (hDone ⟨es, clock, h1, fun e he => ?_, fun l i hc => h4 l i hc.1 hc.2, h5⟩)
    obtain ⟨l, i, k1, k2, k3⟩ := h3 e he
    obtain ⟨l', i', k4, k5⟩ := h6 e he (all_seen es seen h0 e he)
    rw [k1] at k4
    obtain ⟨rfl, rfl⟩ := keyV_inj k4
    refine ⟨l, i, k1, k2, k3, ?_⟩
    rcases k5 with k5 | k5
    · exact k5
    · exact k5.elim
  · obtain ⟨hem, hes⟩ := mem_left he
    obtain ⟨l, i, k1, k2, k3⟩ := h3 e hem
    have f1 : Fr Nothing w w1 := by rcases hal with rfl | rfl; exact Fr.refl _ _; exact (Fr.refl _ _).drew
    have hsz : w1.heap.size = w.heap.size := by rcases hal with rfl | rfl <;> rfl
    have hrl : r < w1.heap.size := by rw [hsz]; exact (Array.getElem?_eq_some_iff.1 h2).1
    have h1' : w1.heap[b]? = some (.map es clock) := by rcases hal with rfl | rfl <;> exact h1
    have fs := fr_setBlock (.mapIter (some b) clock (seen.push e.born) clock) hrl
    have hb2 : (setBlock w1 r (.mapIter (some b) clock (seen.push e.born) clock)).heap[b]? = some (.map es clock) := (fs.block b (Array.getElem?_eq_some_iff.1 h1').1 hbr).trans h1'
    have hr2 := setBlock_self (.mapIter (some b) clock (seen.push e.born) clock) hrl
    have hen := run_entry_at (P := Tryd.prog) _ r b clock seen es clock e hr2 hb2 hem h5.2.1
    rw [k1, k2] at hrun hen
    simp [execOp, hop, hit, hrun, Result.andThen]
    refine hK' _ _ (hMore l i _ k3 ⟨es, clock, seen.push e.born, hb2, hr2, h3, h4, h5, fun e' he' hs => ?_⟩ ?_ (f1.weak.trans fs) (by simp [setBlock, hsz]) hen)
    · rw [contains_push, Bool.or_eq_true] at hs
      rcases hs with hs | hs
      · obtain ⟨l', i', q1, q2⟩ := h6 e' he' hs
        rcases q2 with q2 | q2
        · exact ⟨l', i', q1, .inl q2⟩
        · exact q2.elim
      · have : e' = e := born_inj h5.2.1 he' hem (beq_iff_eq.1 hs)
        subst this
        exact ⟨l, i, k1, .inr ⟨rfl, rfl⟩⟩
    · unfold World.rangeLeft
      simp only [hb2, hr2, h1, h2]
      exact left_shrinks es seen e he

/-- Which entry a key finds. -/
theorem find_place (ds : List (List UInt8)) (C : Nat → Nat → Prop) (l i : Nat) (w : World) : ∀ (es : List MapEntry) (k : Nat), (∀ e ∈ es, EntryOk ds C e) → (∃ e ∈ es, e.key = keyV l i) →
    ∃ j v e, (Instr.findAsking 110 (keyV l i) es k).run Tryd.prog w = .ok (some (j + k, v)) w ∧ es[j]? = some e ∧ e.key = keyV l i
  | [], _, _, h => by obtain ⟨e, he, _⟩ := h; cases he
  | e :: es, k, hok, h => by
    obtain ⟨l', i', k1, k2, k3⟩ := hok e (by simp)
    by_cases hh : l = l' ∧ i = i'
    · obtain ⟨rfl, rfl⟩ := hh
      refine ⟨0, digV (partR ds l i), e, ?_, rfl, k1⟩
      simp only [Instr.findAsking, Sem.run_bind, k1, equal_key, Result.andThen_ok, decide_true, Bool.and_self, if_true, k2, Sem.run_pure, Nat.zero_add]
    · obtain ⟨e', he', hk⟩ := h
      have hne : (decide (l = l') && decide (i = i')) = false := by
        by_cases h1 : l = l'
        · rw [decide_eq_false (show ¬ i = i' from fun h2 => hh ⟨h1, h2⟩), Bool.and_false]
        · rw [decide_eq_false h1, Bool.false_and]
      rcases List.mem_cons.1 he' with rfl | he'
      · rw [k1] at hk
        obtain ⟨a, b⟩ := keyV_inj hk
        exact absurd ⟨a.symm, b.symm⟩ hh
      · obtain ⟨j, v, e2, hj, hg, hk2⟩ := find_place ds C l i w es (k + 1) (fun x hx => hok x (by simp [hx])) ⟨e', he', hk⟩
        refine ⟨j + 1, v, e2, ?_, by simpa using hg, hk2⟩
        simp only [Instr.findAsking, Sem.run_bind, k1, equal_key, Result.andThen_ok, hne, Bool.false_eq_true, if_false]
        rw [hj, show j + (k + 1) = j + 1 + k by omega]

set_option maxRecDepth 100000 in
/-- 'delete(m, k)' of the part at hand, which ends behind n leaves. -/
theorem run_delete_part {w : World} {b r n l i : Nat} {ds : List (List UInt8)} {C : Nat → Nat → Prop} (h : SweepX w b r n ds C (One2 l i)) (hn : n < (i + 1) * 2 ^ l) (ty : TypeId) :
    ∃ w', (Builtin.delete_ #[100, 110] ty #[.map (some b), keyV l i]).run Tryd.prog w = .ok (.tuple #[]) w' ∧ SweepX w' b r n ds C None2 ∧ w'.rangeLeft b r ≤ w.rangeLeft b r ∧ Fr (fun k => k = b) w w' := by
  obtain ⟨es, clock, seen, h1, h2, h3, h4, h5, h6⟩ := h
  have hbl := (Array.getElem?_eq_some_iff.1 h1).1
  have hbr : r ≠ b := fun e => by rw [← e, h2] at h1; cases h1
  have key : ∀ es' : Array MapEntry, es'.toList.Sublist es.toList → (∀ e ∈ es.toList, e.key ≠ keyV l i → e ∈ es'.toList) → (∀ e ∈ es'.toList, e.key ≠ keyV l i) →
      SweepX (setBlock w b (.map es' clock)) b r n ds C None2 ∧ (setBlock w b (.map es' clock)).rangeLeft b r ≤ w.rangeLeft b r := fun es' hsub hkeep hno => by
    have fs := fr_setBlock (w := w) (.map es' clock) hbl
    have hb2 := setBlock_self (w := w) (.map es' clock) hbl
    have hr2 : (setBlock w b (.map es' clock)).heap[r]? = some (.mapIter (some b) clock seen clock) := (fs.block r (Array.getElem?_eq_some_iff.1 h2).1 hbr).trans h2
    refine ⟨⟨es', clock, seen, hb2, hr2, fun e he => h3 e (hsub.subset he), fun l' i' hc hle => ?_, ⟨fun e he => h5.1 e (hsub.subset he), h5.2.1.sublist (hsub.map _), h5.2.2.sublist hsub⟩, fun e he hs => ?_⟩, ?_⟩
    · obtain ⟨e, he, hk⟩ := h4 l' i' hc hle
      refine ⟨e, hkeep e he (fun hq => ?_), hk⟩
      rw [hk] at hq
      obtain ⟨rfl, rfl⟩ := keyV_inj hq
      omega
    · obtain ⟨l', i', q1, q2⟩ := h6 e (hsub.subset he) hs
      refine ⟨l', i', q1, ?_⟩
      rcases q2 with q2 | ⟨rfl, rfl⟩
      · exact .inl q2
      · exact absurd q1 (hno e he)
    · have e1 : ∀ a : Array MapEntry, (leftOf a seen).size = (a.toList.filter fun e => !seen.contains e.born).length := fun a => by
        unfold leftOf
        rw [← Array.toList_filter, Array.length_toList]
      unfold World.rangeLeft
      simp only [hb2, hr2, h1, h2]
      rw [e1, e1]
      exact (hsub.filter _).length_le
  have hck := checkKey_part false l i w
  by_cases hex : ∃ e ∈ es.toList, e.key = keyV l i
  · obtain ⟨j, v, e0, hj, hg, hk⟩ := find_place ds C l i w es.toList 0 h3 hex
    rw [Nat.add_zero] at hj
    have hf := findKey_part _ _ _ _ hj
    have hjs : j < es.size := by simpa using (List.getElem?_eq_some_iff.1 hg).1
    have hl : (es.eraseIdxIfInBounds j).toList = es.toList.eraseIdx j := by
      unfold Array.eraseIdxIfInBounds
      rw [dif_pos hjs]
      simp
    obtain ⟨k1, k2⟩ := key (es.eraseIdxIfInBounds j) (by rw [hl]; exact List.eraseIdx_sublist _ _) (fun e he hne => by
      rw [hl, List.mem_eraseIdx_iff_getElem?]
      obtain ⟨q, hq⟩ := List.getElem?_of_mem he
      refine ⟨q, fun e1 => hne ?_, hq⟩
      rw [e1, hg] at hq
      cases hq
      exact hk) (fun e he hq => by
      rw [hl, List.mem_eraseIdx_iff_getElem?] at he
      obtain ⟨q, hne, hq2⟩ := he
      obtain ⟨hq3, hq4⟩ := List.getElem?_eq_some_iff.1 hq2
      obtain ⟨hj3, hj4⟩ := List.getElem?_eq_some_iff.1 hg
      have hp := List.pairwise_iff_getElem.1 h5.2.2
      rcases Nat.lt_or_gt_of_ne hne with hlt | hlt
      · exact hp q j hq3 hj3 hlt (by rw [hq4, hj4, hq, hk])
      · exact hp j q hj3 hq3 hlt (by rw [hq4, hj4, hq, hk]))
    refine ⟨_, ?_, k1, k2, fr_setBlock _ hbl⟩
    simp [Builtin.delete_, run_underlying und_map, MapKept.run_getObj_map h1, checkKey_part, hf, MapKept.run_setObj_map _ h1, Result.andThen, setBlock]
  · have hf := findKey_part _ _ _ _ (find_miss ds (fun l' i' => ∃ e ∈ es.toList, e.key = keyV l' i') l i w hex es.toList 0 (fun e he => by
      obtain ⟨l', i', q1, q2, _⟩ := h3 e he
      exact ⟨l', i', q1, q2, e, he, q1⟩))
    obtain ⟨k1, k2⟩ := key es (List.Sublist.refl _) (fun e he _ => he) (fun e he hq => hex ⟨e, he, hq⟩)
    refine ⟨_, ?_, k1, k2, fr_setBlock _ hbl⟩
    simp [Builtin.delete_, run_underlying und_map, MapKept.run_getObj_map h1, checkKey_part, hf, MapKept.run_setObj_map _ h1, Result.andThen, setBlock]
theorem wpList_delete_part {ops : Array Oper} {rest : List Oper} {o : Oper} {a : Act} {w : World} {Q : Exit → Act → World → Prop} (hg : o.guard = none) (m x : Operand) (hop : o.op = Op.call { callee := Callee.builtin Builtin.delete, args := #[m, x], argTypes := #[100, 110] })
    (b r n l i : Nat) (ds : List (List UInt8)) (C : Nat → Nat → Prop) (hm : a.eval m = .map (some b)) (hx : a.eval x = keyV l i) (h : SweepX w b r n ds C (One2 l i)) (hn : n < (i + 1) * 2 ^ l)
    (hK : ∀ w', SweepX w' b r n ds C None2 → w'.rangeLeft b r ≤ w.rangeLeft b r → Fr (fun k => k = b) w w' → wpList Tryd.prog ops Q rest (a.put o.dst (.tuple #[])) w') : wpList Tryd.prog ops Q (o :: rest) a w := by
  refine wpList_plain hg fun K' hK' => ?_
  obtain ⟨w', hrun, r1, r2, r3⟩ := run_delete_part h hn o.type
  unfold Oper.wp
  simp [execOp, hop, resolve, invoke, builtin, hm, hx, hrun, Result.andThen]
  exact hK' _ _ (hK w' r1 r2 r3)

/-! ### Fewer leaves -/
theorem partR_take (ds : List (List UInt8)) (n : Nat) : ∀ l i, (i + 1) * 2 ^ l ≤ n → partR (ds.take n) l i = partR ds l i
  | 0, i, h => by
    have hi : i < n := by omega
    simp only [partR]
    rw [List.getD_eq_getElem?_getD, List.getD_eq_getElem?_getD, List.getElem?_take_of_lt hi]
  | l + 1, i, h => by
    have p2 : 2 ^ (l + 1) = 2 * 2 ^ l := by rw [Nat.pow_succ]; omega
    have e2 : (i + 1) * 2 ^ (l + 1) = (2 * i + 1 + 1) * 2 ^ l := by rw [p2, ← Nat.mul_assoc]; congr 1; omega
    have e3 : (2 * i + 1 + 1) * 2 ^ l = (2 * i + 1) * 2 ^ l + 2 ^ l := by rw [Nat.add_mul, Nat.one_mul]
    rw [e2] at h
    rw [partR, partR, partR_take ds n l (2 * i) (by omega), partR_take ds n l (2 * i + 1) h]
theorem PartM.take {w : World} {b n m : Nat} {ds : List (List UInt8)} (h : PartM w b ds (fun l i => partC m l i ∧ (i + 1) * 2 ^ l ≤ n)) (hnm : n ≤ m) : PartM w b (ds.take n) (partC n) := by
  obtain ⟨es, clock, h1, h2, h3, h4⟩ := h
  refine ⟨es, clock, h1, fun e he => ?_, fun l i hc => ?_, h4⟩
  · obtain ⟨l, i, k1, k2, k3, k4⟩ := h2 e he
    exact ⟨l, i, k1, by rw [k2, partR_take ds n l i k4], k3.1, k4⟩
  · exact h3 l i ⟨⟨hc.1, Nat.le_trans hc.2 hnm⟩, hc.2⟩
end Go.Proofs.YtkaghbpdnmigmaaDoor
