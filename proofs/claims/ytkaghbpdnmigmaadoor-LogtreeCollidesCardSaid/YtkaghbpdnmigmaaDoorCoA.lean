/- Two proofs that lead to one root: the last pair in which they differ. Plain lemmas. -/
import Derived.Test.YtkaghbpdnmigmaaDoorNdE
namespace Go.Proofs.YtkaghbpdnmigmaaDoor
open Go.RowKit

abbrev DP := List UInt8 × List UInt8
/-- The pairs in the last of the first k places in which two lists differ. -/
def diffAt (A B : List DP) : Nat → Option (DP × DP)
  | 0 => none
  | k + 1 => if A.getD k ([], []) = B.getD k ([], []) then diffAt A B k else some (A.getD k ([], []), B.getD k ([], []))

theorem diffAt_more (A B : List DP) (a b : DP) : ∀ k, k ≤ A.length → k ≤ B.length → diffAt (A ++ [a]) (B ++ [b]) k = diffAt A B k
  | 0, _, _ => rfl
  | k + 1, ha, hb => by
    have e1 : (A ++ [a]).getD k ([], []) = A.getD k ([], []) := by rw [List.getD_eq_getElem?_getD, List.getD_eq_getElem?_getD, List.getElem?_append_left (by omega)]
    have e2 : (B ++ [b]).getD k ([], []) = B.getD k ([], []) := by rw [List.getD_eq_getElem?_getD, List.getD_eq_getElem?_getD, List.getElem?_append_left (by omega)]
    unfold diffAt
    rw [e1, e2, diffAt_more A B a b k (by omega) (by omega)]

theorem diffAt_snoc (A B : List DP) (a b : DP) (n : Nat) (ha : A.length = n) (hb : B.length = n) : diffAt (A ++ [a]) (B ++ [b]) (n + 1) = if a = b then diffAt A B n else some (a, b) := by
  have e1 : (A ++ [a]).getD n ([], []) = a := by rw [List.getD_eq_getElem?_getD, List.getElem?_append_right (by omega), ha, Nat.sub_self]; rfl
  have e2 : (B ++ [b]).getD n ([], []) = b := by rw [List.getD_eq_getElem?_getD, List.getElem?_append_right (by omega), hb, Nat.sub_self]; rfl
  rw [diffAt, e1, e2, diffAt_more A B a b n (by omega) (by omega)]

/-- What two runs to one root show. -/
def Shows (l l' : List UInt8) (p p' : List (List UInt8)) : Option (DP × DP) → Prop
  | some (a, b) => a ≠ b ∧ nodeD a.1 a.2 = nodeD b.1 b.2
  | none => l = l' ∧ p = p'

theorem run_diff (l l' : List UInt8) (hl : l.length = 32) (hl' : l'.length = 32) (p p' : List (List UInt8)) (he : ∀ d ∈ p, d.length = 32) (he' : ∀ d ∈ p', d.length = 32) : ∀ (k : Nat) (pre : List Bool), pre.length = k → k ≤ p.length → k ≤ p'.length →
    (runF l pre p).1 = (runF l' pre p').1 → Shows l l' (p.take k) (p'.take k) (diffAt (runF l pre p).2 (runF l' pre p').2 k)
  | 0, pre, h, _, _, hr => by
    obtain rfl := List.eq_nil_of_length_eq_zero h
    exact ⟨hr, by simp⟩
  | k + 1, pre, h, hk, hk', hr => by
    rcases List.eq_nil_or_concat pre with rfl | ⟨pr, b, rfl⟩
    · simp at h
    · rw [List.concat_eq_append] at h hr ⊢
      rw [List.length_append, List.length_singleton] at h
      have hlt : pr.length < p.length := by omega
      have hlt' : pr.length < p'.length := by omega
      obtain ⟨d, hd⟩ : ∃ d, p[pr.length]? = some d := ⟨_, List.getElem?_eq_getElem hlt⟩
      obtain ⟨d', hd'⟩ : ∃ d, p'[pr.length]? = some d := ⟨_, List.getElem?_eq_getElem hlt'⟩
      have hpk : pr.length = k := by omega
      rw [runF_snoc l pr p b d hd, runF_snoc l' pr p' b d' hd'] at hr ⊢
      have o1 := runF_ok l hl p he pr.length pr rfl (by omega)
      have o2 := runF_ok l' hl' p' he' pr.length pr rfl (by omega)
      unfold stepF at hr ⊢
      simp only at hr ⊢
      rw [diffAt_snoc _ _ _ _ k (by rw [o1.count, hpk]) (by rw [o2.count, hpk])]
      have hq : ((if b = true then (runF l pr p).1 else d, if b = true then d else (runF l pr p).1) : DP) = (if b = true then (runF l' pr p').1 else d', if b = true then d' else (runF l' pr p').1) → (runF l pr p).1 = (runF l' pr p').1 ∧ d = d' := by
        intro heq
        cases b
        · simp only [Bool.false_eq_true, if_false, Prod.mk.injEq] at heq
          exact ⟨heq.2, heq.1⟩
        · simp only [if_true, Prod.mk.injEq] at heq
          exact heq
      by_cases heq : ((if b = true then (runF l pr p).1 else d, if b = true then d else (runF l pr p).1) : DP) = (if b = true then (runF l' pr p').1 else d', if b = true then d' else (runF l' pr p').1)
      · rw [if_pos heq]
        have hh := hq heq
        have ih := run_diff l l' hl hl' p p' he he' k pr hpk (by omega) (by omega) hh.1
        revert ih
        cases diffAt (runF l pr p).2 (runF l' pr p').2 k with
        | some x => exact fun ih => ih
        | none =>
          rintro ⟨e1, e2⟩
          refine ⟨e1, ?_⟩
          rw [List.take_add_one, List.take_add_one, e2, ← hpk, hd, hd', hh.2]
      · rw [if_neg heq]
        exact ⟨heq, hr⟩

theorem join2_inj {a b c d : List UInt8} (ha : a.length = 32) (hb : b.length = 32) (hc : c.length = 32) (hd : d.length = 32) (h : joinL 1 [a, b] = joinL 1 [c, d]) : a = c ∧ b = d := by
  unfold joinL at h
  simp only [List.length_cons, List.length_nil, List.flatMap_cons, List.flatMap_nil, List.append_nil, ha, hb, hc, hd, List.cons.injEq, true_and] at h
  have h1 : a ++ (wBytes 32 ++ b) = c ++ (wBytes 32 ++ d) := by
    have h' : wBytes 32 ++ (a ++ (wBytes 32 ++ b)) = wBytes 32 ++ (c ++ (wBytes 32 ++ d)) := by simpa [List.append_assoc] using h
    exact List.append_cancel_left h'
  have h2 := List.append_inj h1 (by omega)
  exact ⟨h2.1, List.append_cancel_left h2.2⟩
theorem join2_length (a b : List UInt8) : 2 ≤ (joinL 1 [a, b]).length := by simp [joinL]

/-- The two texts that Collision returns. -/
def collV (EA EB : Int) (ra rb : List UInt8) (A B : List DP) : List UInt8 × List UInt8 × Bool :=
  if EA = 0 ∧ EB = 0 ∧ ra = rb then
    (match diffAt A B A.length with
    | some (a, b) => (joinL 1 [a.1, a.2], joinL 1 [b.1, b.2], true)
    | none => ([], [], false))
  else ([], [], false)
theorem diffAt_mem (A B : List DP) : ∀ (k : Nat) (x : DP × DP), k ≤ A.length → k ≤ B.length → diffAt A B k = some x → x.1 ∈ A ∧ x.2 ∈ B
  | 0, _, _, _, h => by cases h
  | k + 1, x, ha, hb, h => by
    rw [diffAt] at h
    split at h
    · exact diffAt_mem A B k x (by omega) (by omega) h
    · obtain rfl := Option.some.inj h
      refine ⟨?_, ?_⟩
      · show A.getD k ([], []) ∈ A
        rw [List.getD_eq_getElem?_getD, List.getElem?_eq_getElem (by omega)]
        exact List.getElem_mem _
      · show B.getD k ([], []) ∈ B
        rw [List.getD_eq_getElem?_getD, List.getElem?_eq_getElem (by omega)]
        exact List.getElem_mem _

/-- The statement's question, plainly. -/
theorem coll_law (l l' : List UInt8) (hl : l.length = 32) (hl' : l'.length = 32) (p p' : List (List UInt8)) (he : ∀ d ∈ p, d.length = 32) (he' : ∀ d ∈ p', d.length = 32) (hpp : p.length = p'.length) (index n : Int)
    (V V' : List UInt8 × List DP × Int) (hV : V = nodesV l index n p) (hV' : V' = nodesV l' index n p') (r : List UInt8 × List UInt8 × Bool) (hr : r = collV V.2.2 V'.2.2 V.1 V'.1 V.2.1 V'.2.1) :
    V.2.2 = V'.2.2 ∧ (V.2.2 ≠ 0 → r = ([], [], false)) ∧ (V.1 ≠ V'.1 → r = ([], [], false)) ∧ (l = l' ∧ p = p' → r = ([], [], false)) ∧
      (V.2.2 = 0 → V.1 = V'.1 → ¬ (l = l' ∧ p = p') → r.2.2 = true ∧ r.1 ≠ r.2.1 ∧ shaL r.1 = shaL r.2.1 ∧ r.1.length ≤ 1000 ∧ r.2.1.length ≤ 1000) := by
  unfold nodesV at hV hV'
  rw [← hpp] at hV'
  by_cases h1 : 1 ≤ n ∧ n ≤ 1048576 ∧ 0 ≤ index ∧ index < n
  · rw [if_pos h1] at hV hV'
    by_cases h2 : p.length = (stepsL index.toNat n.toNat).length
    · rw [if_pos h2] at hV hV'
      subst hV hV'
      simp only at hr ⊢
      refine ⟨by trivial, fun h => absurd rfl h, fun h => ?_, fun h => ?_, fun _ h3 h4 => ?_⟩
      · rw [hr, collV, if_neg (fun h' => h h'.2.2)]
      · obtain ⟨rfl, rfl⟩ := h
        have hd : ∀ (A : List DP) k, diffAt A A k = none := fun A k => by
          induction k with
          | zero => rfl
          | succ k ih => rw [diffAt, if_pos rfl, ih]
        rw [hr, collV, if_pos ⟨rfl, rfl, rfl⟩, hd]
      · have o1 := runF_ok l hl p he _ (stepsL index.toNat n.toNat) rfl (by omega)
        have o2 := runF_ok l' hl' p' he' _ (stepsL index.toNat n.toNat) rfl (by omega)
        have hs := run_diff l l' hl hl' p p' he he' _ (stepsL index.toNat n.toNat) rfl (by omega) (by omega) h3
        rw [collV, if_pos ⟨rfl, rfl, h3⟩, o1.count] at hr
        cases hx : diffAt (runF l (stepsL index.toNat n.toNat) p).2 (runF l' (stepsL index.toNat n.toNat) p').2 (stepsL index.toNat n.toNat).length with
        | none =>
          rw [hx] at hs
          obtain ⟨e1, e2⟩ := hs
          rw [List.take_of_length_le (by omega), List.take_of_length_le (by omega)] at e2
          exact absurd ⟨e1, e2⟩ h4
        | some x =>
          obtain ⟨a, b⟩ := x
          rw [hx] at hs hr
          obtain ⟨m1, m2⟩ := diffAt_mem _ _ _ _ (by rw [o1.count]; exact Nat.le_refl _) (by rw [o2.count]; exact Nat.le_refl _) hx
          have k1 := o1.each a m1
          have k2 := o2.each b m2
          subst hr
          refine ⟨rfl, fun h => ?_, hs.2, ?_, ?_⟩
          · have := join2_inj k1.1 k1.2 k2.1 k2.2 h
            exact hs.1 (Prod.ext this.1 this.2)
          · simp [joinL, k1.1, k1.2, wBytes]
          · simp [joinL, k2.1, k2.2, wBytes]
    · rw [if_neg h2] at hV hV'
      subst hV hV'
      have hz : r = ([], [], false) := by rw [hr, collV, if_neg (fun h => by simp at h)]
      exact ⟨rfl, fun _ => hz, fun _ => hz, fun _ => hz, fun h => by simp at h⟩
  · rw [if_neg h1] at hV hV'
    subst hV hV'
    have hz : r = ([], [], false) := by rw [hr, collV, if_neg (fun h => by simp at h)]
    exact ⟨rfl, fun _ => hz, fun _ => hz, fun _ => hz, fun h => by simp at h⟩
end Go.Proofs.YtkaghbpdnmigmaaDoor
