/- Extension paths, plainly: the list, how long it is, and that it leads to both roots. -/
import Derived.Test.YtkaghbpdnmigmaaDoorGwU
namespace Go.Proofs.YtkaghbpdnmigmaaDoor
open Go.RowKit

def extL (ds : List (List UInt8)) (m : Nat) (whole : Bool) : List (List UInt8) :=
  if m = ds.length then (if whole = true then [] else [rootL ds])
  else if _h : 1 ≤ leftN ds.length ∧ leftN ds.length < ds.length then
    (if m ≤ leftN ds.length then extL (ds.take (leftN ds.length)) m whole ++ [rootL (ds.drop (leftN ds.length))] else extL (ds.drop (leftN ds.length)) (m - leftN ds.length) false ++ [rootL (ds.take (leftN ds.length))])
  else []
termination_by ds.length
decreasing_by
  · simp only [List.length_take]; omega
  · simp only [List.length_drop]; omega
theorem extL_eq (ds : List (List UInt8)) (m : Nat) (whole : Bool) (hl : ds.length = m) : extL ds m whole = if whole = true then [] else [rootL ds] := by
  rw [extL, if_pos hl.symm]
theorem extL_left (ds : List (List UInt8)) (m n : Nat) (whole : Bool) (hl : ds.length = n) (hmn : m ≠ n) (h2 : 2 ≤ n) (hn : n ≤ 1099511627776) (hm : m ≤ leftN n) : extL ds m whole = extL (ds.take (leftN n)) m whole ++ [rootL (ds.drop (leftN n))] := by
  obtain ⟨a, _, c⟩ := leftN_bounds n h2 hn
  rw [extL, hl, if_neg hmn, dif_pos ⟨c, a⟩, if_pos hm]
theorem extL_right (ds : List (List UInt8)) (m n : Nat) (whole : Bool) (hl : ds.length = n) (hmn : m ≠ n) (h2 : 2 ≤ n) (hn : n ≤ 1099511627776) (hm : ¬ m ≤ leftN n) : extL ds m whole = extL (ds.drop (leftN n)) (m - leftN n) false ++ [rootL (ds.take (leftN n))] := by
  obtain ⟨a, _, c⟩ := leftN_bounds n h2 hn
  rw [extL, hl, if_neg hmn, dif_pos ⟨c, a⟩, if_neg hm]
theorem extL_length (n : Nat) : ∀ (ds : List (List UInt8)) (m : Nat) (whole : Bool), ds.length = n → 1 ≤ m → m ≤ n → n ≤ 1048576 → (extL ds m whole).length = extLen m n whole := by
  induction n using Nat.strongRecOn with
  | _ n ih =>
    intro ds m whole hl h1 hmn hn
    by_cases e : m = n
    · subst e
      rw [extL_eq ds m whole hl, extLen_eq]
      cases whole <;> rfl
    · obtain ⟨a, b, c⟩ := leftN_bounds n (by omega) (by omega)
      by_cases hm : m ≤ leftN n
      · rw [extL_left ds m n whole hl e (by omega) (by omega) hm, extLen_left whole e (by omega) (by omega) hm, List.length_append, List.length_singleton, ih (leftN n) a _ m whole (by rw [List.length_take, hl]; omega) h1 hm (by omega)]
      · rw [extL_right ds m n whole hl e (by omega) (by omega) hm, extLen_right whole e (by omega) (by omega) hm, List.length_append, List.length_singleton, ih (n - leftN n) (by omega) _ (m - leftN n) false (by rw [List.length_drop, hl]) (by omega) (by omega) (by omega)]
theorem extLen_depth : ∀ (k n m : Nat) (whole : Bool), 1 ≤ m → m ≤ n → n ≤ 2 ^ k → n ≤ 1048576 → extLen m n whole ≤ k + 1
  | 0, n, m, whole, h1, hmn, h, _ => by
    obtain rfl : m = n := by simp at h; omega
    rw [extLen_eq]
    split <;> omega
  | k + 1, n, m, whole, h1, hmn, h, hn => by
    by_cases e : m = n
    · subst e
      rw [extLen_eq]
      split <;> omega
    · obtain ⟨a, b, c⟩ := leftN_bounds n (by omega) (by omega)
      have hp := leftN_pow n k (by omega) (by omega) h
      by_cases hm : m ≤ leftN n
      · rw [extLen_left whole e (by omega) (by omega) hm]
        have := extLen_depth k (leftN n) m whole h1 hm hp (by omega)
        omega
      · rw [extLen_right whole e (by omega) (by omega) hm]
        have := extLen_depth k (n - leftN n) (m - leftN n) false (by omega) (by omega) (by omega) (by omega)
        omega
theorem extL_each (n : Nat) : ∀ (ds : List (List UInt8)) (m : Nat) (whole : Bool), ds.length = n → 1 ≤ m → m ≤ n → n ≤ 1048576 → (∀ d ∈ ds, d.length = 32) → ∀ d ∈ extL ds m whole, d.length = 32 := by
  induction n using Nat.strongRecOn with
  | _ n ih =>
    intro ds m whole hl h1 hmn hn he d hd
    by_cases e : m = n
    · subst e
      rw [extL_eq ds m whole hl] at hd
      cases whole
      · rw [if_neg (by decide)] at hd
        rw [List.mem_singleton.1 hd]
        exact rootL_length m _ hl h1 (by omega) he
      · rw [if_pos rfl] at hd
        cases hd
    · obtain ⟨a, b, c⟩ := leftN_bounds n (by omega) (by omega)
      have r1 : (rootL (ds.drop (leftN n))).length = 32 := rootL_length (n - leftN n) _ (by rw [List.length_drop, hl]) (by omega) (by omega) (fun x hx => he x (List.mem_of_mem_drop hx))
      have r2 : (rootL (ds.take (leftN n))).length = 32 := rootL_length (leftN n) _ (by rw [List.length_take, hl]; omega) (by omega) (by omega) (fun x hx => he x (List.mem_of_mem_take hx))
      by_cases hm : m ≤ leftN n
      · rw [extL_left ds m n whole hl e (by omega) (by omega) hm] at hd
        rcases List.mem_append.1 hd with h | h
        · exact ih (leftN n) a _ m whole (by rw [List.length_take, hl]; omega) h1 hm (by omega) (fun x hx => he x (List.mem_of_mem_take hx)) d h
        · rw [List.mem_singleton.1 h]; exact r1
      · rw [extL_right ds m n whole hl e (by omega) (by omega) hm] at hd
        rcases List.mem_append.1 hd with h | h
        · exact ih (n - leftN n) (by omega) _ _ false (by rw [List.length_drop, hl]) (by omega) (by omega) (by omega) (fun x hx => he x (List.mem_of_mem_drop hx)) d h
        · rw [List.mem_singleton.1 h]; exact r2

theorem take_snoc {α : Type} (X : List α) (R : α) {p : Nat} (h : X.length = p) : (X ++ [R]).take p = X := by
  rw [← h, List.take_append_of_le_length (Nat.le_refl _), List.take_length]
theorem getD_snoc {α : Type} (X : List α) (R d : α) {p : Nat} (h : X.length = p) : (X ++ [R]).getD p d = R := by
  rw [← h, List.getD_eq_getElem?_getD, List.getElem?_append_right (Nat.le_refl _), Nat.sub_self]
  rfl
theorem leftN_between {m n : Nat} (hm : leftN n < m) (hmn : m ≤ n) (h2 : 2 ≤ n) (hn : n ≤ 1099511627776) : leftN m = leftN n := by
  obtain ⟨a, b, c⟩ := leftN_bounds n h2 hn
  have e : leftN n = 2 ^ (Lib.bitLen (n - 1) - 1) := rfl
  rw [e] at hm a b c ⊢
  exact (leftN_of m _ (by omega) hm (by omega)).symm

theorem extD_extL (n : Nat) : ∀ (ds : List (List UInt8)) (m : Nat) (whole : Bool) (old : List UInt8), ds.length = n → 1 ≤ m → m ≤ n → n ≤ 1048576 → (whole = true → old = rootL (ds.take m)) →
    extD old m n whole (extL ds m whole) = (rootL (ds.take m), rootL ds) := by
  induction n using Nat.strongRecOn with
  | _ n ih =>
    intro ds m whole old hl h1 hmn hn ho
    by_cases e : m = n
    · subst e
      rw [extL_eq ds m whole hl, extD_eq]
      have ht : ds.take m = ds := by rw [← hl, List.take_length]
      rw [ht] at ho ⊢
      cases whole
      · rfl
      · rw [ho rfl]; rfl
    · obtain ⟨a, b, c⟩ := leftN_bounds n (by omega) (by omega)
      by_cases hm : m ≤ leftN n
      · have hT : (ds.take (leftN n)).length = leftN n := by rw [List.length_take, hl]; omega
        have hp := extL_length (leftN n) (ds.take (leftN n)) m whole hT h1 hm (by omega)
        rw [extL_left ds m n whole hl e (by omega) (by omega) hm]
        rw [extD_left old whole _ (p := extLen m (leftN n) whole) (by rw [List.length_append, hp]; rfl) e (by omega) (by omega) hm, take_snoc _ _ hp, getD_snoc _ _ _ hp]
        have := ih (leftN n) a (ds.take (leftN n)) m whole old hT h1 hm (by omega) (by rw [List.take_take, Nat.min_eq_left hm]; exact ho)
        rw [this, List.take_take, Nat.min_eq_left hm, rootL_more ds n hl (by omega) (by omega)]
      · have hT : (ds.drop (leftN n)).length = n - leftN n := by rw [List.length_drop, hl]
        have hp := extL_length (n - leftN n) (ds.drop (leftN n)) (m - leftN n) false hT (by omega) (by omega) (by omega)
        rw [extL_right ds m n whole hl e (by omega) (by omega) hm]
        rw [extD_right old whole _ (p := extLen (m - leftN n) (n - leftN n) false) (by rw [List.length_append, hp]; rfl) e (by omega) (by omega) hm, take_snoc _ _ hp, getD_snoc _ _ _ hp]
        have := ih (n - leftN n) (by omega) (ds.drop (leftN n)) (m - leftN n) false old hT (by omega) (by omega) (by omega) (fun h => by cases h)
        have hlm : (ds.take m).length = m := by rw [List.length_take, hl]; omega
        have e2 := rootL_more (ds.take m) m hlm (by omega) (by omega)
        rw [leftN_between (by omega) hmn (by omega) (by omega), List.take_take, Nat.min_eq_left (by omega), List.drop_take] at e2
        rw [this, ← e2, rootL_more ds n hl (by omega) (by omega)]
end Go.Proofs.YtkaghbpdnmigmaaDoor
