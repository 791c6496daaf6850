/- Slices whose elements take several cells, opened to a list of what the elements are. Plain lemmas over any program. -/
import Derived.Test.YtkaghbpdnmigmaaDoorBase
import Derived.Deep.Slices
import Derived.Deep.Fields
import Derived.OpenShut
namespace Go.Proofs.YtkaghbpdnmigmaaDoor
open Go.RowKit

abbrev Old (w : World) : Nat → Prop := fun k => k < w.heap.size

section
variable {X : Type} (cells : X → List Value) (size : Nat)

theorem flat_length (hs : ∀ x, (cells x).length = size) (l : List X) : (l.flatMap cells).length = l.length * size := by
  induction l with
  | nil => simp
  | cons x l ih => rw [List.flatMap_cons, List.length_append, ih, hs, List.length_cons, Nat.succ_mul]; omega

theorem flat_at (hs : ∀ x, (cells x).length = size) : ∀ (l : List X) (k j : Nat) (x : X), l[k]? = some x → j < size → (l.flatMap cells)[k * size + j]? = (cells x)[j]?
  | [], k, j, x, h, _ => by simp at h
  | y :: l, 0, j, x, h, hj => by
    simp at h
    subst h
    rw [List.flatMap_cons, Nat.zero_mul, Nat.zero_add, List.getElem?_append_left (by rw [hs]; exact hj)]
  | y :: l, k + 1, j, x, h, hj => by
    have e : (k + 1) * size + j = size + (k * size + j) := by rw [Nat.succ_mul]; omega
    rw [List.flatMap_cons, e, List.getElem?_append_right (by rw [hs]; omega), hs, Nat.add_sub_cancel_left]
    exact flat_at hs l k j x (by simpa using h) hj

/-- From the elements' cells to the whole slice. -/
theorem rd_of_elems {w : World} {a : Addr} {len : Nat} (Pr : X → Prop) (hs : ∀ x, (cells x).length = size) (h0 : 0 < size)
    (h : ∀ i, i < len → ∃ x : X, Pr x ∧ ∀ j u, (cells x)[j]? = some u → w.cell? ((a.add (i * size)).add j) = some u) :
    ∃ l : List X, l.length = len ∧ (∀ x ∈ l, Pr x) ∧ Rd w (Old w) size (some a) len (l.flatMap cells) := by
  have h' : ∀ i : Nat, ∃ x : Option X, i < len → ∃ y, x = some y ∧ Pr y ∧ ∀ j u, (cells y)[j]? = some u → w.cell? ((a.add (i * size)).add j) = some u := by
    intro i
    by_cases hi : i < len
    · obtain ⟨x, hx⟩ := h i hi
      exact ⟨some x, fun _ => ⟨x, rfl, hx⟩⟩
    · exact ⟨none, fun hh => absurd hh hi⟩
  obtain ⟨f, hf⟩ := Classical.axiomOfChoice h'
  have key : ∀ m, m ≤ len → ∃ l : List X, l.length = m ∧ (∀ x ∈ l, Pr x) ∧ ∀ i, i < m → l[i]? = f i := by
    intro m
    induction m with
    | zero => intro _; exact ⟨[], rfl, by simp, by omega⟩
    | succ m ih =>
      intro hm
      obtain ⟨l, h1, h2, h3⟩ := ih (by omega)
      obtain ⟨y, hy, hp, _⟩ := hf m (by omega)
      refine ⟨l ++ [y], by simp [h1], ?_, fun i hi => ?_⟩
      · intro x hx
        rcases List.mem_append.1 hx with hx | hx
        · exact h2 x hx
        · rw [List.mem_singleton.1 hx]; exact hp
      · rcases Nat.lt_or_ge i m with hlt | hge
        · rw [List.getElem?_append_left (by omega)]; exact h3 i hlt
        · obtain rfl : i = m := by omega
          rw [List.getElem?_append_right (by omega), h1, hy]
          simp
  obtain ⟨l, h1, h2, h3⟩ := key len (Nat.le_refl _)
  have hcell : ∀ j u, (l.flatMap cells)[j]? = some u → w.cell? (a.add j) = some u := by
    intro j u hu
    have hjl : j < len * size := by
      have := (List.getElem?_eq_some_iff.1 hu).1
      rw [flat_length cells size hs, h1] at this
      exact this
    have hk : j / size < len := Nat.div_lt_of_lt_mul (by rw [Nat.mul_comm]; exact hjl)
    have hr : j % size < size := Nat.mod_lt _ h0
    have hj : j / size * size + j % size = j := by rw [Nat.mul_comm]; exact Nat.div_add_mod j size
    obtain ⟨y, hy, _, hc⟩ := hf (j / size) hk
    have hly : l[j / size]? = some y := (h3 _ hk).trans hy
    rw [← hj, flat_at cells size hs l _ _ y hly hr] at hu
    have := hc _ u hu
    rw [add_of_add, hj] at this
    exact this
  refine ⟨l, h1, h2, by rw [flat_length cells size hs, h1], fun hn => ⟨a, rfl, ?_, hcell⟩⟩
  obtain ⟨y, hy, _, hc⟩ := hf 0 hn
  have hne : 0 < (cells y).length := by rw [hs]; exact h0
  have := World.block_lt_of_cell? w _ (hc 0 _ (List.getElem?_eq_getElem hne))
  rw [block_of_add, block_of_add] at this
  exact this
end
end Go.Proofs.YtkaghbpdnmigmaaDoor
