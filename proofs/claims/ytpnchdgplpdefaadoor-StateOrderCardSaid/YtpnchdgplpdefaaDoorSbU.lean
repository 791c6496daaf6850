/- State: differences of two lists, plain. -/
import Derived.Test.YtpnchdgplpdefaaDoorSbC
namespace Go.Proofs.YtpnchdgplpdefaaDoor
open Go.RowKit Go.Shelf

theorem beqB (a b : ByteArray) : (a == b) = true ↔ a = b := by
  constructor
  · intro h
    have h1 : (a.data == b.data) = true := h
    exact ByteArray.ext (by simpa using h1)
  · rintro rfl
    have h1 : (a.data == a.data) = true := by simp
    exact h1
theorem beqL (a b : ByteArray) : (a.toList == b.toList) = (a == b) := by
  rw [Bool.eq_iff_iff, beqB, beq_iff_eq, ByteArray.toList_eq, ByteArray.toList_eq]
  constructor
  · intro h
    exact ByteArray.ext (Array.toList_inj.1 h)
  · rintro rfl
    rfl
def dropC (x : Ent) : CV := ⟨x.1, ByteArray.empty, true⟩
def setC (y : Ent) : CV := ⟨y.1, y.2, false⟩
def diffL : List Ent → List Ent → List CV
  | [], [] => []
  | x :: a, [] => dropC x :: diffL a []
  | [], y :: b => setC y :: diffL [] b
  | x :: a, y :: b => if cmpN x.1 y.1 < 0 then dropC x :: diffL a (y :: b) else if 0 < cmpN x.1 y.1 then setC y :: diffL (x :: a) b else if (x.2 == y.2) = true then diffL a b else setC y :: diffL a b
termination_by a b => a.length + b.length

theorem drop_cons {α : Type} {L : List α} {i : Nat} {x : α} (h : L[i]? = some x) : L.drop i = x :: L.drop (i + 1) := by
  obtain ⟨h1, h2⟩ := List.getElem?_eq_some_iff.1 h
  rw [List.drop_eq_getElem_cons h1, h2]
theorem diff_end (A B : List Ent) : diffL (A.drop A.length) (B.drop B.length) = [] := by
  rw [List.drop_length, List.drop_length, diffL]
theorem diff_lt {A B : List Ent} {i k : Nat} {x : Ent} (hx : A[i]? = some x) (h : k = B.length ∨ ∃ y, B[k]? = some y ∧ cmpN x.1 y.1 < 0) : diffL (A.drop i) (B.drop k) = dropC x :: diffL (A.drop (i + 1)) (B.drop k) := by
  rw [drop_cons hx]
  rcases h with rfl | ⟨y, hy, hc⟩
  · rw [List.drop_length, diffL]
  · rw [drop_cons hy, diffL, if_pos hc]
theorem diff_gt {A B : List Ent} {i k : Nat} {y : Ent} (hy : B[k]? = some y) (h : i = A.length ∨ ∃ x, A[i]? = some x ∧ 0 < cmpN x.1 y.1) : diffL (A.drop i) (B.drop k) = setC y :: diffL (A.drop i) (B.drop (k + 1)) := by
  rw [drop_cons hy]
  rcases h with rfl | ⟨x, hx, hc⟩
  · rw [List.drop_length, diffL]
  · rw [drop_cons hx, diffL, if_neg (by omega), if_pos hc]
theorem diff_same {A B : List Ent} {i k : Nat} {x y : Ent} (hx : A[i]? = some x) (hy : B[k]? = some y) (hc : cmpN x.1 y.1 = 0) (h : (x.2 == y.2) = true) : diffL (A.drop i) (B.drop k) = diffL (A.drop (i + 1)) (B.drop (k + 1)) := by
  rw [drop_cons hx, drop_cons hy, diffL, if_neg (by omega), if_neg (by omega), if_pos h]
theorem diff_other {A B : List Ent} {i k : Nat} {x y : Ent} (hx : A[i]? = some x) (hy : B[k]? = some y) (hc : cmpN x.1 y.1 = 0) (h : (x.2 == y.2) = false) : diffL (A.drop i) (B.drop k) = setC y :: diffL (A.drop (i + 1)) (B.drop (k + 1)) := by
  rw [drop_cons hx, drop_cons hy, diffL, if_neg (by omega), if_neg (by omega), if_neg (by rw [h]; decide)]

theorem diff_length : ∀ a b : List Ent, (diffL a b).length ≤ a.length + b.length
  | [], [] => by rw [diffL]; exact Nat.le_refl _
  | x :: a, [] => by
    have h := diff_length a []
    rw [diffL]
    simp only [List.length_cons, List.length_nil] at h ⊢
    omega
  | [], y :: b => by
    have h := diff_length [] b
    rw [diffL]
    simp only [List.length_cons, List.length_nil] at h ⊢
    omega
  | x :: a, y :: b => by
    have h1 := diff_length a (y :: b)
    have h2 := diff_length (x :: a) b
    have h3 := diff_length a b
    rw [diffL]
    simp only [List.length_cons] at h1 h2 ⊢
    split
    · simp only [List.length_cons]; omega
    · split
      · simp only [List.length_cons]; omega
      · split
        · omega
        · simp only [List.length_cons]; omega
termination_by a b => a.length + b.length

theorem diff_mem : ∀ (a b : List Ent) (c : CV), c ∈ diffL a b → (∃ x ∈ a, c = dropC x) ∨ (∃ y ∈ b, c = setC y)
  | [], [], c, h => by rw [diffL] at h; cases h
  | x :: a, [], c, h => by
    rw [diffL] at h
    rcases List.mem_cons.1 h with rfl | h
    · exact .inl ⟨x, by simp, rfl⟩
    · rcases diff_mem a [] c h with ⟨z, hz, e⟩ | ⟨z, hz, e⟩
      · exact .inl ⟨z, by simp [hz], e⟩
      · exact .inr ⟨z, hz, e⟩
  | [], y :: b, c, h => by
    rw [diffL] at h
    rcases List.mem_cons.1 h with rfl | h
    · exact .inr ⟨y, by simp, rfl⟩
    · rcases diff_mem [] b c h with ⟨z, hz, e⟩ | ⟨z, hz, e⟩
      · exact .inl ⟨z, hz, e⟩
      · exact .inr ⟨z, by simp [hz], e⟩
  | x :: a, y :: b, c, h => by
    rw [diffL] at h
    split at h
    · rcases List.mem_cons.1 h with rfl | h
      · exact .inl ⟨x, by simp, rfl⟩
      · rcases diff_mem a (y :: b) c h with ⟨z, hz, e⟩ | ⟨z, hz, e⟩
        · exact .inl ⟨z, by simp [hz], e⟩
        · exact .inr ⟨z, hz, e⟩
    · split at h
      · rcases List.mem_cons.1 h with rfl | h
        · exact .inr ⟨y, by simp, rfl⟩
        · rcases diff_mem (x :: a) b c h with ⟨z, hz, e⟩ | ⟨z, hz, e⟩
          · exact .inl ⟨z, hz, e⟩
          · exact .inr ⟨z, by simp [hz], e⟩
      · split at h
        · rcases diff_mem a b c h with ⟨z, hz, e⟩ | ⟨z, hz, e⟩
          · exact .inl ⟨z, by simp [hz], e⟩
          · exact .inr ⟨z, by simp [hz], e⟩
        · rcases List.mem_cons.1 h with rfl | h
          · exact .inr ⟨y, by simp, rfl⟩
          · rcases diff_mem a b c h with ⟨z, hz, e⟩ | ⟨z, hz, e⟩
            · exact .inl ⟨z, by simp [hz], e⟩
            · exact .inr ⟨z, by simp [hz], e⟩
termination_by a b => a.length + b.length

theorem diff_self : ∀ a : List Ent, diffL a a = []
  | [] => by rw [diffL]
  | x :: a => by
    have h := cmpN_is.refl x.1
    rw [diffL, if_neg (by omega), if_neg (by omega), if_pos ((beqB _ _).2 rfl), diff_self a]

theorem CV_one (c : CV) : ∀ u ∈ c.cells, u.oneCell' = true := fun u hu => by
  have h := c.one
  rw [Array.all_eq_true_iff_forall_mem] at h
  exact h u (by simpa using hu)
end Go.Proofs.YtpnchdgplpdefaaDoor
