/- State: differences of two lists, plain. -/
import Derived.Test.YtpnchdgplpdefaaDoorLmSbC
namespace Go.Proofs.YtpnchdgplpdefaaDoor
open Go.RowKit Go.Shelf
theorem beqB (a b : ByteArray) : (a == b) = true ↔ a = b := by
 constructor
 ·intro h
  have h1 : (a.data == b.data) = true := h
  exact ByteArray.ext (by simpa using h1)
 ·rintro rfl
  have h1 : (a.data == a.data) = true := by simp
  exact h1
theorem beqL (a b : ByteArray) : (a.toList == b.toList) = (a == b) := by
 rw [Bool.eq_iff_iff, beqB, beq_iff_eq, ByteArray.toList_eq, ByteArray.toList_eq]
 constructor
 ·intro h
  exact ByteArray.ext (Array.toList_inj.1 h)
 ·rintro rfl
  rfl
def dropC (x : Ent) : CV := ⟨x.1, ByteArray.empty, true⟩
def setC (y : Ent) : CV := ⟨y.1, y.2, false⟩
def diffL : List Ent → List Ent → List CV
 | [], [] => []
 | x :: a, [] => dropC x :: diffL a []
 | [], y :: b => setC y :: diffL [] b
 | x :: a, y :: b => if cmpN x.1 y.1 < 0 then dropC x :: diffL a (y :: b) else if 0 < cmpN x.1 y.1 then setC y :: diffL (x :: a) b else if (x.2 == y.2) = true then diffL a b else setC y :: diffL a b
termination_by a b => a.length + b.length
theorem diff_length : ∀ a b : List Ent, (diffL a b).length ≤ a.length + b.length
 | [], [] => by rw [diffL]; exact Nat.le_refl _
 | x :: a, [] => by
  have h := diff_length a []
  rw [diffL]
  simp only [List.length_cons, List.length_nil] at h ⊢
  omega
 | [], y :: b => by
  have h := diff_length [] b
  rw [diffL]
  simp only [List.length_cons, List.length_nil] at h ⊢
  omega
 | x :: a, y :: b => by
  have h1 := diff_length a (y :: b)
  have h2 := diff_length (x :: a) b
  have h3 := diff_length a b
  rw [diffL]
  simp only [List.length_cons] at h1 h2 ⊢
  split
  ·simp only [List.length_cons]; omega
  ·split
   ·simp only [List.length_cons]; omega
   ·split
    ·omega
    ·simp only [List.length_cons]; omega
termination_by a b => a.length + b.length
theorem diff_self : ∀ a : List Ent, diffL a a = []
 | [] => by rw [diffL]
 | x :: a => by
  have h := cmpN_is.refl x.1
  rw [diffL, if_neg (by omega), if_neg (by omega), if_pos ((beqB _ _).2 rfl), diff_self a]
theorem CV_one (c : CV) : ∀ u ∈ c.cells, u.oneCell' = true := fun u hu => by
 have h := c.one
 rw [Array.all_eq_true_iff_forall_mem] at h
 exact h u (by simpa using hu)
end Go.Proofs.YtpnchdgplpdefaaDoor
