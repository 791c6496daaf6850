/- State: changes step by step; the reference's Apply (written by genSbK.py). -/
import Derived.Test.YtpnchdgplpdefaaDoorLmSbI
namespace Go.Proofs.YtpnchdgplpdefaaDoor
open Go.RowKit Go.Shelf
def nextC (c : CV) (L : List Ent) : List Ent := if c.absent then delL c.nm L else insL c.nm c.value L
def runC (xs : List CV) (L : List Ent) : List Ent := xs.foldl (fun l c => nextC c l) L
def stepC (c : CV) (L : List Ent) : List Ent := if okNm c.nm then nextC c L else L
structure SmallC (c : CV) : Prop where
 owner : c.nm.owner.size ≤ 100
 text : c.nm.text.size ≤ 100
 value : c.value.size ≤ 200
structure GoodK (k : Nat) (L : List Ent) : Prop where
 sort : SortL L
 len : L.length ≤ k
 ok : ∀ x ∈ L, okNm x.1 = true
 owner : ∀ x ∈ L, x.1.owner.size ≤ 100
 text : ∀ x ∈ L, x.1.text.size ≤ 100
 value : ∀ x ∈ L, x.2.size ≤ 200
theorem GoodK.nil : GoodK 0 [] := ⟨List.Pairwise.nil, Nat.le_refl _, (fun _ h => by cases h), (fun _ h => by cases h), (fun _ h => by cases h), (fun _ h => by cases h)⟩
theorem bytesL_le : ∀ L : List Ent, (∀ x ∈ L, x.2.size ≤ 200) → bytesL L ≤ 200 * L.length
 | [], _ => by simp [bytesL]
 | x :: L, h => by
  have h1 := bytesL_le L (fun y hy => h y (List.mem_cons_of_mem _ hy))
  have h2 := h x (List.mem_cons_self ..)
  simp only [bytesL, List.map_cons, List.sum_cons, List.length_cons] at h1 ⊢
  omega
theorem GoodK.good {k : Nat} {L : List Ent} (h : GoodK k L) (hk : k ≤ 60000) : GoodL L :=
 ⟨h.sort, fun x hx => by have := h.owner x hx; omega, by have := h.len; omega, by have := bytesL_le L h.value; have := h.len; omega, h.ok⟩
theorem GoodK.more {k k' : Nat} {L : List Ent} (h : GoodK k L) (hk : k ≤ k') : GoodK k' L := ⟨h.sort, by have := h.len; omega, h.ok, h.owner, h.text, h.value⟩
theorem GoodK.next {k : Nat} {L : List Ent} {c : CV} (h : GoodK k L) (hc : SmallC c) (ho : okNm c.nm = true) : GoodK (k + 1) (nextC c L) := by
 unfold nextC
 cases c.absent
 ·rw [if_neg (by decide)]
  have hm := (insL_sort (nm := c.nm) (v := c.value) h.sort).2
  refine ⟨(insL_sort h.sort).1, by have := (insL_size (nm := c.nm) (v := c.value) L).1; have := h.len; omega, fun x hx => ?_, fun x hx => ?_, fun x hx => ?_, fun x hx => ?_⟩
  ·rcases hm x hx with rfl | h1
   ·exact ho
   ·exact h.ok x h1
  ·rcases hm x hx with rfl | h1
   ·exact hc.owner
   ·exact h.owner x h1
  ·rcases hm x hx with rfl | h1
   ·exact hc.text
   ·exact h.text x h1
  ·rcases hm x hx with rfl | h1
   ·exact hc.value
   ·exact h.value x h1
 ·rw [if_pos rfl]
  have hm := (delL_sub (nm := c.nm) L).subset
  exact ⟨delL_sort h.sort, by have := (delL_size (nm := c.nm) L).1; have := h.len; omega, fun x hx => h.ok x (hm hx), fun x hx => h.owner x (hm hx), fun x hx => h.text x (hm hx), fun x hx => h.value x (hm hx)⟩
theorem GoodK.step {k : Nat} {L : List Ent} {c : CV} (h : GoodK k L) (hc : SmallC c) : GoodK (k + 1) (stepC c L) := by
 unfold stepC
 cases ho : okNm c.nm
 ·exact h.more (by omega)
 ·exact h.next hc ho
theorem SmallC.name {c : CV} (h : SmallC c) : GoodN c.nm := ⟨by have := h.owner; omega, by have := h.text; omega⟩
end Go.Proofs.YtpnchdgplpdefaaDoor
