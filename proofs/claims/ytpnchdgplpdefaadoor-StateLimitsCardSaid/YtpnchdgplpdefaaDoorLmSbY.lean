/- State: the order of changes, plain. -/
import Derived.Test.YtpnchdgplpdefaaDoorLmSbK
namespace Go.Proofs.YtpnchdgplpdefaaDoor
open Go.RowKit Go.Shelf
def DistC (xs : List CV) : Prop := xs.Pairwise (fun a b => a.nm ≠ b.nm)
structure Picked (zs c : List CV) : Prop where
 dist : DistC c
 ok : ∀ z ∈ c, okNm z.nm = true
 of : ∀ z ∈ c, z ∈ zs
theorem DistC.at_ {c : List CV} (h : DistC c) {p q : Nat} {a b : CV} (hp : c[p]? = some a) (hq : c[q]? = some b) (hne : p ≠ q) : a.nm ≠ b.nm := by
 obtain ⟨h1, rfl⟩ := List.getElem?_eq_some_iff.1 hp
 obtain ⟨h2, rfl⟩ := List.getElem?_eq_some_iff.1 hq
 rcases Nat.lt_or_gt_of_ne hne with hl | hl
 ·exact List.pairwise_iff_getElem.1 h p q h1 h2 hl
 ·exact (List.pairwise_iff_getElem.1 h q p h2 h1 hl).symm
end Go.Proofs.YtpnchdgplpdefaaDoor
