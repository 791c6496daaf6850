/- State: the reference's With, Without (written by genSbI.py). -/
import Derived.Test.YtpnchdgplpdefaaDoorLmSbH
import Derived.Test.YtpnchdgplpdefaaDoorLmSbD
namespace Go.Proofs.YtpnchdgplpdefaaDoor
open Go.RowKit Go.Shelf
structure NewE (w0 w : World) (v : Value) (L : List Ent) : Prop where
 row : RowE w v L
 new : ∀ k, v.ownBlock = some k → w0.heap.size ≤ k
theorem NewE.fr0 {w0 w w' : World} {v : Value} {L : List Ent} (h : NewE w0 w v L) (hf : Fr Nothing w w') : NewE w0 w' v L := ⟨h.row.fr0 hf, h.new⟩
end Go.Proofs.YtpnchdgplpdefaaDoor
