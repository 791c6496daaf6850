/- The reference's Tagged, and its Leaf, Empty, Pair and Node. -/
import Derived.Test.YtfdcmjjafngonaaDoorShaH
import Derived.Test.YtfdcmjjafngonaaDoorGwC
namespace Go.Proofs.YtfdcmjjafngonaaDoor
open Go.RowKit

def digV (l : List UInt8) : Value := .agg (l.map bvI).toArray

end Go.Proofs.YtfdcmjjafngonaaDoor