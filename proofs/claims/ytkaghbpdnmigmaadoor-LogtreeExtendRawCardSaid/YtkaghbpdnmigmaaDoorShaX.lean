/- Two digests that differ: reckoned by the kernel. -/
import Derived.Test.YtkaghbpdnmigmaaDoorShaQ
namespace Go.Proofs.YtkaghbpdnmigmaaDoor

set_option maxRecDepth 1000000 in
theorem leaf_ab : (shaL (joinL 0 [[97]])).head? ≠ (shaL (joinL 0 [[98]])).head? := by decide +kernel
end Go.Proofs.YtkaghbpdnmigmaaDoor
