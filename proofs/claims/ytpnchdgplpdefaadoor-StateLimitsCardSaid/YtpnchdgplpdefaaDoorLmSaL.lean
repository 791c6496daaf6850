/- State: what a law's arguments are. -/
import Derived.Test.YtpnchdgplpdefaaDoorLmSaK
import Derived.RegionTactic
import Derived.OwnWalk
import Derived.Laws.Rows
import Derived.Deep.Slices
import Derived.OpenShut
namespace Go.Proofs.YtpnchdgplpdefaaDoor
open Go.ChangeShapes Go.WideShapes Go.ChangeAt Go.RowKit Go.Deep
structure NameV.good (n : NameV) : Prop where
 kind : -9223372036854775808 ≤ n.kind ∧ n.kind ≤ 9223372036854775807
 number : -9223372036854775808 ≤ n.number ∧ n.number ≤ 9223372036854775807
 index : -9223372036854775808 ≤ n.index ∧ n.index ≤ 9223372036854775807
 owner : n.owner.size ≤ 9223372036854775807
 text : n.text.size ≤ 9223372036854775807
structure CV.good (c : CV) : Prop where
 nm : c.nm.good
 value : c.value.size ≤ 9223372036854775807
end Go.Proofs.YtpnchdgplpdefaaDoor
