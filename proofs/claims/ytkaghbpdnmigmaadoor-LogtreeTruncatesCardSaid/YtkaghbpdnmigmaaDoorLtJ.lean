/- logtree.New, Len, and Append to an empty tree. -/
import Derived.Test.YtkaghbpdnmigmaaDoorLtI
namespace Go.Proofs.YtkaghbpdnmigmaaDoor
open Go.RowKit

def Newed (w : World) (e : Ending) (w' : World) : Prop := e = .returned (.pointer (some ⟨w.heap.size, 0, none⟩)) ∧ w' = w.alloc (.cells #[.slice none 0 0, .map none] 102)

set_option maxRecDepth 100000 in
theorem New_any (w : World) : Calls Tryd.prog 43 #[] w (Newed w) := by
  go_enter Tryd.func43, Tryd.ntmps43
  go_wp2
  go_ret
  exact ⟨rfl, rfl⟩

set_option maxRecDepth 100000 in
theorem Len_any (g : Nat) (A : Option Addr) (n c : Nat) (w : World) (h : w.cell? ⟨g, 0, none⟩ = some (.slice A n c)) : Calls Tryd.prog 42 #[.pointer (some ⟨g, 0, none⟩)] w (fun e w' => e = .returned (.int .i64 n) ∧ w' = w) := by
  go_enter Tryd.func42, Tryd.ntmps42
  go_wp2
  go_ret
  exact ⟨rfl, rfl⟩
end Go.Proofs.YtkaghbpdnmigmaaDoor
