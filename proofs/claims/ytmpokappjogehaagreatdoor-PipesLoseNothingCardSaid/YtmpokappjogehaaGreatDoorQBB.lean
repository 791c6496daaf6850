/- Steps of the proof of LawPipesLoseNothing: contracts of the functions that the law reaches, for every world that holds what each of them asks. -/
import Derived.Test.YtmpokappjogehaaGreatDoorQBA
set_option linter.unusedVariables false
set_option linter.unusedSimpArgs false
namespace Go.Proofs.YtmpokappjogehaaGreatDoor
namespace Ev
open Go Go.RowKit
theorem st1 : viewRun kSt 14 [] none lv0 = some (.int .i64 (.ofNat 0), none, lv1) := by kernel_rfl
theorem st2 : viewRun kSt 15 [.agg [.str ⟨1, 57⟩, .int .i64 (.ofNat 0), .nils, .str ⟨0,0⟩, .int .i64 (.ofNat 0)], .str ⟨4, 795834222⟩, .int .i64 (.ofNat 448)] none lv1 = some (.tup [.agg [.str ⟨1, 57⟩, .int .i64 (.ofNat 0)], .int .i64 (.ofNat 0)], none, lv2) := by kernel_rfl
theorem st3 : viewRun kSt 15 [.agg [.str ⟨1, 57⟩, .int .i64 (.ofNat 0), .nils, .str ⟨0,0⟩, .int .i64 (.ofNat 0)], .str ⟨4, 796159344⟩, .int .i64 (.ofNat 511)] none lv2 = some (.tup [.agg [.str ⟨1, 57⟩, .int .i64 (.ofNat 1)], .int .i64 (.ofNat 0)], none, lv3) := by kernel_rfl
theorem st4 : viewRun kSt 16 [.agg [.str ⟨1, 57⟩, .int .i64 (.ofNat 0), .nils, .str ⟨0,0⟩, .int .i64 (.ofNat 0)], .str ⟨6, 52155791585126⟩, .int .i64 (.ofNat 6), .int .i64 (.ofNat 420)] none lv3 = some (.tup [.agg [.str ⟨1, 57⟩, .int .i64 (.ofNat 2)], .int .i64 (.ofNat 0)], none, lv4) := by kernel_rfl
theorem st5 : viewRun kSt 17 [.agg [.str ⟨1, 57⟩, .int .i64 (.ofNat 2)], .int .i64 (.ofNat 0), .str ⟨6, 126879297332596⟩] none lv4 = some (.tup [.int .i64 (.ofNat 6), .int .i64 (.ofNat 0)], none, lv5) := by kernel_rfl
theorem st6 : viewRun kSt 18 [.agg [.str ⟨1, 57⟩, .int .i64 (.ofNat 0), .nils, .str ⟨0,0⟩, .int .i64 (.ofNat 0)], .str ⟨6, 52155791585126⟩, .int .i64 (.ofNat 7), .int .i64 (.ofNat 0)] none lv5 = some (.int .i64 (.ofNat 0), none, lv6) := by kernel_rfl
theorem st7 : viewRun kSt 16 [.agg [.str ⟨1, 57⟩, .int .i64 (.ofNat 0), .nils, .str ⟨0,0⟩, .int .i64 (.ofNat 0)], .str ⟨2, 12134⟩, .int .i64 (.ofNat 6), .int .i64 (.ofNat 420)] none lv6 = some (.tup [.agg [.str ⟨1, 57⟩, .int .i64 (.ofNat 3)], .int .i64 (.ofNat 0)], none, lv7) := by kernel_rfl
theorem st8 : viewRun kSt 17 [.agg [.str ⟨1, 57⟩, .int .i64 (.ofNat 3)], .int .i64 (.ofNat 0), .str ⟨6, 126879297332596⟩] none lv7 = some (.tup [.int .i64 (.ofNat 6), .int .i64 (.ofNat 0)], none, lv8) := by kernel_rfl
end Ev
end Go.Proofs.YtmpokappjogehaaGreatDoor
