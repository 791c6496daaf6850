/- Steps of the proof of LawPipesLoseNothing: contracts of the functions that the law reaches, for every world that holds what each of them asks. -/
import Derived.Test.YtmpokappjogehaaGreatDoorQBA
set_option linter.unusedVariables false
set_option linter.unusedSimpArgs false
namespace Go.Proofs.YtmpokappjogehaaGreatDoor
namespace Ev
open Go Go.RowKit
theorem st9 : viewRun kSt 18 [.agg [.str ⟨1, 57⟩, .int .i64 (.ofNat 0), .nils, .str ⟨0,0⟩, .int .i64 (.ofNat 0)], .str ⟨2, 12134⟩, .int .i64 (.ofNat 7), .int .i64 (.ofNat 0)] none lv8 = some (.int .i64 (.ofNat 0), none, lv9) := by kernel_rfl
theorem st10 : viewRun kSt 18 [.agg [.str ⟨1, 57⟩, .int .i64 (.ofNat 0), .nils, .str ⟨0,0⟩, .int .i64 (.ofNat 0)], .str ⟨4, 795834222⟩, .int .i64 (.ofNat 7), .int .i64 (.ofNat 0)] none lv9 = some (.int .i64 (.ofNat 0), none, lv10) := by kernel_rfl
theorem st11 : viewRun kSt 19 [.str ⟨1, 49⟩, .agg [.int .i64 (.ofNat 2), .int .i64 (.ofNat 1), .int .i64 (.ofNat 0), .int .i64 (.ofNat 0), .int .i64 (.ofNat 7), .nils, .str ⟨1, 49⟩, .int .i64 (.ofNat 0), .str ⟨0,0⟩, .int .i64 (.ofNat 0), .int .i64 (.ofNat 0)]] none lv10 = some (.int .i64 (.ofNat 0), none, lv11) := by kernel_rfl
theorem st12 : viewRun kSt 19 [.str ⟨1, 50⟩, .agg [.int .i64 (.ofNat 2), .int .i64 (.ofNat 1), .int .i64 (.ofNat 0), .int .i64 (.ofNat 0), .int .i64 (.ofNat 8), .nils, .str ⟨1, 50⟩, .int .i64 (.ofNat 0), .str ⟨0,0⟩, .int .i64 (.ofNat 0), .int .i64 (.ofNat 0)]] none lv11 = some (.int .i64 (.ofNat 0), none, lv12) := by kernel_rfl
theorem st13 : viewRun kSt 6 [.str ⟨1, 49⟩] none lv12 = some (.tup [.int .i64 (.ofNat 0), .int .i64 (.ofNat 1), .int .i64 (.ofNat 0)], none, lv13) := by kernel_rfl
theorem st14 : viewRun kSt 7 [.str ⟨1, 49⟩, .bool false] none lv13 = some (.tup [.str ⟨3, 3223089⟩, .int .i64 (.ofNat 0)], none, lv14) := by kernel_rfl
theorem st15 : viewRun kSt 8 [.str ⟨1, 49⟩, .int .i64 (.ofNat 0)] none lv14 = some (.int .i64 (.ofNat 0), none, lv15) := by kernel_rfl
theorem st16 : viewRun kSt 8 [.str ⟨3, 3223089⟩, .int .i64 (.ofNat 1)] none lv15 = some (.int .i64 (.ofNat 0), none, lv16) := by kernel_rfl
end Ev
end Go.Proofs.YtmpokappjogehaaGreatDoor
