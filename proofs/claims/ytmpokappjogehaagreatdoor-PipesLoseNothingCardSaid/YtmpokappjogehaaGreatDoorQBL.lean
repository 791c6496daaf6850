/- Steps of the proof of LawPipesLoseNothing: contracts of the functions that the law reaches, for every world that holds what each of them asks. -/
import Derived.Test.YtmpokappjogehaaGreatDoorRows
import Derived.JoinedCond
import Derived.KernelRfl
set_option linter.unusedVariables false
set_option linter.unusedSimpArgs false
namespace Go.Proofs.YtmpokappjogehaaGreatDoor
namespace pipesLoseNothing
set_option maxHeartbeats 400000000 in
theorem closedF : joinedFacts Tryz.pinned.checked.prog 3 Tryz.f3 (OpenSpec.ofChange Rows.pipesLoseNothingSpec).bare Rows.pipesLoseNothingRow = true := by
  unfold joinedFacts
  simp only [Bool.and_eq_true]
  repeat' (refine And.intro ?_ ?_)
  all_goals as_aux_lemma => kernel_rfl
end pipesLoseNothing
end Go.Proofs.YtmpokappjogehaaGreatDoor
