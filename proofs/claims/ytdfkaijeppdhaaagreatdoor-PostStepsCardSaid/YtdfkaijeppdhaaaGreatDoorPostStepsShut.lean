/- The closed facts of the row of PostSteps. -/
import Derived.Test.YtdfkaijeppdhaaaGreatDoorZHs47
namespace Go.Proofs.YtdfkaijeppdhaaaGreatDoor.postSteps
open Go.ChangeShapes Go.WideShapes Go.ChangeAt Go.RowKit Go.Deep
set_option maxHeartbeats 40000000 in
theorem closed : joinedFacts Tryz.pinned.checked.prog 11 Tryz.f11 Rows.postStepsSpec Rows.postStepsRow = true := by
  unfold joinedFacts
  simp only [Bool.and_eq_true]
  and_intros
  all_goals (as_aux_lemma => kernel_rfl)
end Go.Proofs.YtdfkaijeppdhaaaGreatDoor.postSteps
