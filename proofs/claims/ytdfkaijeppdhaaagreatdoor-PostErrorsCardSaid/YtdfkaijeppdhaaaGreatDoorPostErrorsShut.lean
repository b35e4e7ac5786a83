/- The closed facts of the row of PostErrors. -/
import Derived.Test.YtdfkaijeppdhaaaGreatDoorZEr45
namespace Go.Proofs.YtdfkaijeppdhaaaGreatDoor.postErrors
open Go.ChangeShapes Go.WideShapes Go.ChangeAt Go.RowKit Go.Deep
set_option maxHeartbeats 40000000 in
theorem closed : joinedFacts Tryz.pinned.checked.prog 6 Tryz.f6 Rows.postErrorsSpec Rows.postErrorsRow = true := by
  unfold joinedFacts
  simp only [Bool.and_eq_true]
  and_intros
  all_goals (as_aux_lemma => kernel_rfl)
end Go.Proofs.YtdfkaijeppdhaaaGreatDoor.postErrors
