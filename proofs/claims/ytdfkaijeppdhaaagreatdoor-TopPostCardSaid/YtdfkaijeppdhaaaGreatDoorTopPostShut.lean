/- The closed facts of the row of TopPost. -/
import Derived.Test.YtdfkaijeppdhaaaGreatDoorZHt47
namespace Go.Proofs.YtdfkaijeppdhaaaGreatDoor.topPost
open Go.ChangeShapes Go.WideShapes Go.ChangeAt Go.RowKit Go.Deep
set_option maxHeartbeats 40000000 in
theorem closed : joinedFacts Tryz.pinned.checked.prog 14 Tryz.f14 Rows.topPostSpec Rows.topPostRow = true := by
  unfold joinedFacts
  simp only [Bool.and_eq_true]
  and_intros
  all_goals (as_aux_lemma => kernel_rfl)
end Go.Proofs.YtdfkaijeppdhaaaGreatDoor.topPost
