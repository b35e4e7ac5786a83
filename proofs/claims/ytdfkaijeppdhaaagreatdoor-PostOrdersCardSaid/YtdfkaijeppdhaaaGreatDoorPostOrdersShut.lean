/- The closed facts of the row of PostOrders. -/
import Derived.Test.YtdfkaijeppdhaaaGreatDoorRow
namespace Go.Proofs.YtdfkaijeppdhaaaGreatDoor.postOrders
open Go.ChangeShapes Go.WideShapes Go.ChangeAt Go.RowKit Go.Deep
set_option maxHeartbeats 40000000 in
theorem closed : joinedFacts Tryz.pinned.checked.prog 4 Tryz.f4 Rows.postOrdersSpec Rows.postOrdersRow = true := by
  unfold joinedFacts
  simp only [Bool.and_eq_true]
  and_intros
  all_goals (as_aux_lemma => kernel_rfl)
end Go.Proofs.YtdfkaijeppdhaaaGreatDoor.postOrders
