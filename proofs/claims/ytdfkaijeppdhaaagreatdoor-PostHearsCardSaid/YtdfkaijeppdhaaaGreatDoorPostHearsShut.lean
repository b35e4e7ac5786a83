/- The closed facts of the row of PostHears. -/
import Derived.Test.YtdfkaijeppdhaaaGreatDoorZHq47
namespace Go.Proofs.YtdfkaijeppdhaaaGreatDoor.postHears
open Go.ChangeShapes Go.WideShapes Go.ChangeAt Go.RowKit Go.Deep
set_option maxHeartbeats 40000000 in
theorem closed : joinedFacts Tryz.pinned.checked.prog 12 Tryz.f12 Rows.postHearsSpec Rows.postHearsRow = true := by
  unfold joinedFacts
  simp only [Bool.and_eq_true]
  and_intros
  all_goals (as_aux_lemma => kernel_rfl)
end Go.Proofs.YtdfkaijeppdhaaaGreatDoor.postHears
