/- The closed facts of the row of PostPlays. -/
import Derived.Test.YtdfkaijeppdhaaaGreatDoorZHp47
namespace Go.Proofs.YtdfkaijeppdhaaaGreatDoor.postPlays
open Go.ChangeShapes Go.WideShapes Go.ChangeAt Go.RowKit Go.Deep
set_option maxHeartbeats 40000000 in
theorem closed : joinedFacts Tryz.pinned.checked.prog 3 Tryz.f3 Rows.postPlaysSpec Rows.postPlaysRow = true := by
  unfold joinedFacts
  simp only [Bool.and_eq_true]
  and_intros
  all_goals (as_aux_lemma => kernel_rfl)
end Go.Proofs.YtdfkaijeppdhaaaGreatDoor.postPlays
