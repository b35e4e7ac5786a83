/- The closed facts of the row of PostTexts. -/
import Derived.Test.YtdfkaijeppdhaaaGreatDoorRow
namespace Go.Proofs.YtdfkaijeppdhaaaGreatDoor.postTexts
open Go.ChangeShapes Go.WideShapes Go.ChangeAt Go.RowKit Go.Deep
set_option maxHeartbeats 40000000 in
theorem closed : joinedFacts Tryz.pinned.checked.prog 5 Tryz.f5 Rows.postTextsSpec Rows.postTextsRow = true := by
  unfold joinedFacts
  simp only [Bool.and_eq_true]
  and_intros
  all_goals (as_aux_lemma => kernel_rfl)
end Go.Proofs.YtdfkaijeppdhaaaGreatDoor.postTexts
