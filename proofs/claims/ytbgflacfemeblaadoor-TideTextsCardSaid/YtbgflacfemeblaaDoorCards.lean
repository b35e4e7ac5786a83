/-
  DERIVED. GIVEN WITH THE SEED: THE CARDS: each row of YtbgflacfemeblaaDoorRows.lean that lists a variable, with what it lists TIED to the program's text (the seventh form; the later family's looks); each row that meets fmt, with fmt's text TOLD by the authors' own Lean function (tested against real Go, not proved from fmt's source: count such statements apart). THE CARD IS WHAT COUNTS. Prove the row's statement (the work); the ties are given (YtbgflacfemeblaaDoorTie.lean); close each card by the builder's one call (the guide's Derived/Test/ToyasCard.lean, 'card_holds'). Laid BY PROGRAM, IN A SANDBOX (cutbox-door.mjs). By AI agents, Wed Nov 11 2026. No macro, syntax, notation, axiom, sorry.
-/
import Derived.Test.YtbgflacfemeblaaDoorRows
import GoSem.ClaimSeven
namespace Go.Proofs.YtbgflacfemeblaaDoor
namespace Rows

/-- THE TIED CARD OF 'skimmerlaw01.TideTexts'. -/
def tideTextsCard : Claim7 := { stood := { row := tideTextsRow, standIns := [], harness := (true, "2719753365e4a0f382edcacd56815d793c9b93d2d933650e7a2e87335489bc59"), looks := true }, kinds := [], alts := [], laidByText := true, laidKinds := [.data, .data, .data, .data, .sentinel, .sentinel, .pinned], laidTests := true, laidLooks := .later }
def TideTextsCardSaid : Prop := Claim7.holds Tryd.pinned (.plain (OpenSpec.ofChange tideTextsSpec)) tideTextsCard

/-- THE SECOND FORM's CARD OF 'skimmerlaw01.TideTexts'. -/
def tideTextsUptoCard : Claim7 := { stood := { row := tideTextsUptoRow, standIns := [], harness := (true, "2719753365e4a0f382edcacd56815d793c9b93d2d933650e7a2e87335489bc59"), looks := true }, kinds := [], alts := [], laidByText := true, laidKinds := [.data, .data, .data, .data, .sentinel, .sentinel, .pinned], laidTests := true, laidLooks := .later }
def TideTextsUptoCardSaid : Prop := Claim7.holds Tryd.pinned (.plain (OpenSpec.upto tideTextsSpec)) tideTextsUptoCard
end Rows
end Go.Proofs.YtbgflacfemeblaaDoor
