/-
  DERIVED. GIVEN WITH THE SEED: THE CARDS: each row of YtdfkaijeppdhaaaGreatDoorRows.lean that lists a variable, with what it lists TIED to the program's text (the seventh form; the later family's looks); each row that meets fmt, with fmt's text TOLD by the authors' own Lean function (tested against real Go, not proved from fmt's source: count such statements apart). THE CARD IS WHAT COUNTS. Prove the row's statement (the work); the ties are given (YtdfkaijeppdhaaaGreatDoorTie.lean); close each card by the builder's one call (the guide's Derived/Test/ToyasCard.lean, 'card_holds'). Laid BY PROGRAM, IN A SANDBOX (cutbox-door.mjs). By AI agents, Wed Nov 11 2026. No macro, syntax, notation, axiom, sorry.
-/
import Derived.Test.YtdfkaijeppdhaaaGreatDoorRows
import GoSem.ClaimSeven
namespace Go.Proofs.YtdfkaijeppdhaaaGreatDoor
namespace Rows

/-- THE TIED CARD OF 'skimmerlaw10.PostPlays'. -/
def postPlaysCard : Claim7 := { stood := { row := postPlaysRow, standIns := [], harness := (true, "2208549f621fb410dafc47d0fb84901313292cde35b912ee997d071653ad3ee2"), looks := true }, kinds := [], alts := [], laidByText := true, laidKinds := [.data, .data, .data, .data, .sentinel, .sentinel, .pinned], laidTests := true, laidLooks := .later }
def PostPlaysCardSaid : Prop := Claim7.holds Tryz.pinned (.plain (OpenSpec.ofChange postPlaysSpec)) postPlaysCard

/-- THE TIED CARD OF 'skimmerlaw10.PostOrders'. -/
def postOrdersCard : Claim7 := { stood := { row := postOrdersRow, standIns := [], harness := (true, "2208549f621fb410dafc47d0fb84901313292cde35b912ee997d071653ad3ee2"), looks := true }, kinds := [], alts := [], laidByText := true, laidKinds := [.data, .data, .data, .data, .sentinel, .sentinel, .pinned], laidTests := true, laidLooks := .later }
def PostOrdersCardSaid : Prop := Claim7.holds Tryz.pinned (.plain (OpenSpec.ofChange postOrdersSpec)) postOrdersCard

/-- THE TIED CARD OF 'skimmerlaw10.PostTexts'. -/
def postTextsCard : Claim7 := { stood := { row := postTextsRow, standIns := [], harness := (true, "2208549f621fb410dafc47d0fb84901313292cde35b912ee997d071653ad3ee2"), looks := true }, kinds := [], alts := [], laidByText := true, laidKinds := [.data, .data, .data, .data, .sentinel, .sentinel, .pinned], laidTests := true, laidLooks := .later }
def PostTextsCardSaid : Prop := Claim7.holds Tryz.pinned (.plain (OpenSpec.ofChange postTextsSpec)) postTextsCard

/-- THE TIED CARD OF 'skimmerlaw10.PostErrors'. -/
def postErrorsCard : Claim7 := { stood := { row := postErrorsRow, standIns := [], harness := (true, "2208549f621fb410dafc47d0fb84901313292cde35b912ee997d071653ad3ee2"), looks := true }, kinds := [], alts := [], laidByText := true, laidKinds := [.data, .data, .data, .data, .sentinel, .sentinel, .pinned], laidTests := true, laidLooks := .later }
def PostErrorsCardSaid : Prop := Claim7.holds Tryz.pinned (.plain (OpenSpec.ofChange postErrorsSpec)) postErrorsCard

/-- THE TIED CARD OF 'skimmerlaw10.PostCopies'. -/
def postCopiesCard : Claim7 := { stood := { row := postCopiesRow, standIns := [], harness := (true, "2208549f621fb410dafc47d0fb84901313292cde35b912ee997d071653ad3ee2"), looks := true }, kinds := [], alts := [], laidByText := true, laidKinds := [.data, .data, .data, .data, .sentinel, .sentinel, .pinned], laidTests := true, laidLooks := .later }
def PostCopiesCardSaid : Prop := Claim7.holds Tryz.pinned (.plain (OpenSpec.ofChange postCopiesSpec)) postCopiesCard

/-- THE TIED CARD OF 'skimmerlaw10.PostNews'. -/
def postNewsCard : Claim7 := { stood := { row := postNewsRow, standIns := [], harness := (true, "2208549f621fb410dafc47d0fb84901313292cde35b912ee997d071653ad3ee2"), looks := true }, kinds := [], alts := [], laidByText := true, laidKinds := [.data, .data, .data, .data, .sentinel, .sentinel, .pinned], laidTests := true, laidLooks := .later }
def PostNewsCardSaid : Prop := Claim7.holds Tryz.pinned (.plain (OpenSpec.ofChange postNewsSpec)) postNewsCard

/-- THE TIED CARD OF 'skimmerlaw10.PostJoins'. -/
def postJoinsCard : Claim7 := { stood := { row := postJoinsRow, standIns := [], harness := (true, "2208549f621fb410dafc47d0fb84901313292cde35b912ee997d071653ad3ee2"), looks := true }, kinds := [], alts := [], laidByText := true, laidKinds := [.data, .data, .data, .data, .sentinel, .sentinel, .pinned], laidTests := true, laidLooks := .later }
def PostJoinsCardSaid : Prop := Claim7.holds Tryz.pinned (.plain (OpenSpec.ofChange postJoinsSpec)) postJoinsCard

/-- THE TIED CARD OF 'skimmerlaw10.PostReads'. -/
def postReadsCard : Claim7 := { stood := { row := postReadsRow, standIns := [], harness := (true, "2208549f621fb410dafc47d0fb84901313292cde35b912ee997d071653ad3ee2"), looks := true }, kinds := [], alts := [], laidByText := true, laidKinds := [.data, .data, .data, .data, .sentinel, .sentinel, .pinned], laidTests := true, laidLooks := .later }
def PostReadsCardSaid : Prop := Claim7.holds Tryz.pinned (.plain (OpenSpec.ofChange postReadsSpec)) postReadsCard

/-- THE TIED CARD OF 'skimmerlaw10.PostSteps'. -/
def postStepsCard : Claim7 := { stood := { row := postStepsRow, standIns := [], harness := (true, "2208549f621fb410dafc47d0fb84901313292cde35b912ee997d071653ad3ee2"), looks := true }, kinds := [], alts := [], laidByText := true, laidKinds := [.data, .data, .data, .data, .sentinel, .sentinel, .pinned], laidTests := true, laidLooks := .later }
def PostStepsCardSaid : Prop := Claim7.holds Tryz.pinned (.plain (OpenSpec.ofChange postStepsSpec)) postStepsCard

/-- THE TIED CARD OF 'skimmerlaw10.PostHears'. -/
def postHearsCard : Claim7 := { stood := { row := postHearsRow, standIns := [], harness := (true, "2208549f621fb410dafc47d0fb84901313292cde35b912ee997d071653ad3ee2"), looks := true }, kinds := [], alts := [], laidByText := true, laidKinds := [.data, .data, .data, .data, .sentinel, .sentinel, .pinned], laidTests := true, laidLooks := .later }
def PostHearsCardSaid : Prop := Claim7.holds Tryz.pinned (.plain (OpenSpec.ofChange postHearsSpec)) postHearsCard

/-- THE TIED CARD OF 'skimmerlaw10.PostNils'. -/
def postNilsCard : Claim7 := { stood := { row := postNilsRow, standIns := [], harness := (true, "2208549f621fb410dafc47d0fb84901313292cde35b912ee997d071653ad3ee2"), looks := true }, kinds := [], alts := [], laidByText := true, laidKinds := [.data, .data, .data, .data, .sentinel, .sentinel, .pinned], laidTests := true, laidLooks := .later }
def PostNilsCardSaid : Prop := Claim7.holds Tryz.pinned (.plain (OpenSpec.ofChange postNilsSpec)) postNilsCard

/-- THE TIED CARD OF 'skimmertop.TopPost'. -/
def topPostCard : Claim7 := { stood := { row := topPostRow, standIns := [], harness := (true, "2208549f621fb410dafc47d0fb84901313292cde35b912ee997d071653ad3ee2"), looks := true }, kinds := [], alts := [], laidByText := true, laidKinds := [.data, .data, .data, .data, .sentinel, .sentinel, .pinned], laidTests := true, laidLooks := .later }
def TopPostCardSaid : Prop := Claim7.holds Tryz.pinned (.plain (OpenSpec.ofChange topPostSpec)) topPostCard

/-- THE SECOND FORM's CARD OF 'skimmerlaw10.PostPlays'. -/
def postPlaysUptoCard : Claim7 := { stood := { row := postPlaysUptoRow, standIns := [], harness := (true, "2208549f621fb410dafc47d0fb84901313292cde35b912ee997d071653ad3ee2"), looks := true }, kinds := [], alts := [], laidByText := true, laidKinds := [.data, .data, .data, .data, .sentinel, .sentinel, .pinned], laidTests := true, laidLooks := .later }
def PostPlaysUptoCardSaid : Prop := Claim7.holds Tryz.pinned (.plain (OpenSpec.upto postPlaysSpec)) postPlaysUptoCard

/-- THE SECOND FORM's CARD OF 'skimmerlaw10.PostOrders'. -/
def postOrdersUptoCard : Claim7 := { stood := { row := postOrdersUptoRow, standIns := [], harness := (true, "2208549f621fb410dafc47d0fb84901313292cde35b912ee997d071653ad3ee2"), looks := true }, kinds := [], alts := [], laidByText := true, laidKinds := [.data, .data, .data, .data, .sentinel, .sentinel, .pinned], laidTests := true, laidLooks := .later }
def PostOrdersUptoCardSaid : Prop := Claim7.holds Tryz.pinned (.plain (OpenSpec.upto postOrdersSpec)) postOrdersUptoCard

/-- THE SECOND FORM's CARD OF 'skimmerlaw10.PostTexts'. -/
def postTextsUptoCard : Claim7 := { stood := { row := postTextsUptoRow, standIns := [], harness := (true, "2208549f621fb410dafc47d0fb84901313292cde35b912ee997d071653ad3ee2"), looks := true }, kinds := [], alts := [], laidByText := true, laidKinds := [.data, .data, .data, .data, .sentinel, .sentinel, .pinned], laidTests := true, laidLooks := .later }
def PostTextsUptoCardSaid : Prop := Claim7.holds Tryz.pinned (.plain (OpenSpec.upto postTextsSpec)) postTextsUptoCard

/-- THE SECOND FORM's CARD OF 'skimmerlaw10.PostErrors'. -/
def postErrorsUptoCard : Claim7 := { stood := { row := postErrorsUptoRow, standIns := [], harness := (true, "2208549f621fb410dafc47d0fb84901313292cde35b912ee997d071653ad3ee2"), looks := true }, kinds := [], alts := [], laidByText := true, laidKinds := [.data, .data, .data, .data, .sentinel, .sentinel, .pinned], laidTests := true, laidLooks := .later }
def PostErrorsUptoCardSaid : Prop := Claim7.holds Tryz.pinned (.plain (OpenSpec.upto postErrorsSpec)) postErrorsUptoCard

/-- THE SECOND FORM's CARD OF 'skimmerlaw10.PostCopies'. -/
def postCopiesUptoCard : Claim7 := { stood := { row := postCopiesUptoRow, standIns := [], harness := (true, "2208549f621fb410dafc47d0fb84901313292cde35b912ee997d071653ad3ee2"), looks := true }, kinds := [], alts := [], laidByText := true, laidKinds := [.data, .data, .data, .data, .sentinel, .sentinel, .pinned], laidTests := true, laidLooks := .later }
def PostCopiesUptoCardSaid : Prop := Claim7.holds Tryz.pinned (.plain (OpenSpec.upto postCopiesSpec)) postCopiesUptoCard

/-- THE SECOND FORM's CARD OF 'skimmerlaw10.PostNews'. -/
def postNewsUptoCard : Claim7 := { stood := { row := postNewsUptoRow, standIns := [], harness := (true, "2208549f621fb410dafc47d0fb84901313292cde35b912ee997d071653ad3ee2"), looks := true }, kinds := [], alts := [], laidByText := true, laidKinds := [.data, .data, .data, .data, .sentinel, .sentinel, .pinned], laidTests := true, laidLooks := .later }
def PostNewsUptoCardSaid : Prop := Claim7.holds Tryz.pinned (.plain (OpenSpec.upto postNewsSpec)) postNewsUptoCard

/-- THE SECOND FORM's CARD OF 'skimmerlaw10.PostJoins'. -/
def postJoinsUptoCard : Claim7 := { stood := { row := postJoinsUptoRow, standIns := [], harness := (true, "2208549f621fb410dafc47d0fb84901313292cde35b912ee997d071653ad3ee2"), looks := true }, kinds := [], alts := [], laidByText := true, laidKinds := [.data, .data, .data, .data, .sentinel, .sentinel, .pinned], laidTests := true, laidLooks := .later }
def PostJoinsUptoCardSaid : Prop := Claim7.holds Tryz.pinned (.plain (OpenSpec.upto postJoinsSpec)) postJoinsUptoCard

/-- THE SECOND FORM's CARD OF 'skimmerlaw10.PostReads'. -/
def postReadsUptoCard : Claim7 := { stood := { row := postReadsUptoRow, standIns := [], harness := (true, "2208549f621fb410dafc47d0fb84901313292cde35b912ee997d071653ad3ee2"), looks := true }, kinds := [], alts := [], laidByText := true, laidKinds := [.data, .data, .data, .data, .sentinel, .sentinel, .pinned], laidTests := true, laidLooks := .later }
def PostReadsUptoCardSaid : Prop := Claim7.holds Tryz.pinned (.plain (OpenSpec.upto postReadsSpec)) postReadsUptoCard

/-- THE SECOND FORM's CARD OF 'skimmerlaw10.PostSteps'. -/
def postStepsUptoCard : Claim7 := { stood := { row := postStepsUptoRow, standIns := [], harness := (true, "2208549f621fb410dafc47d0fb84901313292cde35b912ee997d071653ad3ee2"), looks := true }, kinds := [], alts := [], laidByText := true, laidKinds := [.data, .data, .data, .data, .sentinel, .sentinel, .pinned], laidTests := true, laidLooks := .later }
def PostStepsUptoCardSaid : Prop := Claim7.holds Tryz.pinned (.plain (OpenSpec.upto postStepsSpec)) postStepsUptoCard

/-- THE SECOND FORM's CARD OF 'skimmerlaw10.PostHears'. -/
def postHearsUptoCard : Claim7 := { stood := { row := postHearsUptoRow, standIns := [], harness := (true, "2208549f621fb410dafc47d0fb84901313292cde35b912ee997d071653ad3ee2"), looks := true }, kinds := [], alts := [], laidByText := true, laidKinds := [.data, .data, .data, .data, .sentinel, .sentinel, .pinned], laidTests := true, laidLooks := .later }
def PostHearsUptoCardSaid : Prop := Claim7.holds Tryz.pinned (.plain (OpenSpec.upto postHearsSpec)) postHearsUptoCard

/-- THE SECOND FORM's CARD OF 'skimmerlaw10.PostNils'. -/
def postNilsUptoCard : Claim7 := { stood := { row := postNilsUptoRow, standIns := [], harness := (true, "2208549f621fb410dafc47d0fb84901313292cde35b912ee997d071653ad3ee2"), looks := true }, kinds := [], alts := [], laidByText := true, laidKinds := [.data, .data, .data, .data, .sentinel, .sentinel, .pinned], laidTests := true, laidLooks := .later }
def PostNilsUptoCardSaid : Prop := Claim7.holds Tryz.pinned (.plain (OpenSpec.upto postNilsSpec)) postNilsUptoCard

/-- THE SECOND FORM's CARD OF 'skimmertop.TopPost'. -/
def topPostUptoCard : Claim7 := { stood := { row := topPostUptoRow, standIns := [], harness := (true, "2208549f621fb410dafc47d0fb84901313292cde35b912ee997d071653ad3ee2"), looks := true }, kinds := [], alts := [], laidByText := true, laidKinds := [.data, .data, .data, .data, .sentinel, .sentinel, .pinned], laidTests := true, laidLooks := .later }
def TopPostUptoCardSaid : Prop := Claim7.holds Tryz.pinned (.plain (OpenSpec.upto topPostSpec)) topPostUptoCard
end Rows
end Go.Proofs.YtdfkaijeppdhaaaGreatDoor
