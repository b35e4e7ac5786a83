/-
  No cell of these rows narrows 'for every input' (looked for: loops, veiled, ifaces, maps, wideKeys, modest, calm, conditions, laid).
  DERIVED. THE GIVEN ROWS OF THIS SEAT. 14 by the template 'for every input the law returns true; each argument reads behind the call as it read before'; 0 by the template 'total and deterministic' (their statements: YtaakefjblldccaaTotals.lean).
  GIVEN WITH THE SEED: the statements are not yours to turn. If you find one false, say at which input.
  Laid BY PROGRAM, IN A SANDBOX (cutbox-rows.mjs): the forced cells as the released guide's own fill.sh prints them over the translation ebda42cfcee346b0… (all of the seat's roots in one cut). By AI agents, Wed Nov 11 2026. No macro, syntax, notation, axiom, sorry.
-/
import Derived.Test.YtaakefjblldccaaChecked
import GoSem.Claim
import GoSem.ClaimJoined
import GoSem.ClaimMapViews
import Derived.JoinedTies
import Derived.KernelRfl
namespace Go.Proofs.Ytaakefjblldccaa
/- THE CELL 'sum', in the pinned program and in every row, IS THE sha256 OF THE DUMP (.gsa) THAT YtaakefjblldccaaProg.lean LOADS. Nothing in Lean hashes anything: it is a label: what it is worth is what the hold of that sum in a sandbox is worth. -/
noncomputable def Try.pinned : Pinned := { name := "ytaakefjblldccaa", sum := "ebda42cfcee346b0cfbe83838d87a4f0258ae80494ee5d197497922a762ab239", checked := Try.checked }
namespace Rows
def none {H : Type} : Left H := { results := [], args := [] }

/-- 'skimmerlaw08.FundGarments': WHATEVER THE INPUT: true; the input reads as it did. -/
def fundGarmentsSpec : ChangeSpec := { name := "fundGarments", fn := fun _ => fun
  | [d1, d2, d3] => { results := [.lit (.bool true)], args := [d1, d2, d3] }
  | _ => none }
def fundGarmentsRow : OpenClaim := { program := "ytaakefjblldccaa", sum := "ebda42cfcee346b0cfbe83838d87a4f0258ae80494ee5d197497922a762ab239", func := "skimmer/skimmerlaw08.FundGarments", spec := "fundGarments", apart := false }
def FundGarmentsSaid : Prop := fundGarmentsRow.holds Try.pinned (OpenSpec.ofChange fundGarmentsSpec)

/-- ITS FALSE NEIGHBOUR: 'it returns false'. Refute it at one input. -/
def fundGarmentsWrong : ChangeSpec := { name := "fundGarments", fn := fun _ => fun
  | [d1, d2, d3] => { results := [.lit (.bool false)], args := [d1, d2, d3] }
  | _ => none }
def FundGarmentsWrongFalsely : Prop := fundGarmentsRow.holds Try.pinned (OpenSpec.ofChange fundGarmentsWrong)

/-- 'skimmerlaw08.FundChecks': WHATEVER THE INPUT: true; the input reads as it did. -/
def fundChecksSpec : ChangeSpec := { name := "fundChecks", fn := fun _ => fun
  | [d1, d2, d3] => { results := [.lit (.bool true)], args := [d1, d2, d3] }
  | _ => none }
def fundChecksRow : OpenClaim := { program := "ytaakefjblldccaa", sum := "ebda42cfcee346b0cfbe83838d87a4f0258ae80494ee5d197497922a762ab239", func := "skimmer/skimmerlaw08.FundChecks", spec := "fundChecks", unfollowed := true, recurses := true, apart := false }
def FundChecksSaid : Prop := fundChecksRow.holds Try.pinned (OpenSpec.ofChange fundChecksSpec)

/-- ITS FALSE NEIGHBOUR: 'it returns false'. Refute it at one input. -/
def fundChecksWrong : ChangeSpec := { name := "fundChecks", fn := fun _ => fun
  | [d1, d2, d3] => { results := [.lit (.bool false)], args := [d1, d2, d3] }
  | _ => none }
def FundChecksWrongFalsely : Prop := fundChecksRow.holds Try.pinned (OpenSpec.ofChange fundChecksWrong)

/-- 'skimmertop.TopFund': WHATEVER THE INPUT: true; the input reads as it did. -/
def topFundSpec : ChangeSpec := { name := "topFund", fn := fun _ => fun
  | [d1, d2, d3] => { results := [.lit (.bool true)], args := [d1, d2, d3] }
  | _ => none }
def topFundRow : OpenClaim := { program := "ytaakefjblldccaa", sum := "ebda42cfcee346b0cfbe83838d87a4f0258ae80494ee5d197497922a762ab239", func := "skimmer/skimmertop.TopFund", spec := "topFund", unfollowed := true, recurses := true, apart := false }
def TopFundSaid : Prop := topFundRow.holds Try.pinned (OpenSpec.ofChange topFundSpec)

/-- ITS FALSE NEIGHBOUR: 'it returns false'. Refute it at one input. -/
def topFundWrong : ChangeSpec := { name := "topFund", fn := fun _ => fun
  | [d1, d2, d3] => { results := [.lit (.bool false)], args := [d1, d2, d3] }
  | _ => none }
def TopFundWrongFalsely : Prop := topFundRow.holds Try.pinned (OpenSpec.ofChange topFundWrong)

/-- 'skimmerlaw08.FundTurns': WHATEVER THE INPUT: true; the input reads as it did. -/
def fundTurnsSpec : ChangeSpec := { name := "fundTurns", fn := fun _ => fun
  | [d1, d2, d3] => { results := [.lit (.bool true)], args := [d1, d2, d3] }
  | _ => none }
def fundTurnsRow : OpenClaim := { program := "ytaakefjblldccaa", sum := "ebda42cfcee346b0cfbe83838d87a4f0258ae80494ee5d197497922a762ab239", func := "skimmer/skimmerlaw08.FundTurns", spec := "fundTurns", unfollowed := true, recurses := true, apart := false }
def FundTurnsSaid : Prop := fundTurnsRow.holds Try.pinned (OpenSpec.ofChange fundTurnsSpec)

/-- ITS FALSE NEIGHBOUR: 'it returns false'. Refute it at one input. -/
def fundTurnsWrong : ChangeSpec := { name := "fundTurns", fn := fun _ => fun
  | [d1, d2, d3] => { results := [.lit (.bool false)], args := [d1, d2, d3] }
  | _ => none }
def FundTurnsWrongFalsely : Prop := fundTurnsRow.holds Try.pinned (OpenSpec.ofChange fundTurnsWrong)

/-- 'skimmerlaw08.FundLevels': WHATEVER THE INPUT: true; the input reads as it did. -/
def fundLevelsSpec : ChangeSpec := { name := "fundLevels", fn := fun _ => fun
  | [d1, d2] => { results := [.lit (.bool true)], args := [d1, d2] }
  | _ => none }
def fundLevelsRow : OpenClaim := { program := "ytaakefjblldccaa", sum := "ebda42cfcee346b0cfbe83838d87a4f0258ae80494ee5d197497922a762ab239", func := "skimmer/skimmerlaw08.FundLevels", spec := "fundLevels", unfollowed := true, recurses := true, apart := false }
def FundLevelsSaid : Prop := fundLevelsRow.holds Try.pinned (OpenSpec.ofChange fundLevelsSpec)

/-- ITS FALSE NEIGHBOUR: 'it returns false'. Refute it at one input. -/
def fundLevelsWrong : ChangeSpec := { name := "fundLevels", fn := fun _ => fun
  | [d1, d2] => { results := [.lit (.bool false)], args := [d1, d2] }
  | _ => none }
def FundLevelsWrongFalsely : Prop := fundLevelsRow.holds Try.pinned (OpenSpec.ofChange fundLevelsWrong)

/-- 'skimmerlaw08.FundShares': WHATEVER THE INPUT: true; the input reads as it did. -/
def fundSharesSpec : ChangeSpec := { name := "fundShares", fn := fun _ => fun
  | [d1, d2, d3] => { results := [.lit (.bool true)], args := [d1, d2, d3] }
  | _ => none }
def fundSharesRow : OpenClaim := { program := "ytaakefjblldccaa", sum := "ebda42cfcee346b0cfbe83838d87a4f0258ae80494ee5d197497922a762ab239", func := "skimmer/skimmerlaw08.FundShares", spec := "fundShares", unfollowed := true, recurses := true, apart := false }
def FundSharesSaid : Prop := fundSharesRow.holds Try.pinned (OpenSpec.ofChange fundSharesSpec)

/-- ITS FALSE NEIGHBOUR: 'it returns false'. Refute it at one input. -/
def fundSharesWrong : ChangeSpec := { name := "fundShares", fn := fun _ => fun
  | [d1, d2, d3] => { results := [.lit (.bool false)], args := [d1, d2, d3] }
  | _ => none }
def FundSharesWrongFalsely : Prop := fundSharesRow.holds Try.pinned (OpenSpec.ofChange fundSharesWrong)

/-- 'skimmerlaw08.FundSides': WHATEVER THE INPUT: true; the input reads as it did. -/
def fundSidesSpec : ChangeSpec := { name := "fundSides", fn := fun _ => fun
  | [d1, d2] => { results := [.lit (.bool true)], args := [d1, d2] }
  | _ => none }
def fundSidesRow : OpenClaim := { program := "ytaakefjblldccaa", sum := "ebda42cfcee346b0cfbe83838d87a4f0258ae80494ee5d197497922a762ab239", func := "skimmer/skimmerlaw08.FundSides", spec := "fundSides", unfollowed := true, recurses := true, apart := false }
def FundSidesSaid : Prop := fundSidesRow.holds Try.pinned (OpenSpec.ofChange fundSidesSpec)

/-- ITS FALSE NEIGHBOUR: 'it returns false'. Refute it at one input. -/
def fundSidesWrong : ChangeSpec := { name := "fundSides", fn := fun _ => fun
  | [d1, d2] => { results := [.lit (.bool false)], args := [d1, d2] }
  | _ => none }
def FundSidesWrongFalsely : Prop := fundSidesRow.holds Try.pinned (OpenSpec.ofChange fundSidesWrong)

/-- 'skimmerlaw08.FundMiddles': WHATEVER THE INPUT: true; the input reads as it did. -/
def fundMiddlesSpec : ChangeSpec := { name := "fundMiddles", fn := fun _ => fun
  | [d1, d2, d3] => { results := [.lit (.bool true)], args := [d1, d2, d3] }
  | _ => none }
def fundMiddlesRow : OpenClaim := { program := "ytaakefjblldccaa", sum := "ebda42cfcee346b0cfbe83838d87a4f0258ae80494ee5d197497922a762ab239", func := "skimmer/skimmerlaw08.FundMiddles", spec := "fundMiddles", unfollowed := true, recurses := true, apart := false }
def FundMiddlesSaid : Prop := fundMiddlesRow.holds Try.pinned (OpenSpec.ofChange fundMiddlesSpec)

/-- ITS FALSE NEIGHBOUR: 'it returns false'. Refute it at one input. -/
def fundMiddlesWrong : ChangeSpec := { name := "fundMiddles", fn := fun _ => fun
  | [d1, d2, d3] => { results := [.lit (.bool false)], args := [d1, d2, d3] }
  | _ => none }
def FundMiddlesWrongFalsely : Prop := fundMiddlesRow.holds Try.pinned (OpenSpec.ofChange fundMiddlesWrong)

/-- 'skimmerlaw08.FundFair': WHATEVER THE INPUT: true; the input reads as it did. -/
def fundFairSpec : ChangeSpec := { name := "fundFair", fn := fun _ => fun
  | [d1, d2, d3] => { results := [.lit (.bool true)], args := [d1, d2, d3] }
  | _ => none }
def fundFairRow : OpenClaim := { program := "ytaakefjblldccaa", sum := "ebda42cfcee346b0cfbe83838d87a4f0258ae80494ee5d197497922a762ab239", func := "skimmer/skimmerlaw08.FundFair", spec := "fundFair", unfollowed := true, recurses := true, apart := false }
def FundFairSaid : Prop := fundFairRow.holds Try.pinned (OpenSpec.ofChange fundFairSpec)

/-- ITS FALSE NEIGHBOUR: 'it returns false'. Refute it at one input. -/
def fundFairWrong : ChangeSpec := { name := "fundFair", fn := fun _ => fun
  | [d1, d2, d3] => { results := [.lit (.bool false)], args := [d1, d2, d3] }
  | _ => none }
def FundFairWrongFalsely : Prop := fundFairRow.holds Try.pinned (OpenSpec.ofChange fundFairWrong)

/-- 'skimmerlaw08.FundOld': WHATEVER THE INPUT: true; the input reads as it did. -/
def fundOldSpec : ChangeSpec := { name := "fundOld", fn := fun _ => fun
  | [d1, d2, d3] => { results := [.lit (.bool true)], args := [d1, d2, d3] }
  | _ => none }
def fundOldRow : OpenClaim := { program := "ytaakefjblldccaa", sum := "ebda42cfcee346b0cfbe83838d87a4f0258ae80494ee5d197497922a762ab239", func := "skimmer/skimmerlaw08.FundOld", spec := "fundOld", unfollowed := true, recurses := true, apart := false }
def FundOldSaid : Prop := fundOldRow.holds Try.pinned (OpenSpec.ofChange fundOldSpec)

/-- ITS FALSE NEIGHBOUR: 'it returns false'. Refute it at one input. -/
def fundOldWrong : ChangeSpec := { name := "fundOld", fn := fun _ => fun
  | [d1, d2, d3] => { results := [.lit (.bool false)], args := [d1, d2, d3] }
  | _ => none }
def FundOldWrongFalsely : Prop := fundOldRow.holds Try.pinned (OpenSpec.ofChange fundOldWrong)

/-- 'skimmerlaw08.FundWholes': WHATEVER THE INPUT: true; the input reads as it did. -/
def fundWholesSpec : ChangeSpec := { name := "fundWholes", fn := fun _ => fun
  | [d1, d2, d3] => { results := [.lit (.bool true)], args := [d1, d2, d3] }
  | _ => none }
def fundWholesRow : OpenClaim := { program := "ytaakefjblldccaa", sum := "ebda42cfcee346b0cfbe83838d87a4f0258ae80494ee5d197497922a762ab239", func := "skimmer/skimmerlaw08.FundWholes", spec := "fundWholes", unfollowed := true, recurses := true, apart := false }
def FundWholesSaid : Prop := fundWholesRow.holds Try.pinned (OpenSpec.ofChange fundWholesSpec)

/-- ITS FALSE NEIGHBOUR: 'it returns false'. Refute it at one input. -/
def fundWholesWrong : ChangeSpec := { name := "fundWholes", fn := fun _ => fun
  | [d1, d2, d3] => { results := [.lit (.bool false)], args := [d1, d2, d3] }
  | _ => none }
def FundWholesWrongFalsely : Prop := fundWholesRow.holds Try.pinned (OpenSpec.ofChange fundWholesWrong)

/-- 'skimmerlaw08.FundWhole': WHATEVER THE INPUT: true; the input reads as it did. -/
def fundWholeSpec : ChangeSpec := { name := "fundWhole", fn := fun _ => fun
  | [d1, d2, d3] => { results := [.lit (.bool true)], args := [d1, d2, d3] }
  | _ => none }
def fundWholeRow : OpenClaim := { program := "ytaakefjblldccaa", sum := "ebda42cfcee346b0cfbe83838d87a4f0258ae80494ee5d197497922a762ab239", func := "skimmer/skimmerlaw08.FundWhole", spec := "fundWhole", unfollowed := true, recurses := true, apart := false }
def FundWholeSaid : Prop := fundWholeRow.holds Try.pinned (OpenSpec.ofChange fundWholeSpec)

/-- ITS FALSE NEIGHBOUR: 'it returns false'. Refute it at one input. -/
def fundWholeWrong : ChangeSpec := { name := "fundWhole", fn := fun _ => fun
  | [d1, d2, d3] => { results := [.lit (.bool false)], args := [d1, d2, d3] }
  | _ => none }
def FundWholeWrongFalsely : Prop := fundWholeRow.holds Try.pinned (OpenSpec.ofChange fundWholeWrong)

/-- 'skimmerlaw08.FundMores': WHATEVER THE INPUT: true; the input reads as it did. -/
def fundMoresSpec : ChangeSpec := { name := "fundMores", fn := fun _ => fun
  | [d1, d2] => { results := [.lit (.bool true)], args := [d1, d2] }
  | _ => none }
def fundMoresRow : OpenClaim := { program := "ytaakefjblldccaa", sum := "ebda42cfcee346b0cfbe83838d87a4f0258ae80494ee5d197497922a762ab239", func := "skimmer/skimmerlaw08.FundMores", spec := "fundMores", inPlace := ["slices.overlaps[int]"], unfollowed := true, recurses := true, apart := false }
def FundMoresSaid : Prop := fundMoresRow.holds Try.pinned (OpenSpec.ofChange fundMoresSpec)

/-- ITS FALSE NEIGHBOUR: 'it returns false'. Refute it at one input. -/
def fundMoresWrong : ChangeSpec := { name := "fundMores", fn := fun _ => fun
  | [d1, d2] => { results := [.lit (.bool false)], args := [d1, d2] }
  | _ => none }
def FundMoresWrongFalsely : Prop := fundMoresRow.holds Try.pinned (OpenSpec.ofChange fundMoresWrong)

/-- 'skimmerlaw08.FundSplits': WHATEVER THE INPUT: true; the input reads as it did. -/
def fundSplitsSpec : ChangeSpec := { name := "fundSplits", fn := fun _ => fun
  | [d1, d2, d3] => { results := [.lit (.bool true)], args := [d1, d2, d3] }
  | _ => none }
def fundSplitsRow : OpenClaim := { program := "ytaakefjblldccaa", sum := "ebda42cfcee346b0cfbe83838d87a4f0258ae80494ee5d197497922a762ab239", func := "skimmer/skimmerlaw08.FundSplits", spec := "fundSplits", inPlace := ["slices.overlaps[int]"], unfollowed := true, recurses := true, apart := false }
def FundSplitsSaid : Prop := fundSplitsRow.holds Try.pinned (OpenSpec.ofChange fundSplitsSpec)

/-- ITS FALSE NEIGHBOUR: 'it returns false'. Refute it at one input. -/
def fundSplitsWrong : ChangeSpec := { name := "fundSplits", fn := fun _ => fun
  | [d1, d2, d3] => { results := [.lit (.bool false)], args := [d1, d2, d3] }
  | _ => none }
def FundSplitsWrongFalsely : Prop := fundSplitsRow.holds Try.pinned (OpenSpec.ofChange fundSplitsWrong)

/- THE SECOND FORM. 'bulk': how many values and letters a reading holds, each counted each time it is reached (what is shared counts as often as it is met; a slice's spare places count too). A statement '..UptoSaid' is the law's where the arguments, and the package variables that the reading takes, are together of bulk at most 1048576: NARROWER than '..Said'. Prove '..Said' where nothing that the law and all that it calls make is longer than what came in: it says more and counts as full. Else prove '..UptoSaid'. A law counts once. -/
mutual
def uptoBulk {H : Type} : DataW H → Nat
  | .lit (.string bytes) => bytes.length + 1
  | .lit _ => 1
  | .nil => 1
  | .ptr d => uptoBulk d + 1
  | .slice elems spare => uptoBulkAll elems + uptoBulkAll spare + 1
  | .agg parts => uptoBulkAll parts + 1
  | .iface _ d => uptoBulk d + 1
  | .map entries => uptoBulkEntries entries + 1
  | .held _ => 1
def uptoBulkAll {H : Type} : List (DataW H) → Nat
  | [] => 0
  | d :: r => uptoBulk d + uptoBulkAll r
def uptoBulkEntries {H : Type} : List (Lit × DataW H) → Nat
  | [] => 0
  | x :: r => uptoBulkEntry x + uptoBulkEntries r
def uptoBulkEntry {H : Type} : Lit × DataW H → Nat
  | (.string bytes, d) => bytes.length + uptoBulk d + 1
  | (_, d) => uptoBulk d + 1
 end
def uptoSmall : (H : Type) → List (DataW H) → Bool := fun _ ds => decide (uptoBulkAll ds ≤ 1048576)
def OpenSpec.upto (s : _root_.Go.ChangeSpec) : _root_.Go.OpenSpec := { _root_.Go.OpenSpec.ofChange s with cond := some uptoSmall }

/-- 'skimmerlaw08.FundGarments', WHERE WHAT IT READS IS OF BULK AT MOST 1048576: true; the input reads as it did. -/
def fundGarmentsUptoRow : OpenClaim := { program := "ytaakefjblldccaa", sum := "ebda42cfcee346b0cfbe83838d87a4f0258ae80494ee5d197497922a762ab239", func := "skimmer/skimmerlaw08.FundGarments", spec := "fundGarments", apart := false, narrowed := true }
def FundGarmentsUptoSaid : Prop := fundGarmentsUptoRow.holds Try.pinned (OpenSpec.upto fundGarmentsSpec)

/-- 'skimmerlaw08.FundChecks', WHERE WHAT IT READS IS OF BULK AT MOST 1048576: true; the input reads as it did. -/
def fundChecksUptoRow : OpenClaim := { program := "ytaakefjblldccaa", sum := "ebda42cfcee346b0cfbe83838d87a4f0258ae80494ee5d197497922a762ab239", func := "skimmer/skimmerlaw08.FundChecks", spec := "fundChecks", unfollowed := true, recurses := true, apart := false, narrowed := true }
def FundChecksUptoSaid : Prop := fundChecksUptoRow.holds Try.pinned (OpenSpec.upto fundChecksSpec)

/-- 'skimmertop.TopFund', WHERE WHAT IT READS IS OF BULK AT MOST 1048576: true; the input reads as it did. -/
def topFundUptoRow : OpenClaim := { program := "ytaakefjblldccaa", sum := "ebda42cfcee346b0cfbe83838d87a4f0258ae80494ee5d197497922a762ab239", func := "skimmer/skimmertop.TopFund", spec := "topFund", unfollowed := true, recurses := true, apart := false, narrowed := true }
def TopFundUptoSaid : Prop := topFundUptoRow.holds Try.pinned (OpenSpec.upto topFundSpec)

/-- 'skimmerlaw08.FundTurns', WHERE WHAT IT READS IS OF BULK AT MOST 1048576: true; the input reads as it did. -/
def fundTurnsUptoRow : OpenClaim := { program := "ytaakefjblldccaa", sum := "ebda42cfcee346b0cfbe83838d87a4f0258ae80494ee5d197497922a762ab239", func := "skimmer/skimmerlaw08.FundTurns", spec := "fundTurns", unfollowed := true, recurses := true, apart := false, narrowed := true }
def FundTurnsUptoSaid : Prop := fundTurnsUptoRow.holds Try.pinned (OpenSpec.upto fundTurnsSpec)

/-- 'skimmerlaw08.FundLevels', WHERE WHAT IT READS IS OF BULK AT MOST 1048576: true; the input reads as it did. -/
def fundLevelsUptoRow : OpenClaim := { program := "ytaakefjblldccaa", sum := "ebda42cfcee346b0cfbe83838d87a4f0258ae80494ee5d197497922a762ab239", func := "skimmer/skimmerlaw08.FundLevels", spec := "fundLevels", unfollowed := true, recurses := true, apart := false, narrowed := true }
def FundLevelsUptoSaid : Prop := fundLevelsUptoRow.holds Try.pinned (OpenSpec.upto fundLevelsSpec)

/-- 'skimmerlaw08.FundShares', WHERE WHAT IT READS IS OF BULK AT MOST 1048576: true; the input reads as it did. -/
def fundSharesUptoRow : OpenClaim := { program := "ytaakefjblldccaa", sum := "ebda42cfcee346b0cfbe83838d87a4f0258ae80494ee5d197497922a762ab239", func := "skimmer/skimmerlaw08.FundShares", spec := "fundShares", unfollowed := true, recurses := true, apart := false, narrowed := true }
def FundSharesUptoSaid : Prop := fundSharesUptoRow.holds Try.pinned (OpenSpec.upto fundSharesSpec)

/-- 'skimmerlaw08.FundSides', WHERE WHAT IT READS IS OF BULK AT MOST 1048576: true; the input reads as it did. -/
def fundSidesUptoRow : OpenClaim := { program := "ytaakefjblldccaa", sum := "ebda42cfcee346b0cfbe83838d87a4f0258ae80494ee5d197497922a762ab239", func := "skimmer/skimmerlaw08.FundSides", spec := "fundSides", unfollowed := true, recurses := true, apart := false, narrowed := true }
def FundSidesUptoSaid : Prop := fundSidesUptoRow.holds Try.pinned (OpenSpec.upto fundSidesSpec)

/-- 'skimmerlaw08.FundMiddles', WHERE WHAT IT READS IS OF BULK AT MOST 1048576: true; the input reads as it did. -/
def fundMiddlesUptoRow : OpenClaim := { program := "ytaakefjblldccaa", sum := "ebda42cfcee346b0cfbe83838d87a4f0258ae80494ee5d197497922a762ab239", func := "skimmer/skimmerlaw08.FundMiddles", spec := "fundMiddles", unfollowed := true, recurses := true, apart := false, narrowed := true }
def FundMiddlesUptoSaid : Prop := fundMiddlesUptoRow.holds Try.pinned (OpenSpec.upto fundMiddlesSpec)

/-- 'skimmerlaw08.FundFair', WHERE WHAT IT READS IS OF BULK AT MOST 1048576: true; the input reads as it did. -/
def fundFairUptoRow : OpenClaim := { program := "ytaakefjblldccaa", sum := "ebda42cfcee346b0cfbe83838d87a4f0258ae80494ee5d197497922a762ab239", func := "skimmer/skimmerlaw08.FundFair", spec := "fundFair", unfollowed := true, recurses := true, apart := false, narrowed := true }
def FundFairUptoSaid : Prop := fundFairUptoRow.holds Try.pinned (OpenSpec.upto fundFairSpec)

/-- 'skimmerlaw08.FundOld', WHERE WHAT IT READS IS OF BULK AT MOST 1048576: true; the input reads as it did. -/
def fundOldUptoRow : OpenClaim := { program := "ytaakefjblldccaa", sum := "ebda42cfcee346b0cfbe83838d87a4f0258ae80494ee5d197497922a762ab239", func := "skimmer/skimmerlaw08.FundOld", spec := "fundOld", unfollowed := true, recurses := true, apart := false, narrowed := true }
def FundOldUptoSaid : Prop := fundOldUptoRow.holds Try.pinned (OpenSpec.upto fundOldSpec)

/-- 'skimmerlaw08.FundWholes', WHERE WHAT IT READS IS OF BULK AT MOST 1048576: true; the input reads as it did. -/
def fundWholesUptoRow : OpenClaim := { program := "ytaakefjblldccaa", sum := "ebda42cfcee346b0cfbe83838d87a4f0258ae80494ee5d197497922a762ab239", func := "skimmer/skimmerlaw08.FundWholes", spec := "fundWholes", unfollowed := true, recurses := true, apart := false, narrowed := true }
def FundWholesUptoSaid : Prop := fundWholesUptoRow.holds Try.pinned (OpenSpec.upto fundWholesSpec)

/-- 'skimmerlaw08.FundWhole', WHERE WHAT IT READS IS OF BULK AT MOST 1048576: true; the input reads as it did. -/
def fundWholeUptoRow : OpenClaim := { program := "ytaakefjblldccaa", sum := "ebda42cfcee346b0cfbe83838d87a4f0258ae80494ee5d197497922a762ab239", func := "skimmer/skimmerlaw08.FundWhole", spec := "fundWhole", unfollowed := true, recurses := true, apart := false, narrowed := true }
def FundWholeUptoSaid : Prop := fundWholeUptoRow.holds Try.pinned (OpenSpec.upto fundWholeSpec)

/-- 'skimmerlaw08.FundMores', WHERE WHAT IT READS IS OF BULK AT MOST 1048576: true; the input reads as it did. -/
def fundMoresUptoRow : OpenClaim := { program := "ytaakefjblldccaa", sum := "ebda42cfcee346b0cfbe83838d87a4f0258ae80494ee5d197497922a762ab239", func := "skimmer/skimmerlaw08.FundMores", spec := "fundMores", inPlace := ["slices.overlaps[int]"], unfollowed := true, recurses := true, apart := false, narrowed := true }
def FundMoresUptoSaid : Prop := fundMoresUptoRow.holds Try.pinned (OpenSpec.upto fundMoresSpec)

/-- 'skimmerlaw08.FundSplits', WHERE WHAT IT READS IS OF BULK AT MOST 1048576: true; the input reads as it did. -/
def fundSplitsUptoRow : OpenClaim := { program := "ytaakefjblldccaa", sum := "ebda42cfcee346b0cfbe83838d87a4f0258ae80494ee5d197497922a762ab239", func := "skimmer/skimmerlaw08.FundSplits", spec := "fundSplits", inPlace := ["slices.overlaps[int]"], unfollowed := true, recurses := true, apart := false, narrowed := true }
def FundSplitsUptoSaid : Prop := fundSplitsUptoRow.holds Try.pinned (OpenSpec.upto fundSplitsSpec)

end Rows
end Go.Proofs.Ytaakefjblldccaa
