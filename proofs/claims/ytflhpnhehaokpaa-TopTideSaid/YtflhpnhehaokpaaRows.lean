/-
  No cell of these rows narrows 'for every input' (looked for: loops, veiled, ifaces, maps, wideKeys, modest, calm, conditions, laid).
  DERIVED. THE GIVEN ROWS OF THIS SEAT. 12 by the template 'for every input the law returns true; each argument reads behind the call as it read before'; 0 by the template 'total and deterministic' (their statements: YtflhpnhehaokpaaTotals.lean).
  GIVEN WITH THE SEED: the statements are not yours to turn. If you find one false, say at which input.
  Laid BY PROGRAM, IN A SANDBOX (cutbox-rows.mjs): the forced cells as the released guide's own fill.sh prints them over the translation 2ff03771ccf4ecd6… (all of the seat's roots in one cut). By AI agents, Wed Nov 11 2026. No macro, syntax, notation, axiom, sorry.
-/
import Derived.Test.YtflhpnhehaokpaaChecked
import GoSem.Claim
import GoSem.ClaimJoined
import GoSem.ClaimMapViews
import Derived.JoinedTies
import Derived.KernelRfl
namespace Go.Proofs.Ytflhpnhehaokpaa
/- THE CELL 'sum', in the pinned program and in every row, IS THE sha256 OF THE DUMP (.gsa) THAT YtflhpnhehaokpaaProg.lean LOADS. Nothing in Lean hashes anything: it is a label: what it is worth is what the hold of that sum in a sandbox is worth. -/
noncomputable def Try.pinned : Pinned := { name := "ytflhpnhehaokpaa", sum := "2ff03771ccf4ecd647ef0dfc1e197f86118e2e1271d665f925e11f365aa8d80e", checked := Try.checked }
namespace Rows
def none {H : Type} : Left H := { results := [], args := [] }

/-- 'skimmerlaw01.TideSpeeds': WHATEVER THE INPUT: true; the input reads as it did. -/
def tideSpeedsSpec : ChangeSpec := { name := "tideSpeeds", fn := fun _ => fun
  | [d1, d2, d3] => { results := [.lit (.bool true)], args := [d1, d2, d3] }
  | _ => none }
def tideSpeedsRow : OpenClaim := { program := "ytflhpnhehaokpaa", sum := "2ff03771ccf4ecd647ef0dfc1e197f86118e2e1271d665f925e11f365aa8d80e", func := "skimmer/skimmerlaw01.TideSpeeds", spec := "tideSpeeds", unfollowed := true, recurses := true, apart := false }
def TideSpeedsSaid : Prop := tideSpeedsRow.holds Try.pinned (OpenSpec.ofChange tideSpeedsSpec)

/-- ITS FALSE NEIGHBOUR: 'it returns false'. Refute it at one input. -/
def tideSpeedsWrong : ChangeSpec := { name := "tideSpeeds", fn := fun _ => fun
  | [d1, d2, d3] => { results := [.lit (.bool false)], args := [d1, d2, d3] }
  | _ => none }
def TideSpeedsWrongFalsely : Prop := tideSpeedsRow.holds Try.pinned (OpenSpec.ofChange tideSpeedsWrong)

/-- 'skimmerlaw01.TideDrifts': WHATEVER THE INPUT: true; the input reads as it did. -/
def tideDriftsSpec : ChangeSpec := { name := "tideDrifts", fn := fun _ => fun
  | [d1, d2, d3, d4] => { results := [.lit (.bool true)], args := [d1, d2, d3, d4] }
  | _ => none }
def tideDriftsRow : OpenClaim := { program := "ytflhpnhehaokpaa", sum := "2ff03771ccf4ecd647ef0dfc1e197f86118e2e1271d665f925e11f365aa8d80e", func := "skimmer/skimmerlaw01.TideDrifts", spec := "tideDrifts", unfollowed := true, recurses := true, apart := false }
def TideDriftsSaid : Prop := tideDriftsRow.holds Try.pinned (OpenSpec.ofChange tideDriftsSpec)

/-- ITS FALSE NEIGHBOUR: 'it returns false'. Refute it at one input. -/
def tideDriftsWrong : ChangeSpec := { name := "tideDrifts", fn := fun _ => fun
  | [d1, d2, d3, d4] => { results := [.lit (.bool false)], args := [d1, d2, d3, d4] }
  | _ => none }
def TideDriftsWrongFalsely : Prop := tideDriftsRow.holds Try.pinned (OpenSpec.ofChange tideDriftsWrong)

/-- 'skimmerlaw01.TideBeats': WHATEVER THE INPUT: true; the input reads as it did. -/
def tideBeatsSpec : ChangeSpec := { name := "tideBeats", fn := fun _ => fun
  | [d1, d2, d3] => { results := [.lit (.bool true)], args := [d1, d2, d3] }
  | _ => none }
def tideBeatsRow : OpenClaim := { program := "ytflhpnhehaokpaa", sum := "2ff03771ccf4ecd647ef0dfc1e197f86118e2e1271d665f925e11f365aa8d80e", func := "skimmer/skimmerlaw01.TideBeats", spec := "tideBeats", unfollowed := true, recurses := true, apart := false }
def TideBeatsSaid : Prop := tideBeatsRow.holds Try.pinned (OpenSpec.ofChange tideBeatsSpec)

/-- ITS FALSE NEIGHBOUR: 'it returns false'. Refute it at one input. -/
def tideBeatsWrong : ChangeSpec := { name := "tideBeats", fn := fun _ => fun
  | [d1, d2, d3] => { results := [.lit (.bool false)], args := [d1, d2, d3] }
  | _ => none }
def TideBeatsWrongFalsely : Prop := tideBeatsRow.holds Try.pinned (OpenSpec.ofChange tideBeatsWrong)

/-- 'skimmerlaw01.TideBacks': WHATEVER THE INPUT: true; the input reads as it did. -/
def tideBacksSpec : ChangeSpec := { name := "tideBacks", fn := fun _ => fun
  | [d1, d2, d3] => { results := [.lit (.bool true)], args := [d1, d2, d3] }
  | _ => none }
def tideBacksRow : OpenClaim := { program := "ytflhpnhehaokpaa", sum := "2ff03771ccf4ecd647ef0dfc1e197f86118e2e1271d665f925e11f365aa8d80e", func := "skimmer/skimmerlaw01.TideBacks", spec := "tideBacks", unfollowed := true, recurses := true, apart := false }
def TideBacksSaid : Prop := tideBacksRow.holds Try.pinned (OpenSpec.ofChange tideBacksSpec)

/-- ITS FALSE NEIGHBOUR: 'it returns false'. Refute it at one input. -/
def tideBacksWrong : ChangeSpec := { name := "tideBacks", fn := fun _ => fun
  | [d1, d2, d3] => { results := [.lit (.bool false)], args := [d1, d2, d3] }
  | _ => none }
def TideBacksWrongFalsely : Prop := tideBacksRow.holds Try.pinned (OpenSpec.ofChange tideBacksWrong)

/-- 'skimmerlaw01.TideRounds': WHATEVER THE INPUT: true; the input reads as it did. -/
def tideRoundsSpec : ChangeSpec := { name := "tideRounds", fn := fun _ => fun
  | [d] => { results := [.lit (.bool true)], args := [d] }
  | _ => none }
def tideRoundsRow : OpenClaim := { program := "ytflhpnhehaokpaa", sum := "2ff03771ccf4ecd647ef0dfc1e197f86118e2e1271d665f925e11f365aa8d80e", func := "skimmer/skimmerlaw01.TideRounds", spec := "tideRounds", unfollowed := true, recurses := true, apart := false }
def TideRoundsSaid : Prop := tideRoundsRow.holds Try.pinned (OpenSpec.ofChange tideRoundsSpec)

/-- ITS FALSE NEIGHBOUR: 'it returns false'. Refute it at one input. -/
def tideRoundsWrong : ChangeSpec := { name := "tideRounds", fn := fun _ => fun
  | [d] => { results := [.lit (.bool false)], args := [d] }
  | _ => none }
def TideRoundsWrongFalsely : Prop := tideRoundsRow.holds Try.pinned (OpenSpec.ofChange tideRoundsWrong)

/-- 'skimmerlaw01.TideSames': WHATEVER THE INPUT: true; the input reads as it did. -/
def tideSamesSpec : ChangeSpec := { name := "tideSames", fn := fun _ => fun
  | [d1, d2] => { results := [.lit (.bool true)], args := [d1, d2] }
  | _ => none }
def tideSamesRow : OpenClaim := { program := "ytflhpnhehaokpaa", sum := "2ff03771ccf4ecd647ef0dfc1e197f86118e2e1271d665f925e11f365aa8d80e", func := "skimmer/skimmerlaw01.TideSames", spec := "tideSames", unfollowed := true, recurses := true, apart := false }
def TideSamesSaid : Prop := tideSamesRow.holds Try.pinned (OpenSpec.ofChange tideSamesSpec)

/-- ITS FALSE NEIGHBOUR: 'it returns false'. Refute it at one input. -/
def tideSamesWrong : ChangeSpec := { name := "tideSames", fn := fun _ => fun
  | [d1, d2] => { results := [.lit (.bool false)], args := [d1, d2] }
  | _ => none }
def TideSamesWrongFalsely : Prop := tideSamesRow.holds Try.pinned (OpenSpec.ofChange tideSamesWrong)

/-- 'skimmerlaw01.TideLikes': WHATEVER THE INPUT: true; the input reads as it did. -/
def tideLikesSpec : ChangeSpec := { name := "tideLikes", fn := fun _ => fun
  | [d1, d2] => { results := [.lit (.bool true)], args := [d1, d2] }
  | _ => none }
def tideLikesRow : OpenClaim := { program := "ytflhpnhehaokpaa", sum := "2ff03771ccf4ecd647ef0dfc1e197f86118e2e1271d665f925e11f365aa8d80e", func := "skimmer/skimmerlaw01.TideLikes", spec := "tideLikes", unfollowed := true, recurses := true, apart := false }
def TideLikesSaid : Prop := tideLikesRow.holds Try.pinned (OpenSpec.ofChange tideLikesSpec)

/-- ITS FALSE NEIGHBOUR: 'it returns false'. Refute it at one input. -/
def tideLikesWrong : ChangeSpec := { name := "tideLikes", fn := fun _ => fun
  | [d1, d2] => { results := [.lit (.bool false)], args := [d1, d2] }
  | _ => none }
def TideLikesWrongFalsely : Prop := tideLikesRow.holds Try.pinned (OpenSpec.ofChange tideLikesWrong)

/-- 'skimmertop.TopTide': WHATEVER THE INPUT: true; the input reads as it did. -/
def topTideSpec : ChangeSpec := { name := "topTide", fn := fun _ => fun
  | [d1, d2, d3, d4, d5] => { results := [.lit (.bool true)], args := [d1, d2, d3, d4, d5] }
  | _ => none }
def topTideRow : OpenClaim := { program := "ytflhpnhehaokpaa", sum := "2ff03771ccf4ecd647ef0dfc1e197f86118e2e1271d665f925e11f365aa8d80e", func := "skimmer/skimmertop.TopTide", spec := "topTide", unfollowed := true, recurses := true, apart := false }
def TopTideSaid : Prop := topTideRow.holds Try.pinned (OpenSpec.ofChange topTideSpec)

/-- ITS FALSE NEIGHBOUR: 'it returns false'. Refute it at one input. -/
def topTideWrong : ChangeSpec := { name := "topTide", fn := fun _ => fun
  | [d1, d2, d3, d4, d5] => { results := [.lit (.bool false)], args := [d1, d2, d3, d4, d5] }
  | _ => none }
def TopTideWrongFalsely : Prop := topTideRow.holds Try.pinned (OpenSpec.ofChange topTideWrong)

/-- 'skimmerlaw01.TideOthers': WHATEVER THE INPUT: true; the input reads as it did. -/
def tideOthersSpec : ChangeSpec := { name := "tideOthers", fn := fun _ => fun
  | [d1, d2, d3] => { results := [.lit (.bool true)], args := [d1, d2, d3] }
  | _ => none }
def tideOthersRow : OpenClaim := { program := "ytflhpnhehaokpaa", sum := "2ff03771ccf4ecd647ef0dfc1e197f86118e2e1271d665f925e11f365aa8d80e", func := "skimmer/skimmerlaw01.TideOthers", spec := "tideOthers", unfollowed := true, recurses := true, apart := false }
def TideOthersSaid : Prop := tideOthersRow.holds Try.pinned (OpenSpec.ofChange tideOthersSpec)

/-- ITS FALSE NEIGHBOUR: 'it returns false'. Refute it at one input. -/
def tideOthersWrong : ChangeSpec := { name := "tideOthers", fn := fun _ => fun
  | [d1, d2, d3] => { results := [.lit (.bool false)], args := [d1, d2, d3] }
  | _ => none }
def TideOthersWrongFalsely : Prop := tideOthersRow.holds Try.pinned (OpenSpec.ofChange tideOthersWrong)

/-- 'skimmerlaw01.TideEnds': WHATEVER THE INPUT: true; the input reads as it did. -/
def tideEndsSpec : ChangeSpec := { name := "tideEnds", fn := fun _ => fun
  | [d1, d2, d3] => { results := [.lit (.bool true)], args := [d1, d2, d3] }
  | _ => none }
def tideEndsRow : OpenClaim := { program := "ytflhpnhehaokpaa", sum := "2ff03771ccf4ecd647ef0dfc1e197f86118e2e1271d665f925e11f365aa8d80e", func := "skimmer/skimmerlaw01.TideEnds", spec := "tideEnds", unfollowed := true, recurses := true, apart := false }
def TideEndsSaid : Prop := tideEndsRow.holds Try.pinned (OpenSpec.ofChange tideEndsSpec)

/-- ITS FALSE NEIGHBOUR: 'it returns false'. Refute it at one input. -/
def tideEndsWrong : ChangeSpec := { name := "tideEnds", fn := fun _ => fun
  | [d1, d2, d3] => { results := [.lit (.bool false)], args := [d1, d2, d3] }
  | _ => none }
def TideEndsWrongFalsely : Prop := tideEndsRow.holds Try.pinned (OpenSpec.ofChange tideEndsWrong)

/-- 'skimmerlaw01.TideTops': WHATEVER THE INPUT: true; the input reads as it did. -/
def tideTopsSpec : ChangeSpec := { name := "tideTops", fn := fun _ => fun
  | [d1, d2, d3] => { results := [.lit (.bool true)], args := [d1, d2, d3] }
  | _ => none }
def tideTopsRow : OpenClaim := { program := "ytflhpnhehaokpaa", sum := "2ff03771ccf4ecd647ef0dfc1e197f86118e2e1271d665f925e11f365aa8d80e", func := "skimmer/skimmerlaw01.TideTops", spec := "tideTops", unfollowed := true, recurses := true, apart := false }
def TideTopsSaid : Prop := tideTopsRow.holds Try.pinned (OpenSpec.ofChange tideTopsSpec)

/-- ITS FALSE NEIGHBOUR: 'it returns false'. Refute it at one input. -/
def tideTopsWrong : ChangeSpec := { name := "tideTops", fn := fun _ => fun
  | [d1, d2, d3] => { results := [.lit (.bool false)], args := [d1, d2, d3] }
  | _ => none }
def TideTopsWrongFalsely : Prop := tideTopsRow.holds Try.pinned (OpenSpec.ofChange tideTopsWrong)

/-- 'skimmerlaw01.TideSums': WHATEVER THE INPUT: true; the input reads as it did. -/
def tideSumsSpec : ChangeSpec := { name := "tideSums", fn := fun _ => fun
  | [d1, d2, d3, d4] => { results := [.lit (.bool true)], args := [d1, d2, d3, d4] }
  | _ => none }
def tideSumsRow : OpenClaim := { program := "ytflhpnhehaokpaa", sum := "2ff03771ccf4ecd647ef0dfc1e197f86118e2e1271d665f925e11f365aa8d80e", func := "skimmer/skimmerlaw01.TideSums", spec := "tideSums", unfollowed := true, recurses := true, apart := false }
def TideSumsSaid : Prop := tideSumsRow.holds Try.pinned (OpenSpec.ofChange tideSumsSpec)

/-- ITS FALSE NEIGHBOUR: 'it returns false'. Refute it at one input. -/
def tideSumsWrong : ChangeSpec := { name := "tideSums", fn := fun _ => fun
  | [d1, d2, d3, d4] => { results := [.lit (.bool false)], args := [d1, d2, d3, d4] }
  | _ => none }
def TideSumsWrongFalsely : Prop := tideSumsRow.holds Try.pinned (OpenSpec.ofChange tideSumsWrong)

/- THE SECOND FORM. 'bulk': how many values and letters a reading holds, each counted each time it is reached (what is shared counts as often as it is met; a slice's spare places count too). A statement '..UptoSaid' is the law's where the arguments, and the package variables that the reading takes, are together of bulk at most 1048576: NARROWER than '..Said'. Prove '..Said' where nothing that the law and all that it calls make is longer than what came in: it says more and counts as full. Else prove '..UptoSaid'. A law counts once. -/
mutual
def uptoBulk {H : Type} : DataW H → Nat
  | .lit (.string bytes) => bytes.length + 1
  | .lit _ => 1
  | .nil => 1
  | .ptr d => uptoBulk d + 1
  | .slice elems spare => uptoBulkAll elems + uptoBulkAll spare + 1
  | .agg parts => uptoBulkAll parts + 1
  | .iface _ d => uptoBulk d + 1
  | .map entries => uptoBulkEntries entries + 1
  | .held _ => 1
def uptoBulkAll {H : Type} : List (DataW H) → Nat
  | [] => 0
  | d :: r => uptoBulk d + uptoBulkAll r
def uptoBulkEntries {H : Type} : List (Lit × DataW H) → Nat
  | [] => 0
  | x :: r => uptoBulkEntry x + uptoBulkEntries r
def uptoBulkEntry {H : Type} : Lit × DataW H → Nat
  | (.string bytes, d) => bytes.length + uptoBulk d + 1
  | (_, d) => uptoBulk d + 1
 end
def uptoSmall : (H : Type) → List (DataW H) → Bool := fun _ ds => decide (uptoBulkAll ds ≤ 1048576)
def OpenSpec.upto (s : _root_.Go.ChangeSpec) : _root_.Go.OpenSpec := { _root_.Go.OpenSpec.ofChange s with cond := some uptoSmall }

/-- 'skimmerlaw01.TideSpeeds', WHERE WHAT IT READS IS OF BULK AT MOST 1048576: true; the input reads as it did. -/
def tideSpeedsUptoRow : OpenClaim := { program := "ytflhpnhehaokpaa", sum := "2ff03771ccf4ecd647ef0dfc1e197f86118e2e1271d665f925e11f365aa8d80e", func := "skimmer/skimmerlaw01.TideSpeeds", spec := "tideSpeeds", unfollowed := true, recurses := true, apart := false, narrowed := true }
def TideSpeedsUptoSaid : Prop := tideSpeedsUptoRow.holds Try.pinned (OpenSpec.upto tideSpeedsSpec)

/-- 'skimmerlaw01.TideDrifts', WHERE WHAT IT READS IS OF BULK AT MOST 1048576: true; the input reads as it did. -/
def tideDriftsUptoRow : OpenClaim := { program := "ytflhpnhehaokpaa", sum := "2ff03771ccf4ecd647ef0dfc1e197f86118e2e1271d665f925e11f365aa8d80e", func := "skimmer/skimmerlaw01.TideDrifts", spec := "tideDrifts", unfollowed := true, recurses := true, apart := false, narrowed := true }
def TideDriftsUptoSaid : Prop := tideDriftsUptoRow.holds Try.pinned (OpenSpec.upto tideDriftsSpec)

/-- 'skimmerlaw01.TideBeats', WHERE WHAT IT READS IS OF BULK AT MOST 1048576: true; the input reads as it did. -/
def tideBeatsUptoRow : OpenClaim := { program := "ytflhpnhehaokpaa", sum := "2ff03771ccf4ecd647ef0dfc1e197f86118e2e1271d665f925e11f365aa8d80e", func := "skimmer/skimmerlaw01.TideBeats", spec := "tideBeats", unfollowed := true, recurses := true, apart := false, narrowed := true }
def TideBeatsUptoSaid : Prop := tideBeatsUptoRow.holds Try.pinned (OpenSpec.upto tideBeatsSpec)

/-- 'skimmerlaw01.TideBacks', WHERE WHAT IT READS IS OF BULK AT MOST 1048576: true; the input reads as it did. -/
def tideBacksUptoRow : OpenClaim := { program := "ytflhpnhehaokpaa", sum := "2ff03771ccf4ecd647ef0dfc1e197f86118e2e1271d665f925e11f365aa8d80e", func := "skimmer/skimmerlaw01.TideBacks", spec := "tideBacks", unfollowed := true, recurses := true, apart := false, narrowed := true }
def TideBacksUptoSaid : Prop := tideBacksUptoRow.holds Try.pinned (OpenSpec.upto tideBacksSpec)

/-- 'skimmerlaw01.TideRounds', WHERE WHAT IT READS IS OF BULK AT MOST 1048576: true; the input reads as it did. -/
def tideRoundsUptoRow : OpenClaim := { program := "ytflhpnhehaokpaa", sum := "2ff03771ccf4ecd647ef0dfc1e197f86118e2e1271d665f925e11f365aa8d80e", func := "skimmer/skimmerlaw01.TideRounds", spec := "tideRounds", unfollowed := true, recurses := true, apart := false, narrowed := true }
def TideRoundsUptoSaid : Prop := tideRoundsUptoRow.holds Try.pinned (OpenSpec.upto tideRoundsSpec)

/-- 'skimmerlaw01.TideSames', WHERE WHAT IT READS IS OF BULK AT MOST 1048576: true; the input reads as it did. -/
def tideSamesUptoRow : OpenClaim := { program := "ytflhpnhehaokpaa", sum := "2ff03771ccf4ecd647ef0dfc1e197f86118e2e1271d665f925e11f365aa8d80e", func := "skimmer/skimmerlaw01.TideSames", spec := "tideSames", unfollowed := true, recurses := true, apart := false, narrowed := true }
def TideSamesUptoSaid : Prop := tideSamesUptoRow.holds Try.pinned (OpenSpec.upto tideSamesSpec)

/-- 'skimmerlaw01.TideLikes', WHERE WHAT IT READS IS OF BULK AT MOST 1048576: true; the input reads as it did. -/
def tideLikesUptoRow : OpenClaim := { program := "ytflhpnhehaokpaa", sum := "2ff03771ccf4ecd647ef0dfc1e197f86118e2e1271d665f925e11f365aa8d80e", func := "skimmer/skimmerlaw01.TideLikes", spec := "tideLikes", unfollowed := true, recurses := true, apart := false, narrowed := true }
def TideLikesUptoSaid : Prop := tideLikesUptoRow.holds Try.pinned (OpenSpec.upto tideLikesSpec)

/-- 'skimmertop.TopTide', WHERE WHAT IT READS IS OF BULK AT MOST 1048576: true; the input reads as it did. -/
def topTideUptoRow : OpenClaim := { program := "ytflhpnhehaokpaa", sum := "2ff03771ccf4ecd647ef0dfc1e197f86118e2e1271d665f925e11f365aa8d80e", func := "skimmer/skimmertop.TopTide", spec := "topTide", unfollowed := true, recurses := true, apart := false, narrowed := true }
def TopTideUptoSaid : Prop := topTideUptoRow.holds Try.pinned (OpenSpec.upto topTideSpec)

/-- 'skimmerlaw01.TideOthers', WHERE WHAT IT READS IS OF BULK AT MOST 1048576: true; the input reads as it did. -/
def tideOthersUptoRow : OpenClaim := { program := "ytflhpnhehaokpaa", sum := "2ff03771ccf4ecd647ef0dfc1e197f86118e2e1271d665f925e11f365aa8d80e", func := "skimmer/skimmerlaw01.TideOthers", spec := "tideOthers", unfollowed := true, recurses := true, apart := false, narrowed := true }
def TideOthersUptoSaid : Prop := tideOthersUptoRow.holds Try.pinned (OpenSpec.upto tideOthersSpec)

/-- 'skimmerlaw01.TideEnds', WHERE WHAT IT READS IS OF BULK AT MOST 1048576: true; the input reads as it did. -/
def tideEndsUptoRow : OpenClaim := { program := "ytflhpnhehaokpaa", sum := "2ff03771ccf4ecd647ef0dfc1e197f86118e2e1271d665f925e11f365aa8d80e", func := "skimmer/skimmerlaw01.TideEnds", spec := "tideEnds", unfollowed := true, recurses := true, apart := false, narrowed := true }
def TideEndsUptoSaid : Prop := tideEndsUptoRow.holds Try.pinned (OpenSpec.upto tideEndsSpec)

/-- 'skimmerlaw01.TideTops', WHERE WHAT IT READS IS OF BULK AT MOST 1048576: true; the input reads as it did. -/
def tideTopsUptoRow : OpenClaim := { program := "ytflhpnhehaokpaa", sum := "2ff03771ccf4ecd647ef0dfc1e197f86118e2e1271d665f925e11f365aa8d80e", func := "skimmer/skimmerlaw01.TideTops", spec := "tideTops", unfollowed := true, recurses := true, apart := false, narrowed := true }
def TideTopsUptoSaid : Prop := tideTopsUptoRow.holds Try.pinned (OpenSpec.upto tideTopsSpec)

/-- 'skimmerlaw01.TideSums', WHERE WHAT IT READS IS OF BULK AT MOST 1048576: true; the input reads as it did. -/
def tideSumsUptoRow : OpenClaim := { program := "ytflhpnhehaokpaa", sum := "2ff03771ccf4ecd647ef0dfc1e197f86118e2e1271d665f925e11f365aa8d80e", func := "skimmer/skimmerlaw01.TideSums", spec := "tideSums", unfollowed := true, recurses := true, apart := false, narrowed := true }
def TideSumsUptoSaid : Prop := tideSumsUptoRow.holds Try.pinned (OpenSpec.upto tideSumsSpec)

end Rows
end Go.Proofs.Ytflhpnhehaokpaa
