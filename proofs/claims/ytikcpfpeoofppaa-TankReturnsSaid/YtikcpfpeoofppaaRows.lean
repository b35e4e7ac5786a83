/-
  No cell of these rows narrows 'for every input' (looked for: loops, veiled, ifaces, maps, wideKeys, modest, calm, conditions, laid).
  DERIVED. THE GIVEN ROWS OF THIS SEAT. 14 by the template 'for every input the law returns true; each argument reads behind the call as it read before'; 0 by the template 'total and deterministic' (their statements: YtikcpfpeoofppaaTotals.lean).
  GIVEN WITH THE SEED: the statements are not yours to turn. If you find one false, say at which input.
  Laid BY PROGRAM, IN A SANDBOX (cutbox-rows.mjs): the forced cells as the released guide's own fill.sh prints them over the translation 711ab970e747a06c… (all of the seat's roots in one cut). By AI agents, Wed Nov 11 2026. No macro, syntax, notation, axiom, sorry.
-/
import Derived.Test.YtikcpfpeoofppaaChecked
import GoSem.Claim
import GoSem.ClaimJoined
import GoSem.ClaimMapViews
import Derived.JoinedTies
import Derived.KernelRfl
namespace Go.Proofs.Ytikcpfpeoofppaa
/- THE CELL 'sum', in the pinned program and in every row, IS THE sha256 OF THE DUMP (.gsa) THAT YtikcpfpeoofppaaProg.lean LOADS. Nothing in Lean hashes anything: it is a label: what it is worth is what the hold of that sum in a sandbox is worth. -/
noncomputable def Try.pinned : Pinned := { name := "ytikcpfpeoofppaa", sum := "711ab970e747a06ca4dc5460cb00ae9f12e8c0ee37b3a91094e26ab3ab865231", checked := Try.checked }
namespace Rows
def none {H : Type} : Left H := { results := [], args := [] }

/-- 'skimmerlaw04.TankTwo': WHATEVER THE INPUT: true; the input reads as it did. -/
def tankTwoSpec : ChangeSpec := { name := "tankTwo", fn := fun _ => fun
  | [d1, d2, d3] => { results := [.lit (.bool true)], args := [d1, d2, d3] }
  | _ => none }
def tankTwoRow : OpenClaim := { program := "ytikcpfpeoofppaa", sum := "711ab970e747a06ca4dc5460cb00ae9f12e8c0ee37b3a91094e26ab3ab865231", func := "skimmer/skimmerlaw04.TankTwo", spec := "tankTwo", unfollowed := true, recurses := true, plainKeys := false, apart := false }
def TankTwoSaid : Prop := tankTwoRow.holds Try.pinned (OpenSpec.ofChange tankTwoSpec)

/-- ITS FALSE NEIGHBOUR: 'it returns false'. Refute it at one input. -/
def tankTwoWrong : ChangeSpec := { name := "tankTwo", fn := fun _ => fun
  | [d1, d2, d3] => { results := [.lit (.bool false)], args := [d1, d2, d3] }
  | _ => none }
def TankTwoWrongFalsely : Prop := tankTwoRow.holds Try.pinned (OpenSpec.ofChange tankTwoWrong)

/-- 'skimmerlaw04.TankLeast': WHATEVER THE INPUT: true; the input reads as it did. -/
def tankLeastSpec : ChangeSpec := { name := "tankLeast", fn := fun _ => fun
  | [d1, d2, d3] => { results := [.lit (.bool true)], args := [d1, d2, d3] }
  | _ => none }
def tankLeastRow : OpenClaim := { program := "ytikcpfpeoofppaa", sum := "711ab970e747a06ca4dc5460cb00ae9f12e8c0ee37b3a91094e26ab3ab865231", func := "skimmer/skimmerlaw04.TankLeast", spec := "tankLeast", unfollowed := true, recurses := true, plainKeys := false, apart := false }
def TankLeastSaid : Prop := tankLeastRow.holds Try.pinned (OpenSpec.ofChange tankLeastSpec)

/-- ITS FALSE NEIGHBOUR: 'it returns false'. Refute it at one input. -/
def tankLeastWrong : ChangeSpec := { name := "tankLeast", fn := fun _ => fun
  | [d1, d2, d3] => { results := [.lit (.bool false)], args := [d1, d2, d3] }
  | _ => none }
def TankLeastWrongFalsely : Prop := tankLeastRow.holds Try.pinned (OpenSpec.ofChange tankLeastWrong)

/-- 'skimmerlaw04.TankMeasures': WHATEVER THE INPUT: true; the input reads as it did. -/
def tankMeasuresSpec : ChangeSpec := { name := "tankMeasures", fn := fun _ => fun
  | [d1, d2, d3] => { results := [.lit (.bool true)], args := [d1, d2, d3] }
  | _ => none }
def tankMeasuresRow : OpenClaim := { program := "ytikcpfpeoofppaa", sum := "711ab970e747a06ca4dc5460cb00ae9f12e8c0ee37b3a91094e26ab3ab865231", func := "skimmer/skimmerlaw04.TankMeasures", spec := "tankMeasures", unfollowed := true, recurses := true, plainKeys := false, apart := false }
def TankMeasuresSaid : Prop := tankMeasuresRow.holds Try.pinned (OpenSpec.ofChange tankMeasuresSpec)

/-- ITS FALSE NEIGHBOUR: 'it returns false'. Refute it at one input. -/
def tankMeasuresWrong : ChangeSpec := { name := "tankMeasures", fn := fun _ => fun
  | [d1, d2, d3] => { results := [.lit (.bool false)], args := [d1, d2, d3] }
  | _ => none }
def TankMeasuresWrongFalsely : Prop := tankMeasuresRow.holds Try.pinned (OpenSpec.ofChange tankMeasuresWrong)

/-- 'skimmerlaw04.TankBack': WHATEVER THE INPUT: true; the input reads as it did. -/
def tankBackSpec : ChangeSpec := { name := "tankBack", fn := fun _ => fun
  | [d1, d2] => { results := [.lit (.bool true)], args := [d1, d2] }
  | _ => none }
def tankBackRow : OpenClaim := { program := "ytikcpfpeoofppaa", sum := "711ab970e747a06ca4dc5460cb00ae9f12e8c0ee37b3a91094e26ab3ab865231", func := "skimmer/skimmerlaw04.TankBack", spec := "tankBack", unfollowed := true, recurses := true, plainKeys := false, apart := false }
def TankBackSaid : Prop := tankBackRow.holds Try.pinned (OpenSpec.ofChange tankBackSpec)

/-- ITS FALSE NEIGHBOUR: 'it returns false'. Refute it at one input. -/
def tankBackWrong : ChangeSpec := { name := "tankBack", fn := fun _ => fun
  | [d1, d2] => { results := [.lit (.bool false)], args := [d1, d2] }
  | _ => none }
def TankBackWrongFalsely : Prop := tankBackRow.holds Try.pinned (OpenSpec.ofChange tankBackWrong)

/-- 'skimmerlaw04.TankBetween': WHATEVER THE INPUT: true; the input reads as it did. -/
def tankBetweenSpec : ChangeSpec := { name := "tankBetween", fn := fun _ => fun
  | [d1, d2, d3] => { results := [.lit (.bool true)], args := [d1, d2, d3] }
  | _ => none }
def tankBetweenRow : OpenClaim := { program := "ytikcpfpeoofppaa", sum := "711ab970e747a06ca4dc5460cb00ae9f12e8c0ee37b3a91094e26ab3ab865231", func := "skimmer/skimmerlaw04.TankBetween", spec := "tankBetween", unfollowed := true, recurses := true, plainKeys := false, apart := false }
def TankBetweenSaid : Prop := tankBetweenRow.holds Try.pinned (OpenSpec.ofChange tankBetweenSpec)

/-- ITS FALSE NEIGHBOUR: 'it returns false'. Refute it at one input. -/
def tankBetweenWrong : ChangeSpec := { name := "tankBetween", fn := fun _ => fun
  | [d1, d2, d3] => { results := [.lit (.bool false)], args := [d1, d2, d3] }
  | _ => none }
def TankBetweenWrongFalsely : Prop := tankBetweenRow.holds Try.pinned (OpenSpec.ofChange tankBetweenWrong)

/-- 'skimmerlaw04.TankDoes': WHATEVER THE INPUT: true; the input reads as it did. -/
def tankDoesSpec : ChangeSpec := { name := "tankDoes", fn := fun _ => fun
  | [d1, d2, d3] => { results := [.lit (.bool true)], args := [d1, d2, d3] }
  | _ => none }
def tankDoesRow : OpenClaim := { program := "ytikcpfpeoofppaa", sum := "711ab970e747a06ca4dc5460cb00ae9f12e8c0ee37b3a91094e26ab3ab865231", func := "skimmer/skimmerlaw04.TankDoes", spec := "tankDoes", unfollowed := true, recurses := true, plainKeys := false, apart := false }
def TankDoesSaid : Prop := tankDoesRow.holds Try.pinned (OpenSpec.ofChange tankDoesSpec)

/-- ITS FALSE NEIGHBOUR: 'it returns false'. Refute it at one input. -/
def tankDoesWrong : ChangeSpec := { name := "tankDoes", fn := fun _ => fun
  | [d1, d2, d3] => { results := [.lit (.bool false)], args := [d1, d2, d3] }
  | _ => none }
def TankDoesWrongFalsely : Prop := tankDoesRow.holds Try.pinned (OpenSpec.ofChange tankDoesWrong)

/-- 'skimmerlaw04.TankAfter': WHATEVER THE INPUT: true; the input reads as it did. -/
def tankAfterSpec : ChangeSpec := { name := "tankAfter", fn := fun _ => fun
  | [d1, d2, d3] => { results := [.lit (.bool true)], args := [d1, d2, d3] }
  | _ => none }
def tankAfterRow : OpenClaim := { program := "ytikcpfpeoofppaa", sum := "711ab970e747a06ca4dc5460cb00ae9f12e8c0ee37b3a91094e26ab3ab865231", func := "skimmer/skimmerlaw04.TankAfter", spec := "tankAfter", unfollowed := true, recurses := true, plainKeys := false, apart := false }
def TankAfterSaid : Prop := tankAfterRow.holds Try.pinned (OpenSpec.ofChange tankAfterSpec)

/-- ITS FALSE NEIGHBOUR: 'it returns false'. Refute it at one input. -/
def tankAfterWrong : ChangeSpec := { name := "tankAfter", fn := fun _ => fun
  | [d1, d2, d3] => { results := [.lit (.bool false)], args := [d1, d2, d3] }
  | _ => none }
def TankAfterWrongFalsely : Prop := tankAfterRow.holds Try.pinned (OpenSpec.ofChange tankAfterWrong)

/-- 'skimmerlaw04.TankWater': WHATEVER THE INPUT: true; the input reads as it did. -/
def tankWaterSpec : ChangeSpec := { name := "tankWater", fn := fun _ => fun
  | [d1, d2, d3] => { results := [.lit (.bool true)], args := [d1, d2, d3] }
  | _ => none }
def tankWaterRow : OpenClaim := { program := "ytikcpfpeoofppaa", sum := "711ab970e747a06ca4dc5460cb00ae9f12e8c0ee37b3a91094e26ab3ab865231", func := "skimmer/skimmerlaw04.TankWater", spec := "tankWater", unfollowed := true, recurses := true, plainKeys := false, apart := false }
def TankWaterSaid : Prop := tankWaterRow.holds Try.pinned (OpenSpec.ofChange tankWaterSpec)

/-- ITS FALSE NEIGHBOUR: 'it returns false'. Refute it at one input. -/
def tankWaterWrong : ChangeSpec := { name := "tankWater", fn := fun _ => fun
  | [d1, d2, d3] => { results := [.lit (.bool false)], args := [d1, d2, d3] }
  | _ => none }
def TankWaterWrongFalsely : Prop := tankWaterRow.holds Try.pinned (OpenSpec.ofChange tankWaterWrong)

/-- 'skimmertop.TopTank': WHATEVER THE INPUT: true; the input reads as it did. -/
def topTankSpec : ChangeSpec := { name := "topTank", fn := fun _ => fun
  | [d1, d2, d3] => { results := [.lit (.bool true)], args := [d1, d2, d3] }
  | _ => none }
def topTankRow : OpenClaim := { program := "ytikcpfpeoofppaa", sum := "711ab970e747a06ca4dc5460cb00ae9f12e8c0ee37b3a91094e26ab3ab865231", func := "skimmer/skimmertop.TopTank", spec := "topTank", unfollowed := true, recurses := true, plainKeys := false, apart := false }
def TopTankSaid : Prop := topTankRow.holds Try.pinned (OpenSpec.ofChange topTankSpec)

/-- ITS FALSE NEIGHBOUR: 'it returns false'. Refute it at one input. -/
def topTankWrong : ChangeSpec := { name := "topTank", fn := fun _ => fun
  | [d1, d2, d3] => { results := [.lit (.bool false)], args := [d1, d2, d3] }
  | _ => none }
def TopTankWrongFalsely : Prop := topTankRow.holds Try.pinned (OpenSpec.ofChange topTankWrong)

/-- 'skimmerlaw04.TankTwos': WHATEVER THE INPUT: true; the input reads as it did. -/
def tankTwosSpec : ChangeSpec := { name := "tankTwos", fn := fun _ => fun
  | [d1, d2, d3] => { results := [.lit (.bool true)], args := [d1, d2, d3] }
  | _ => none }
def tankTwosRow : OpenClaim := { program := "ytikcpfpeoofppaa", sum := "711ab970e747a06ca4dc5460cb00ae9f12e8c0ee37b3a91094e26ab3ab865231", func := "skimmer/skimmerlaw04.TankTwos", spec := "tankTwos", unfollowed := true, recurses := true, plainKeys := false, apart := false }
def TankTwosSaid : Prop := tankTwosRow.holds Try.pinned (OpenSpec.ofChange tankTwosSpec)

/-- ITS FALSE NEIGHBOUR: 'it returns false'. Refute it at one input. -/
def tankTwosWrong : ChangeSpec := { name := "tankTwos", fn := fun _ => fun
  | [d1, d2, d3] => { results := [.lit (.bool false)], args := [d1, d2, d3] }
  | _ => none }
def TankTwosWrongFalsely : Prop := tankTwosRow.holds Try.pinned (OpenSpec.ofChange tankTwosWrong)

/-- 'skimmerlaw04.TankFewest': WHATEVER THE INPUT: true; the input reads as it did. -/
def tankFewestSpec : ChangeSpec := { name := "tankFewest", fn := fun _ => fun
  | [d1, d2, d3] => { results := [.lit (.bool true)], args := [d1, d2, d3] }
  | _ => none }
def tankFewestRow : OpenClaim := { program := "ytikcpfpeoofppaa", sum := "711ab970e747a06ca4dc5460cb00ae9f12e8c0ee37b3a91094e26ab3ab865231", func := "skimmer/skimmerlaw04.TankFewest", spec := "tankFewest", unfollowed := true, recurses := true, plainKeys := false, apart := false }
def TankFewestSaid : Prop := tankFewestRow.holds Try.pinned (OpenSpec.ofChange tankFewestSpec)

/-- ITS FALSE NEIGHBOUR: 'it returns false'. Refute it at one input. -/
def tankFewestWrong : ChangeSpec := { name := "tankFewest", fn := fun _ => fun
  | [d1, d2, d3] => { results := [.lit (.bool false)], args := [d1, d2, d3] }
  | _ => none }
def TankFewestWrongFalsely : Prop := tankFewestRow.holds Try.pinned (OpenSpec.ofChange tankFewestWrong)

/-- 'skimmerlaw04.TankDivides': WHATEVER THE INPUT: true; the input reads as it did. -/
def tankDividesSpec : ChangeSpec := { name := "tankDivides", fn := fun _ => fun
  | [d1, d2] => { results := [.lit (.bool true)], args := [d1, d2] }
  | _ => none }
def tankDividesRow : OpenClaim := { program := "ytikcpfpeoofppaa", sum := "711ab970e747a06ca4dc5460cb00ae9f12e8c0ee37b3a91094e26ab3ab865231", func := "skimmer/skimmerlaw04.TankDivides", spec := "tankDivides", unfollowed := true, recurses := true, plainKeys := false, apart := false }
def TankDividesSaid : Prop := tankDividesRow.holds Try.pinned (OpenSpec.ofChange tankDividesSpec)

/-- ITS FALSE NEIGHBOUR: 'it returns false'. Refute it at one input. -/
def tankDividesWrong : ChangeSpec := { name := "tankDivides", fn := fun _ => fun
  | [d1, d2] => { results := [.lit (.bool false)], args := [d1, d2] }
  | _ => none }
def TankDividesWrongFalsely : Prop := tankDividesRow.holds Try.pinned (OpenSpec.ofChange tankDividesWrong)

/-- 'skimmerlaw04.TankAll': WHATEVER THE INPUT: true; the input reads as it did. -/
def tankAllSpec : ChangeSpec := { name := "tankAll", fn := fun _ => fun
  | [d] => { results := [.lit (.bool true)], args := [d] }
  | _ => none }
def tankAllRow : OpenClaim := { program := "ytikcpfpeoofppaa", sum := "711ab970e747a06ca4dc5460cb00ae9f12e8c0ee37b3a91094e26ab3ab865231", func := "skimmer/skimmerlaw04.TankAll", spec := "tankAll", unfollowed := true, recurses := true, plainKeys := false, apart := false }
def TankAllSaid : Prop := tankAllRow.holds Try.pinned (OpenSpec.ofChange tankAllSpec)

/-- ITS FALSE NEIGHBOUR: 'it returns false'. Refute it at one input. -/
def tankAllWrong : ChangeSpec := { name := "tankAll", fn := fun _ => fun
  | [d] => { results := [.lit (.bool false)], args := [d] }
  | _ => none }
def TankAllWrongFalsely : Prop := tankAllRow.holds Try.pinned (OpenSpec.ofChange tankAllWrong)

/-- 'skimmerlaw04.TankReturns': WHATEVER THE INPUT: true; the input reads as it did. -/
def tankReturnsSpec : ChangeSpec := { name := "tankReturns", fn := fun _ => fun
  | [d1, d2, d3] => { results := [.lit (.bool true)], args := [d1, d2, d3] }
  | _ => none }
def tankReturnsRow : OpenClaim := { program := "ytikcpfpeoofppaa", sum := "711ab970e747a06ca4dc5460cb00ae9f12e8c0ee37b3a91094e26ab3ab865231", func := "skimmer/skimmerlaw04.TankReturns", spec := "tankReturns", unfollowed := true, recurses := true, plainKeys := false, apart := false }
def TankReturnsSaid : Prop := tankReturnsRow.holds Try.pinned (OpenSpec.ofChange tankReturnsSpec)

/-- ITS FALSE NEIGHBOUR: 'it returns false'. Refute it at one input. -/
def tankReturnsWrong : ChangeSpec := { name := "tankReturns", fn := fun _ => fun
  | [d1, d2, d3] => { results := [.lit (.bool false)], args := [d1, d2, d3] }
  | _ => none }
def TankReturnsWrongFalsely : Prop := tankReturnsRow.holds Try.pinned (OpenSpec.ofChange tankReturnsWrong)

/- THE SECOND FORM. 'bulk': how many values and letters a reading holds, each counted each time it is reached (what is shared counts as often as it is met; a slice's spare places count too). A statement '..UptoSaid' is the law's where the arguments, and the package variables that the reading takes, are together of bulk at most 1048576: NARROWER than '..Said'. Prove '..Said' where nothing that the law and all that it calls make is longer than what came in: it says more and counts as full. Else prove '..UptoSaid'. A law counts once. -/
mutual
def uptoBulk {H : Type} : DataW H → Nat
  | .lit (.string bytes) => bytes.length + 1
  | .lit _ => 1
  | .nil => 1
  | .ptr d => uptoBulk d + 1
  | .slice elems spare => uptoBulkAll elems + uptoBulkAll spare + 1
  | .agg parts => uptoBulkAll parts + 1
  | .iface _ d => uptoBulk d + 1
  | .map entries => uptoBulkEntries entries + 1
  | .held _ => 1
def uptoBulkAll {H : Type} : List (DataW H) → Nat
  | [] => 0
  | d :: r => uptoBulk d + uptoBulkAll r
def uptoBulkEntries {H : Type} : List (Lit × DataW H) → Nat
  | [] => 0
  | x :: r => uptoBulkEntry x + uptoBulkEntries r
def uptoBulkEntry {H : Type} : Lit × DataW H → Nat
  | (.string bytes, d) => bytes.length + uptoBulk d + 1
  | (_, d) => uptoBulk d + 1
 end
def uptoSmall : (H : Type) → List (DataW H) → Bool := fun _ ds => decide (uptoBulkAll ds ≤ 1048576)
def OpenSpec.upto (s : _root_.Go.ChangeSpec) : _root_.Go.OpenSpec := { _root_.Go.OpenSpec.ofChange s with cond := some uptoSmall }

/-- 'skimmerlaw04.TankTwo', WHERE WHAT IT READS IS OF BULK AT MOST 1048576: true; the input reads as it did. -/
def tankTwoUptoRow : OpenClaim := { program := "ytikcpfpeoofppaa", sum := "711ab970e747a06ca4dc5460cb00ae9f12e8c0ee37b3a91094e26ab3ab865231", func := "skimmer/skimmerlaw04.TankTwo", spec := "tankTwo", unfollowed := true, recurses := true, plainKeys := false, apart := false, narrowed := true }
def TankTwoUptoSaid : Prop := tankTwoUptoRow.holds Try.pinned (OpenSpec.upto tankTwoSpec)

/-- 'skimmerlaw04.TankLeast', WHERE WHAT IT READS IS OF BULK AT MOST 1048576: true; the input reads as it did. -/
def tankLeastUptoRow : OpenClaim := { program := "ytikcpfpeoofppaa", sum := "711ab970e747a06ca4dc5460cb00ae9f12e8c0ee37b3a91094e26ab3ab865231", func := "skimmer/skimmerlaw04.TankLeast", spec := "tankLeast", unfollowed := true, recurses := true, plainKeys := false, apart := false, narrowed := true }
def TankLeastUptoSaid : Prop := tankLeastUptoRow.holds Try.pinned (OpenSpec.upto tankLeastSpec)

/-- 'skimmerlaw04.TankMeasures', WHERE WHAT IT READS IS OF BULK AT MOST 1048576: true; the input reads as it did. -/
def tankMeasuresUptoRow : OpenClaim := { program := "ytikcpfpeoofppaa", sum := "711ab970e747a06ca4dc5460cb00ae9f12e8c0ee37b3a91094e26ab3ab865231", func := "skimmer/skimmerlaw04.TankMeasures", spec := "tankMeasures", unfollowed := true, recurses := true, plainKeys := false, apart := false, narrowed := true }
def TankMeasuresUptoSaid : Prop := tankMeasuresUptoRow.holds Try.pinned (OpenSpec.upto tankMeasuresSpec)

/-- 'skimmerlaw04.TankBack', WHERE WHAT IT READS IS OF BULK AT MOST 1048576: true; the input reads as it did. -/
def tankBackUptoRow : OpenClaim := { program := "ytikcpfpeoofppaa", sum := "711ab970e747a06ca4dc5460cb00ae9f12e8c0ee37b3a91094e26ab3ab865231", func := "skimmer/skimmerlaw04.TankBack", spec := "tankBack", unfollowed := true, recurses := true, plainKeys := false, apart := false, narrowed := true }
def TankBackUptoSaid : Prop := tankBackUptoRow.holds Try.pinned (OpenSpec.upto tankBackSpec)

/-- 'skimmerlaw04.TankBetween', WHERE WHAT IT READS IS OF BULK AT MOST 1048576: true; the input reads as it did. -/
def tankBetweenUptoRow : OpenClaim := { program := "ytikcpfpeoofppaa", sum := "711ab970e747a06ca4dc5460cb00ae9f12e8c0ee37b3a91094e26ab3ab865231", func := "skimmer/skimmerlaw04.TankBetween", spec := "tankBetween", unfollowed := true, recurses := true, plainKeys := false, apart := false, narrowed := true }
def TankBetweenUptoSaid : Prop := tankBetweenUptoRow.holds Try.pinned (OpenSpec.upto tankBetweenSpec)

/-- 'skimmerlaw04.TankDoes', WHERE WHAT IT READS IS OF BULK AT MOST 1048576: true; the input reads as it did. -/
def tankDoesUptoRow : OpenClaim := { program := "ytikcpfpeoofppaa", sum := "711ab970e747a06ca4dc5460cb00ae9f12e8c0ee37b3a91094e26ab3ab865231", func := "skimmer/skimmerlaw04.TankDoes", spec := "tankDoes", unfollowed := true, recurses := true, plainKeys := false, apart := false, narrowed := true }
def TankDoesUptoSaid : Prop := tankDoesUptoRow.holds Try.pinned (OpenSpec.upto tankDoesSpec)

/-- 'skimmerlaw04.TankAfter', WHERE WHAT IT READS IS OF BULK AT MOST 1048576: true; the input reads as it did. -/
def tankAfterUptoRow : OpenClaim := { program := "ytikcpfpeoofppaa", sum := "711ab970e747a06ca4dc5460cb00ae9f12e8c0ee37b3a91094e26ab3ab865231", func := "skimmer/skimmerlaw04.TankAfter", spec := "tankAfter", unfollowed := true, recurses := true, plainKeys := false, apart := false, narrowed := true }
def TankAfterUptoSaid : Prop := tankAfterUptoRow.holds Try.pinned (OpenSpec.upto tankAfterSpec)

/-- 'skimmerlaw04.TankWater', WHERE WHAT IT READS IS OF BULK AT MOST 1048576: true; the input reads as it did. -/
def tankWaterUptoRow : OpenClaim := { program := "ytikcpfpeoofppaa", sum := "711ab970e747a06ca4dc5460cb00ae9f12e8c0ee37b3a91094e26ab3ab865231", func := "skimmer/skimmerlaw04.TankWater", spec := "tankWater", unfollowed := true, recurses := true, plainKeys := false, apart := false, narrowed := true }
def TankWaterUptoSaid : Prop := tankWaterUptoRow.holds Try.pinned (OpenSpec.upto tankWaterSpec)

/-- 'skimmertop.TopTank', WHERE WHAT IT READS IS OF BULK AT MOST 1048576: true; the input reads as it did. -/
def topTankUptoRow : OpenClaim := { program := "ytikcpfpeoofppaa", sum := "711ab970e747a06ca4dc5460cb00ae9f12e8c0ee37b3a91094e26ab3ab865231", func := "skimmer/skimmertop.TopTank", spec := "topTank", unfollowed := true, recurses := true, plainKeys := false, apart := false, narrowed := true }
def TopTankUptoSaid : Prop := topTankUptoRow.holds Try.pinned (OpenSpec.upto topTankSpec)

/-- 'skimmerlaw04.TankTwos', WHERE WHAT IT READS IS OF BULK AT MOST 1048576: true; the input reads as it did. -/
def tankTwosUptoRow : OpenClaim := { program := "ytikcpfpeoofppaa", sum := "711ab970e747a06ca4dc5460cb00ae9f12e8c0ee37b3a91094e26ab3ab865231", func := "skimmer/skimmerlaw04.TankTwos", spec := "tankTwos", unfollowed := true, recurses := true, plainKeys := false, apart := false, narrowed := true }
def TankTwosUptoSaid : Prop := tankTwosUptoRow.holds Try.pinned (OpenSpec.upto tankTwosSpec)

/-- 'skimmerlaw04.TankFewest', WHERE WHAT IT READS IS OF BULK AT MOST 1048576: true; the input reads as it did. -/
def tankFewestUptoRow : OpenClaim := { program := "ytikcpfpeoofppaa", sum := "711ab970e747a06ca4dc5460cb00ae9f12e8c0ee37b3a91094e26ab3ab865231", func := "skimmer/skimmerlaw04.TankFewest", spec := "tankFewest", unfollowed := true, recurses := true, plainKeys := false, apart := false, narrowed := true }
def TankFewestUptoSaid : Prop := tankFewestUptoRow.holds Try.pinned (OpenSpec.upto tankFewestSpec)

/-- 'skimmerlaw04.TankDivides', WHERE WHAT IT READS IS OF BULK AT MOST 1048576: true; the input reads as it did. -/
def tankDividesUptoRow : OpenClaim := { program := "ytikcpfpeoofppaa", sum := "711ab970e747a06ca4dc5460cb00ae9f12e8c0ee37b3a91094e26ab3ab865231", func := "skimmer/skimmerlaw04.TankDivides", spec := "tankDivides", unfollowed := true, recurses := true, plainKeys := false, apart := false, narrowed := true }
def TankDividesUptoSaid : Prop := tankDividesUptoRow.holds Try.pinned (OpenSpec.upto tankDividesSpec)

/-- 'skimmerlaw04.TankAll', WHERE WHAT IT READS IS OF BULK AT MOST 1048576: true; the input reads as it did. -/
def tankAllUptoRow : OpenClaim := { program := "ytikcpfpeoofppaa", sum := "711ab970e747a06ca4dc5460cb00ae9f12e8c0ee37b3a91094e26ab3ab865231", func := "skimmer/skimmerlaw04.TankAll", spec := "tankAll", unfollowed := true, recurses := true, plainKeys := false, apart := false, narrowed := true }
def TankAllUptoSaid : Prop := tankAllUptoRow.holds Try.pinned (OpenSpec.upto tankAllSpec)

/-- 'skimmerlaw04.TankReturns', WHERE WHAT IT READS IS OF BULK AT MOST 1048576: true; the input reads as it did. -/
def tankReturnsUptoRow : OpenClaim := { program := "ytikcpfpeoofppaa", sum := "711ab970e747a06ca4dc5460cb00ae9f12e8c0ee37b3a91094e26ab3ab865231", func := "skimmer/skimmerlaw04.TankReturns", spec := "tankReturns", unfollowed := true, recurses := true, plainKeys := false, apart := false, narrowed := true }
def TankReturnsUptoSaid : Prop := tankReturnsUptoRow.holds Try.pinned (OpenSpec.upto tankReturnsSpec)

end Rows
end Go.Proofs.Ytikcpfpeoofppaa
