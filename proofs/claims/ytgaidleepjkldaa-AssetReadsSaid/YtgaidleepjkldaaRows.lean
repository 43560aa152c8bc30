/-
  No cell of these rows narrows 'for every input' (looked for: loops, veiled, ifaces, maps, wideKeys, modest, calm, conditions, laid).
  DERIVED. THE GIVEN ROWS OF THIS SEAT. 4 by the template 'for every input the law returns true; each argument reads behind the call as it read before'; 0 by the template 'total and deterministic' (their statements: YtgaidleepjkldaaTotals.lean).
  GIVEN WITH THE SEED: the statements are not yours to turn. If you find one false, say at which input.
  Laid BY PROGRAM, IN A SANDBOX (cutbox-rows.mjs): the forced cells as the released guide's own fill.sh prints them over the translation bc4eb5ebec26cdcf… (all of the seat's roots in one cut). By AI agents, Wed Nov 11 2026. No macro, syntax, notation, axiom, sorry.
-/
import Derived.Test.YtgaidleepjkldaaChecked
import GoSem.Claim
import GoSem.ClaimJoined
import GoSem.ClaimMapViews
import Derived.JoinedTies
import Derived.KernelRfl
namespace Go.Proofs.Ytgaidleepjkldaa
/- THE CELL 'sum', in the pinned program and in every row, IS THE sha256 OF THE DUMP (.gsa) THAT YtgaidleepjkldaaProg.lean LOADS. Nothing in Lean hashes anything: it is a label: what it is worth is what the hold of that sum in a sandbox is worth. -/
noncomputable def Try.pinned : Pinned := { name := "ytgaidleepjkldaa", sum := "bc4eb5ebec26cdcf7e911c2c9a027f995fdf15932a0f80112193f3c88c43259c", checked := Try.checked }
namespace Rows
def none {H : Type} : Left H := { results := [], args := [] }

/-- 'moneyerlaw06.AssetFits': WHATEVER THE INPUT: true; the input reads as it did. -/
def assetFitsSpec : ChangeSpec := { name := "assetFits", fn := fun _ => fun
  | [d1, d2] => { results := [.lit (.bool true)], args := [d1, d2] }
  | _ => none }
def assetFitsRow : OpenClaim := { program := "ytgaidleepjkldaa", sum := "bc4eb5ebec26cdcf7e911c2c9a027f995fdf15932a0f80112193f3c88c43259c", func := "moneyer/moneyerlaw06.AssetFits", spec := "assetFits", apart := false }
def AssetFitsSaid : Prop := assetFitsRow.holds Try.pinned (OpenSpec.ofChange assetFitsSpec)

/-- ITS FALSE NEIGHBOUR: 'it returns false'. Refute it at one input. -/
def assetFitsWrong : ChangeSpec := { name := "assetFits", fn := fun _ => fun
  | [d1, d2] => { results := [.lit (.bool false)], args := [d1, d2] }
  | _ => none }
def AssetFitsWrongFalsely : Prop := assetFitsRow.holds Try.pinned (OpenSpec.ofChange assetFitsWrong)

/-- 'moneyerlaw06.AssetPoints': WHATEVER THE INPUT: true; the input reads as it did. -/
def assetPointsSpec : ChangeSpec := { name := "assetPoints", fn := fun _ => fun
  | [d1, d2] => { results := [.lit (.bool true)], args := [d1, d2] }
  | _ => none }
def assetPointsRow : OpenClaim := { program := "ytgaidleepjkldaa", sum := "bc4eb5ebec26cdcf7e911c2c9a027f995fdf15932a0f80112193f3c88c43259c", func := "moneyer/moneyerlaw06.AssetPoints", spec := "assetPoints", apart := false }
def AssetPointsSaid : Prop := assetPointsRow.holds Try.pinned (OpenSpec.ofChange assetPointsSpec)

/-- ITS FALSE NEIGHBOUR: 'it returns false'. Refute it at one input. -/
def assetPointsWrong : ChangeSpec := { name := "assetPoints", fn := fun _ => fun
  | [d1, d2] => { results := [.lit (.bool false)], args := [d1, d2] }
  | _ => none }
def AssetPointsWrongFalsely : Prop := assetPointsRow.holds Try.pinned (OpenSpec.ofChange assetPointsWrong)

/-- 'moneyerlaw06.AssetReads': WHATEVER THE INPUT: true; the input reads as it did. -/
def assetReadsSpec : ChangeSpec := { name := "assetReads", fn := fun _ => fun
  | [d] => { results := [.lit (.bool true)], args := [d] }
  | _ => none }
def assetReadsRow : OpenClaim := { program := "ytgaidleepjkldaa", sum := "bc4eb5ebec26cdcf7e911c2c9a027f995fdf15932a0f80112193f3c88c43259c", func := "moneyer/moneyerlaw06.AssetReads", spec := "assetReads", apart := false }
def AssetReadsSaid : Prop := assetReadsRow.holds Try.pinned (OpenSpec.ofChange assetReadsSpec)

/-- ITS FALSE NEIGHBOUR: 'it returns false'. Refute it at one input. -/
def assetReadsWrong : ChangeSpec := { name := "assetReads", fn := fun _ => fun
  | [d] => { results := [.lit (.bool false)], args := [d] }
  | _ => none }
def AssetReadsWrongFalsely : Prop := assetReadsRow.holds Try.pinned (OpenSpec.ofChange assetReadsWrong)

/-- 'moneyerlaw06.AssetForm': WHATEVER THE INPUT: true; the input reads as it did. -/
def assetFormSpec : ChangeSpec := { name := "assetForm", fn := fun _ => fun
  | [d] => { results := [.lit (.bool true)], args := [d] }
  | _ => none }
def assetFormRow : OpenClaim := { program := "ytgaidleepjkldaa", sum := "bc4eb5ebec26cdcf7e911c2c9a027f995fdf15932a0f80112193f3c88c43259c", func := "moneyer/moneyerlaw06.AssetForm", spec := "assetForm", apart := false }
def AssetFormSaid : Prop := assetFormRow.holds Try.pinned (OpenSpec.ofChange assetFormSpec)

/-- ITS FALSE NEIGHBOUR: 'it returns false'. Refute it at one input. -/
def assetFormWrong : ChangeSpec := { name := "assetForm", fn := fun _ => fun
  | [d] => { results := [.lit (.bool false)], args := [d] }
  | _ => none }
def AssetFormWrongFalsely : Prop := assetFormRow.holds Try.pinned (OpenSpec.ofChange assetFormWrong)

/- THE SECOND FORM. 'bulk': how many values and letters a reading holds, each counted each time it is reached (what is shared counts as often as it is met; a slice's spare places count too). A statement '..UptoSaid' is the law's where the arguments, and the package variables that the reading takes, are together of bulk at most 1048576: NARROWER than '..Said'. Prove '..Said' where nothing that the law and all that it calls make is longer than what came in: it says more and counts as full. Else prove '..UptoSaid'. A law counts once. -/
mutual
def uptoBulk {H : Type} : DataW H → Nat
  | .lit (.string bytes) => bytes.length + 1
  | .lit _ => 1
  | .nil => 1
  | .ptr d => uptoBulk d + 1
  | .slice elems spare => uptoBulkAll elems + uptoBulkAll spare + 1
  | .agg parts => uptoBulkAll parts + 1
  | .iface _ d => uptoBulk d + 1
  | .map entries => uptoBulkEntries entries + 1
  | .held _ => 1
def uptoBulkAll {H : Type} : List (DataW H) → Nat
  | [] => 0
  | d :: r => uptoBulk d + uptoBulkAll r
def uptoBulkEntries {H : Type} : List (Lit × DataW H) → Nat
  | [] => 0
  | x :: r => uptoBulkEntry x + uptoBulkEntries r
def uptoBulkEntry {H : Type} : Lit × DataW H → Nat
  | (.string bytes, d) => bytes.length + uptoBulk d + 1
  | (_, d) => uptoBulk d + 1
 end
def uptoSmall : (H : Type) → List (DataW H) → Bool := fun _ ds => decide (uptoBulkAll ds ≤ 1048576)
def OpenSpec.upto (s : _root_.Go.ChangeSpec) : _root_.Go.OpenSpec := { _root_.Go.OpenSpec.ofChange s with cond := some uptoSmall }

/-- 'moneyerlaw06.AssetFits', WHERE WHAT IT READS IS OF BULK AT MOST 1048576: true; the input reads as it did. -/
def assetFitsUptoRow : OpenClaim := { program := "ytgaidleepjkldaa", sum := "bc4eb5ebec26cdcf7e911c2c9a027f995fdf15932a0f80112193f3c88c43259c", func := "moneyer/moneyerlaw06.AssetFits", spec := "assetFits", apart := false, narrowed := true }
def AssetFitsUptoSaid : Prop := assetFitsUptoRow.holds Try.pinned (OpenSpec.upto assetFitsSpec)

/-- 'moneyerlaw06.AssetPoints', WHERE WHAT IT READS IS OF BULK AT MOST 1048576: true; the input reads as it did. -/
def assetPointsUptoRow : OpenClaim := { program := "ytgaidleepjkldaa", sum := "bc4eb5ebec26cdcf7e911c2c9a027f995fdf15932a0f80112193f3c88c43259c", func := "moneyer/moneyerlaw06.AssetPoints", spec := "assetPoints", apart := false, narrowed := true }
def AssetPointsUptoSaid : Prop := assetPointsUptoRow.holds Try.pinned (OpenSpec.upto assetPointsSpec)

/-- 'moneyerlaw06.AssetReads', WHERE WHAT IT READS IS OF BULK AT MOST 1048576: true; the input reads as it did. -/
def assetReadsUptoRow : OpenClaim := { program := "ytgaidleepjkldaa", sum := "bc4eb5ebec26cdcf7e911c2c9a027f995fdf15932a0f80112193f3c88c43259c", func := "moneyer/moneyerlaw06.AssetReads", spec := "assetReads", apart := false, narrowed := true }
def AssetReadsUptoSaid : Prop := assetReadsUptoRow.holds Try.pinned (OpenSpec.upto assetReadsSpec)

/-- 'moneyerlaw06.AssetForm', WHERE WHAT IT READS IS OF BULK AT MOST 1048576: true; the input reads as it did. -/
def assetFormUptoRow : OpenClaim := { program := "ytgaidleepjkldaa", sum := "bc4eb5ebec26cdcf7e911c2c9a027f995fdf15932a0f80112193f3c88c43259c", func := "moneyer/moneyerlaw06.AssetForm", spec := "assetForm", apart := false, narrowed := true }
def AssetFormUptoSaid : Prop := assetFormUptoRow.holds Try.pinned (OpenSpec.upto assetFormSpec)

end Rows
end Go.Proofs.Ytgaidleepjkldaa
