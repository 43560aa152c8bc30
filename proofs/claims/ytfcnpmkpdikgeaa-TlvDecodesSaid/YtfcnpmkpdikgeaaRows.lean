/-
  No cell of these rows narrows 'for every input' (looked for: loops, veiled, ifaces, maps, wideKeys, modest, calm, conditions, laid).
  DERIVED. THE GIVEN ROWS OF THIS SEAT. 8 by the template 'for every input the law returns true; each argument reads behind the call as it read before'; 0 by the template 'total and deterministic' (their statements: YtfcnpmkpdikgeaaTotals.lean).
  GIVEN WITH THE SEED: the statements are not yours to turn. If you find one false, say at which input.
  Laid BY PROGRAM, IN A SANDBOX (cutbox-rows.mjs): the forced cells as the released guide's own fill.sh prints them over the translation 05e19da549432136… (all of the seat's roots in one cut). By AI agents, Wed Nov 11 2026. No macro, syntax, notation, axiom, sorry.
-/
import Derived.Test.YtfcnpmkpdikgeaaChecked
import GoSem.Claim
import GoSem.ClaimJoined
import GoSem.ClaimMapViews
import Derived.JoinedTies
import Derived.KernelRfl
namespace Go.Proofs.Ytfcnpmkpdikgeaa
/- THE CELL 'sum', in the pinned program and in every row, IS THE sha256 OF THE DUMP (.gsa) THAT YtfcnpmkpdikgeaaProg.lean LOADS. Nothing in Lean hashes anything: it is a label: what it is worth is what the hold of that sum in a sandbox is worth. -/
noncomputable def Try.pinned : Pinned := { name := "ytfcnpmkpdikgeaa", sum := "05e19da549432136fec7c08d01129b7b63416aa374e9ca9c2d0ab68cd5e0e6df", checked := Try.checked }
namespace Rows
def none {H : Type} : Left H := { results := [], args := [] }

/-- 'moneyerlaw02.TlvSizes': WHATEVER THE INPUT: true; the input reads as it did. -/
def tlvSizesSpec : ChangeSpec := { name := "tlvSizes", fn := fun _ => fun
  | [d] => { results := [.lit (.bool true)], args := [d] }
  | _ => none }
def tlvSizesRow : OpenClaim := { program := "ytfcnpmkpdikgeaa", sum := "05e19da549432136fec7c08d01129b7b63416aa374e9ca9c2d0ab68cd5e0e6df", func := "moneyer/moneyerlaw02.TlvSizes", spec := "tlvSizes", apart := false }
def TlvSizesSaid : Prop := tlvSizesRow.holds Try.pinned (OpenSpec.ofChange tlvSizesSpec)

/-- ITS FALSE NEIGHBOUR: 'it returns false'. Refute it at one input. -/
def tlvSizesWrong : ChangeSpec := { name := "tlvSizes", fn := fun _ => fun
  | [d] => { results := [.lit (.bool false)], args := [d] }
  | _ => none }
def TlvSizesWrongFalsely : Prop := tlvSizesRow.holds Try.pinned (OpenSpec.ofChange tlvSizesWrong)

/-- 'moneyerlaw02.TlvReads': WHATEVER THE INPUT: true; the input reads as it did. -/
def tlvReadsSpec : ChangeSpec := { name := "tlvReads", fn := fun _ => fun
  | [d] => { results := [.lit (.bool true)], args := [d] }
  | _ => none }
def tlvReadsRow : OpenClaim := { program := "ytfcnpmkpdikgeaa", sum := "05e19da549432136fec7c08d01129b7b63416aa374e9ca9c2d0ab68cd5e0e6df", func := "moneyer/moneyerlaw02.TlvReads", spec := "tlvReads", apart := false }
def TlvReadsSaid : Prop := tlvReadsRow.holds Try.pinned (OpenSpec.ofChange tlvReadsSpec)

/-- ITS FALSE NEIGHBOUR: 'it returns false'. Refute it at one input. -/
def tlvReadsWrong : ChangeSpec := { name := "tlvReads", fn := fun _ => fun
  | [d] => { results := [.lit (.bool false)], args := [d] }
  | _ => none }
def TlvReadsWrongFalsely : Prop := tlvReadsRow.holds Try.pinned (OpenSpec.ofChange tlvReadsWrong)

/-- 'moneyerlaw02.TlvKnown': WHATEVER THE INPUT: true; the input reads as it did. -/
def tlvKnownSpec : ChangeSpec := { name := "tlvKnown", fn := fun _ => fun
  | [d1, d2, d3] => { results := [.lit (.bool true)], args := [d1, d2, d3] }
  | _ => none }
def tlvKnownRow : OpenClaim := { program := "ytfcnpmkpdikgeaa", sum := "05e19da549432136fec7c08d01129b7b63416aa374e9ca9c2d0ab68cd5e0e6df", func := "moneyer/moneyerlaw02.TlvKnown", spec := "tlvKnown", apart := false }
def TlvKnownSaid : Prop := tlvKnownRow.holds Try.pinned (OpenSpec.ofChange tlvKnownSpec)

/-- ITS FALSE NEIGHBOUR: 'it returns false'. Refute it at one input. -/
def tlvKnownWrong : ChangeSpec := { name := "tlvKnown", fn := fun _ => fun
  | [d1, d2, d3] => { results := [.lit (.bool false)], args := [d1, d2, d3] }
  | _ => none }
def TlvKnownWrongFalsely : Prop := tlvKnownRow.holds Try.pinned (OpenSpec.ofChange tlvKnownWrong)

/-- 'moneyerlaw02.TlvNumbers': WHATEVER THE INPUT: true; the input reads as it did. -/
def tlvNumbersSpec : ChangeSpec := { name := "tlvNumbers", fn := fun _ => fun
  | [d1, d2] => { results := [.lit (.bool true)], args := [d1, d2] }
  | _ => none }
def tlvNumbersRow : OpenClaim := { program := "ytfcnpmkpdikgeaa", sum := "05e19da549432136fec7c08d01129b7b63416aa374e9ca9c2d0ab68cd5e0e6df", func := "moneyer/moneyerlaw02.TlvNumbers", spec := "tlvNumbers", apart := false }
def TlvNumbersSaid : Prop := tlvNumbersRow.holds Try.pinned (OpenSpec.ofChange tlvNumbersSpec)

/-- ITS FALSE NEIGHBOUR: 'it returns false'. Refute it at one input. -/
def tlvNumbersWrong : ChangeSpec := { name := "tlvNumbers", fn := fun _ => fun
  | [d1, d2] => { results := [.lit (.bool false)], args := [d1, d2] }
  | _ => none }
def TlvNumbersWrongFalsely : Prop := tlvNumbersRow.holds Try.pinned (OpenSpec.ofChange tlvNumbersWrong)

/-- 'moneyerlaw02.TlvWrites': WHATEVER THE INPUT: true; the input reads as it did. -/
def tlvWritesSpec : ChangeSpec := { name := "tlvWrites", fn := fun _ => fun
  | [d1, d2] => { results := [.lit (.bool true)], args := [d1, d2] }
  | _ => none }
def tlvWritesRow : OpenClaim := { program := "ytfcnpmkpdikgeaa", sum := "05e19da549432136fec7c08d01129b7b63416aa374e9ca9c2d0ab68cd5e0e6df", func := "moneyer/moneyerlaw02.TlvWrites", spec := "tlvWrites", apart := false }
def TlvWritesSaid : Prop := tlvWritesRow.holds Try.pinned (OpenSpec.ofChange tlvWritesSpec)

/-- ITS FALSE NEIGHBOUR: 'it returns false'. Refute it at one input. -/
def tlvWritesWrong : ChangeSpec := { name := "tlvWrites", fn := fun _ => fun
  | [d1, d2] => { results := [.lit (.bool false)], args := [d1, d2] }
  | _ => none }
def TlvWritesWrongFalsely : Prop := tlvWritesRow.holds Try.pinned (OpenSpec.ofChange tlvWritesWrong)

/-- 'moneyerlaw02.TlvDecodes': WHATEVER THE INPUT: true; the input reads as it did. -/
def tlvDecodesSpec : ChangeSpec := { name := "tlvDecodes", fn := fun _ => fun
  | [d] => { results := [.lit (.bool true)], args := [d] }
  | _ => none }
def tlvDecodesRow : OpenClaim := { program := "ytfcnpmkpdikgeaa", sum := "05e19da549432136fec7c08d01129b7b63416aa374e9ca9c2d0ab68cd5e0e6df", func := "moneyer/moneyerlaw02.TlvDecodes", spec := "tlvDecodes", apart := false }
def TlvDecodesSaid : Prop := tlvDecodesRow.holds Try.pinned (OpenSpec.ofChange tlvDecodesSpec)

/-- ITS FALSE NEIGHBOUR: 'it returns false'. Refute it at one input. -/
def tlvDecodesWrong : ChangeSpec := { name := "tlvDecodes", fn := fun _ => fun
  | [d] => { results := [.lit (.bool false)], args := [d] }
  | _ => none }
def TlvDecodesWrongFalsely : Prop := tlvDecodesRow.holds Try.pinned (OpenSpec.ofChange tlvDecodesWrong)

/-- 'moneyerlaw02.TlvForm': WHATEVER THE INPUT: true; the input reads as it did. -/
def tlvFormSpec : ChangeSpec := { name := "tlvForm", fn := fun _ => fun
  | [d] => { results := [.lit (.bool true)], args := [d] }
  | _ => none }
def tlvFormRow : OpenClaim := { program := "ytfcnpmkpdikgeaa", sum := "05e19da549432136fec7c08d01129b7b63416aa374e9ca9c2d0ab68cd5e0e6df", func := "moneyer/moneyerlaw02.TlvForm", spec := "tlvForm", apart := false }
def TlvFormSaid : Prop := tlvFormRow.holds Try.pinned (OpenSpec.ofChange tlvFormSpec)

/-- ITS FALSE NEIGHBOUR: 'it returns false'. Refute it at one input. -/
def tlvFormWrong : ChangeSpec := { name := "tlvForm", fn := fun _ => fun
  | [d] => { results := [.lit (.bool false)], args := [d] }
  | _ => none }
def TlvFormWrongFalsely : Prop := tlvFormRow.holds Try.pinned (OpenSpec.ofChange tlvFormWrong)

/-- 'moneyerlaw02.TlvCut': WHATEVER THE INPUT: true; the input reads as it did. -/
def tlvCutSpec : ChangeSpec := { name := "tlvCut", fn := fun _ => fun
  | [d1, d2] => { results := [.lit (.bool true)], args := [d1, d2] }
  | _ => none }
def tlvCutRow : OpenClaim := { program := "ytfcnpmkpdikgeaa", sum := "05e19da549432136fec7c08d01129b7b63416aa374e9ca9c2d0ab68cd5e0e6df", func := "moneyer/moneyerlaw02.TlvCut", spec := "tlvCut", apart := false }
def TlvCutSaid : Prop := tlvCutRow.holds Try.pinned (OpenSpec.ofChange tlvCutSpec)

/-- ITS FALSE NEIGHBOUR: 'it returns false'. Refute it at one input. -/
def tlvCutWrong : ChangeSpec := { name := "tlvCut", fn := fun _ => fun
  | [d1, d2] => { results := [.lit (.bool false)], args := [d1, d2] }
  | _ => none }
def TlvCutWrongFalsely : Prop := tlvCutRow.holds Try.pinned (OpenSpec.ofChange tlvCutWrong)

/- THE SECOND FORM. 'bulk': how many values and letters a reading holds, each counted each time it is reached (what is shared counts as often as it is met; a slice's spare places count too). A statement '..UptoSaid' is the law's where the arguments, and the package variables that the reading takes, are together of bulk at most 1048576: NARROWER than '..Said'. Prove '..Said' where nothing that the law and all that it calls make is longer than what came in: it says more and counts as full. Else prove '..UptoSaid'. A law counts once. -/
mutual
def uptoBulk {H : Type} : DataW H → Nat
  | .lit (.string bytes) => bytes.length + 1
  | .lit _ => 1
  | .nil => 1
  | .ptr d => uptoBulk d + 1
  | .slice elems spare => uptoBulkAll elems + uptoBulkAll spare + 1
  | .agg parts => uptoBulkAll parts + 1
  | .iface _ d => uptoBulk d + 1
  | .map entries => uptoBulkEntries entries + 1
  | .held _ => 1
def uptoBulkAll {H : Type} : List (DataW H) → Nat
  | [] => 0
  | d :: r => uptoBulk d + uptoBulkAll r
def uptoBulkEntries {H : Type} : List (Lit × DataW H) → Nat
  | [] => 0
  | x :: r => uptoBulkEntry x + uptoBulkEntries r
def uptoBulkEntry {H : Type} : Lit × DataW H → Nat
  | (.string bytes, d) => bytes.length + uptoBulk d + 1
  | (_, d) => uptoBulk d + 1
 end
def uptoSmall : (H : Type) → List (DataW H) → Bool := fun _ ds => decide (uptoBulkAll ds ≤ 1048576)
def OpenSpec.upto (s : _root_.Go.ChangeSpec) : _root_.Go.OpenSpec := { _root_.Go.OpenSpec.ofChange s with cond := some uptoSmall }

/-- 'moneyerlaw02.TlvSizes', WHERE WHAT IT READS IS OF BULK AT MOST 1048576: true; the input reads as it did. -/
def tlvSizesUptoRow : OpenClaim := { program := "ytfcnpmkpdikgeaa", sum := "05e19da549432136fec7c08d01129b7b63416aa374e9ca9c2d0ab68cd5e0e6df", func := "moneyer/moneyerlaw02.TlvSizes", spec := "tlvSizes", apart := false, narrowed := true }
def TlvSizesUptoSaid : Prop := tlvSizesUptoRow.holds Try.pinned (OpenSpec.upto tlvSizesSpec)

/-- 'moneyerlaw02.TlvReads', WHERE WHAT IT READS IS OF BULK AT MOST 1048576: true; the input reads as it did. -/
def tlvReadsUptoRow : OpenClaim := { program := "ytfcnpmkpdikgeaa", sum := "05e19da549432136fec7c08d01129b7b63416aa374e9ca9c2d0ab68cd5e0e6df", func := "moneyer/moneyerlaw02.TlvReads", spec := "tlvReads", apart := false, narrowed := true }
def TlvReadsUptoSaid : Prop := tlvReadsUptoRow.holds Try.pinned (OpenSpec.upto tlvReadsSpec)

/-- 'moneyerlaw02.TlvKnown', WHERE WHAT IT READS IS OF BULK AT MOST 1048576: true; the input reads as it did. -/
def tlvKnownUptoRow : OpenClaim := { program := "ytfcnpmkpdikgeaa", sum := "05e19da549432136fec7c08d01129b7b63416aa374e9ca9c2d0ab68cd5e0e6df", func := "moneyer/moneyerlaw02.TlvKnown", spec := "tlvKnown", apart := false, narrowed := true }
def TlvKnownUptoSaid : Prop := tlvKnownUptoRow.holds Try.pinned (OpenSpec.upto tlvKnownSpec)

/-- 'moneyerlaw02.TlvNumbers', WHERE WHAT IT READS IS OF BULK AT MOST 1048576: true; the input reads as it did. -/
def tlvNumbersUptoRow : OpenClaim := { program := "ytfcnpmkpdikgeaa", sum := "05e19da549432136fec7c08d01129b7b63416aa374e9ca9c2d0ab68cd5e0e6df", func := "moneyer/moneyerlaw02.TlvNumbers", spec := "tlvNumbers", apart := false, narrowed := true }
def TlvNumbersUptoSaid : Prop := tlvNumbersUptoRow.holds Try.pinned (OpenSpec.upto tlvNumbersSpec)

/-- 'moneyerlaw02.TlvWrites', WHERE WHAT IT READS IS OF BULK AT MOST 1048576: true; the input reads as it did. -/
def tlvWritesUptoRow : OpenClaim := { program := "ytfcnpmkpdikgeaa", sum := "05e19da549432136fec7c08d01129b7b63416aa374e9ca9c2d0ab68cd5e0e6df", func := "moneyer/moneyerlaw02.TlvWrites", spec := "tlvWrites", apart := false, narrowed := true }
def TlvWritesUptoSaid : Prop := tlvWritesUptoRow.holds Try.pinned (OpenSpec.upto tlvWritesSpec)

/-- 'moneyerlaw02.TlvDecodes', WHERE WHAT IT READS IS OF BULK AT MOST 1048576: true; the input reads as it did. -/
def tlvDecodesUptoRow : OpenClaim := { program := "ytfcnpmkpdikgeaa", sum := "05e19da549432136fec7c08d01129b7b63416aa374e9ca9c2d0ab68cd5e0e6df", func := "moneyer/moneyerlaw02.TlvDecodes", spec := "tlvDecodes", apart := false, narrowed := true }
def TlvDecodesUptoSaid : Prop := tlvDecodesUptoRow.holds Try.pinned (OpenSpec.upto tlvDecodesSpec)

/-- 'moneyerlaw02.TlvForm', WHERE WHAT IT READS IS OF BULK AT MOST 1048576: true; the input reads as it did. -/
def tlvFormUptoRow : OpenClaim := { program := "ytfcnpmkpdikgeaa", sum := "05e19da549432136fec7c08d01129b7b63416aa374e9ca9c2d0ab68cd5e0e6df", func := "moneyer/moneyerlaw02.TlvForm", spec := "tlvForm", apart := false, narrowed := true }
def TlvFormUptoSaid : Prop := tlvFormUptoRow.holds Try.pinned (OpenSpec.upto tlvFormSpec)

/-- 'moneyerlaw02.TlvCut', WHERE WHAT IT READS IS OF BULK AT MOST 1048576: true; the input reads as it did. -/
def tlvCutUptoRow : OpenClaim := { program := "ytfcnpmkpdikgeaa", sum := "05e19da549432136fec7c08d01129b7b63416aa374e9ca9c2d0ab68cd5e0e6df", func := "moneyer/moneyerlaw02.TlvCut", spec := "tlvCut", apart := false, narrowed := true }
def TlvCutUptoSaid : Prop := tlvCutUptoRow.holds Try.pinned (OpenSpec.upto tlvCutSpec)

end Rows
end Go.Proofs.Ytfcnpmkpdikgeaa
