/-
  No cell of these rows narrows 'for every input' (looked for: loops, veiled, ifaces, maps, wideKeys, modest, calm, conditions, laid).
  DERIVED. THE GIVEN ROWS OF THIS SEAT. 10 by the template 'for every input the law returns true; each argument reads behind the call as it read before'; 0 by the template 'total and deterministic' (their statements: YtfiaallnnpcbmaaTotals.lean).
  GIVEN WITH THE SEED: the statements are not yours to turn. If you find one false, say at which input.
  Laid BY PROGRAM, IN A SANDBOX (cutbox-rows.mjs): the forced cells as the released guide's own fill.sh prints them over the translation 92f196fba3a4ed55… (all of the seat's roots in one cut). By AI agents, Wed Nov 11 2026. No macro, syntax, notation, axiom, sorry.
-/
import Derived.Test.YtfiaallnnpcbmaaChecked
import GoSem.Claim
import GoSem.ClaimJoined
import GoSem.ClaimMapViews
import Derived.JoinedTies
import Derived.KernelRfl
namespace Go.Proofs.Ytfiaallnnpcbmaa
/- THE CELL 'sum', in the pinned program and in every row, IS THE sha256 OF THE DUMP (.gsa) THAT YtfiaallnnpcbmaaProg.lean LOADS. Nothing in Lean hashes anything: it is a label: what it is worth is what the hold of that sum in a sandbox is worth. -/
noncomputable def Try.pinned : Pinned := { name := "ytfiaallnnpcbmaa", sum := "92f196fba3a4ed558cb98d04286c1bf25ea0be02ba96fdf6df6fd82c4dd8e1ae", checked := Try.checked }
namespace Rows
def none {H : Type} : Left H := { results := [], args := [] }

/-- 'moneyerlaw01.SumsCovers': WHATEVER THE INPUT: true; the input reads as it did. -/
def sumsCoversSpec : ChangeSpec := { name := "sumsCovers", fn := fun _ => fun
  | [d1, d2, d3, d4] => { results := [.lit (.bool true)], args := [d1, d2, d3, d4] }
  | _ => none }
def sumsCoversRow : OpenClaim := { program := "ytfiaallnnpcbmaa", sum := "92f196fba3a4ed558cb98d04286c1bf25ea0be02ba96fdf6df6fd82c4dd8e1ae", func := "moneyer/moneyerlaw01.SumsCovers", spec := "sumsCovers", apart := false }
def SumsCoversSaid : Prop := sumsCoversRow.holds Try.pinned (OpenSpec.ofChange sumsCoversSpec)

/-- ITS FALSE NEIGHBOUR: 'it returns false'. Refute it at one input. -/
def sumsCoversWrong : ChangeSpec := { name := "sumsCovers", fn := fun _ => fun
  | [d1, d2, d3, d4] => { results := [.lit (.bool false)], args := [d1, d2, d3, d4] }
  | _ => none }
def SumsCoversWrongFalsely : Prop := sumsCoversRow.holds Try.pinned (OpenSpec.ofChange sumsCoversWrong)

/-- 'moneyerlaw01.SumsMuls': WHATEVER THE INPUT: true; the input reads as it did. -/
def sumsMulsSpec : ChangeSpec := { name := "sumsMuls", fn := fun _ => fun
  | [d1, d2] => { results := [.lit (.bool true)], args := [d1, d2] }
  | _ => none }
def sumsMulsRow : OpenClaim := { program := "ytfiaallnnpcbmaa", sum := "92f196fba3a4ed558cb98d04286c1bf25ea0be02ba96fdf6df6fd82c4dd8e1ae", func := "moneyer/moneyerlaw01.SumsMuls", spec := "sumsMuls", apart := false }
def SumsMulsSaid : Prop := sumsMulsRow.holds Try.pinned (OpenSpec.ofChange sumsMulsSpec)

/-- ITS FALSE NEIGHBOUR: 'it returns false'. Refute it at one input. -/
def sumsMulsWrong : ChangeSpec := { name := "sumsMuls", fn := fun _ => fun
  | [d1, d2] => { results := [.lit (.bool false)], args := [d1, d2] }
  | _ => none }
def SumsMulsWrongFalsely : Prop := sumsMulsRow.holds Try.pinned (OpenSpec.ofChange sumsMulsWrong)

/-- 'moneyerlaw01.SumsTotals': WHATEVER THE INPUT: true; the input reads as it did. -/
def sumsTotalsSpec : ChangeSpec := { name := "sumsTotals", fn := fun _ => fun
  | [d] => { results := [.lit (.bool true)], args := [d] }
  | _ => none }
def sumsTotalsRow : OpenClaim := { program := "ytfiaallnnpcbmaa", sum := "92f196fba3a4ed558cb98d04286c1bf25ea0be02ba96fdf6df6fd82c4dd8e1ae", func := "moneyer/moneyerlaw01.SumsTotals", spec := "sumsTotals", inPlace := ["math/bits.Add64"], apart := false }
def SumsTotalsSaid : Prop := sumsTotalsRow.holds Try.pinned (OpenSpec.ofChange sumsTotalsSpec)

/-- ITS FALSE NEIGHBOUR: 'it returns false'. Refute it at one input. -/
def sumsTotalsWrong : ChangeSpec := { name := "sumsTotals", fn := fun _ => fun
  | [d] => { results := [.lit (.bool false)], args := [d] }
  | _ => none }
def SumsTotalsWrongFalsely : Prop := sumsTotalsRow.holds Try.pinned (OpenSpec.ofChange sumsTotalsWrong)

/-- 'moneyerlaw01.SumsOrder': WHATEVER THE INPUT: true; the input reads as it did. -/
def sumsOrderSpec : ChangeSpec := { name := "sumsOrder", fn := fun _ => fun
  | [d] => { results := [.lit (.bool true)], args := [d] }
  | _ => none }
def sumsOrderRow : OpenClaim := { program := "ytfiaallnnpcbmaa", sum := "92f196fba3a4ed558cb98d04286c1bf25ea0be02ba96fdf6df6fd82c4dd8e1ae", func := "moneyer/moneyerlaw01.SumsOrder", spec := "sumsOrder", inPlace := ["math/bits.Add64"], apart := false }
def SumsOrderSaid : Prop := sumsOrderRow.holds Try.pinned (OpenSpec.ofChange sumsOrderSpec)

/-- ITS FALSE NEIGHBOUR: 'it returns false'. Refute it at one input. -/
def sumsOrderWrong : ChangeSpec := { name := "sumsOrder", fn := fun _ => fun
  | [d] => { results := [.lit (.bool false)], args := [d] }
  | _ => none }
def SumsOrderWrongFalsely : Prop := sumsOrderRow.holds Try.pinned (OpenSpec.ofChange sumsOrderWrong)

/-- 'moneyerlaw01.SumsAdds': WHATEVER THE INPUT: true; the input reads as it did. -/
def sumsAddsSpec : ChangeSpec := { name := "sumsAdds", fn := fun _ => fun
  | [d1, d2] => { results := [.lit (.bool true)], args := [d1, d2] }
  | _ => none }
def sumsAddsRow : OpenClaim := { program := "ytfiaallnnpcbmaa", sum := "92f196fba3a4ed558cb98d04286c1bf25ea0be02ba96fdf6df6fd82c4dd8e1ae", func := "moneyer/moneyerlaw01.SumsAdds", spec := "sumsAdds", inPlace := ["math/bits.Add64", "math/bits.Sub64"], apart := false }
def SumsAddsSaid : Prop := sumsAddsRow.holds Try.pinned (OpenSpec.ofChange sumsAddsSpec)

/-- ITS FALSE NEIGHBOUR: 'it returns false'. Refute it at one input. -/
def sumsAddsWrong : ChangeSpec := { name := "sumsAdds", fn := fun _ => fun
  | [d1, d2] => { results := [.lit (.bool false)], args := [d1, d2] }
  | _ => none }
def SumsAddsWrongFalsely : Prop := sumsAddsRow.holds Try.pinned (OpenSpec.ofChange sumsAddsWrong)

/-- 'moneyerlaw01.SumsParts': WHATEVER THE INPUT: true; the input reads as it did. -/
def sumsPartsSpec : ChangeSpec := { name := "sumsParts", fn := fun _ => fun
  | [d1, d2, d3, d4] => { results := [.lit (.bool true)], args := [d1, d2, d3, d4] }
  | _ => none }
def sumsPartsRow : OpenClaim := { program := "ytfiaallnnpcbmaa", sum := "92f196fba3a4ed558cb98d04286c1bf25ea0be02ba96fdf6df6fd82c4dd8e1ae", func := "moneyer/moneyerlaw01.SumsParts", spec := "sumsParts", inPlace := ["math/bits.Add64"], named := ["math/bits.divideError", "math/bits.overflowError"], apart := false }
def SumsPartsSaid : Prop := sumsPartsRow.holds Try.pinned (OpenSpec.ofChange sumsPartsSpec)

/-- ITS FALSE NEIGHBOUR: 'it returns false'. Refute it at one input. -/
def sumsPartsWrong : ChangeSpec := { name := "sumsParts", fn := fun _ => fun
  | [d1, d2, d3, d4] => { results := [.lit (.bool false)], args := [d1, d2, d3, d4] }
  | _ => none }
def SumsPartsWrongFalsely : Prop := sumsPartsRow.holds Try.pinned (OpenSpec.ofChange sumsPartsWrong)

/-- 'moneyerlaw01.SumsTurns': WHATEVER THE INPUT: true; the input reads as it did. -/
def sumsTurnsSpec : ChangeSpec := { name := "sumsTurns", fn := fun _ => fun
  | [d1, d2, d3] => { results := [.lit (.bool true)], args := [d1, d2, d3] }
  | _ => none }
def sumsTurnsRow : OpenClaim := { program := "ytfiaallnnpcbmaa", sum := "92f196fba3a4ed558cb98d04286c1bf25ea0be02ba96fdf6df6fd82c4dd8e1ae", func := "moneyer/moneyerlaw01.SumsTurns", spec := "sumsTurns", inPlace := ["math/bits.Add64"], named := ["math/bits.divideError", "math/bits.overflowError"], apart := false }
def SumsTurnsSaid : Prop := sumsTurnsRow.holds Try.pinned (OpenSpec.ofChange sumsTurnsSpec)

/-- ITS FALSE NEIGHBOUR: 'it returns false'. Refute it at one input. -/
def sumsTurnsWrong : ChangeSpec := { name := "sumsTurns", fn := fun _ => fun
  | [d1, d2, d3] => { results := [.lit (.bool false)], args := [d1, d2, d3] }
  | _ => none }
def SumsTurnsWrongFalsely : Prop := sumsTurnsRow.holds Try.pinned (OpenSpec.ofChange sumsTurnsWrong)

/-- 'moneyerlaw01.SumsBack': WHATEVER THE INPUT: true; the input reads as it did. -/
def sumsBackSpec : ChangeSpec := { name := "sumsBack", fn := fun _ => fun
  | [d1, d2] => { results := [.lit (.bool true)], args := [d1, d2] }
  | _ => none }
def sumsBackRow : OpenClaim := { program := "ytfiaallnnpcbmaa", sum := "92f196fba3a4ed558cb98d04286c1bf25ea0be02ba96fdf6df6fd82c4dd8e1ae", func := "moneyer/moneyerlaw01.SumsBack", spec := "sumsBack", inPlace := ["math/bits.Add64", "math/bits.Sub64"], named := ["math/bits.divideError", "math/bits.overflowError"], apart := false }
def SumsBackSaid : Prop := sumsBackRow.holds Try.pinned (OpenSpec.ofChange sumsBackSpec)

/-- ITS FALSE NEIGHBOUR: 'it returns false'. Refute it at one input. -/
def sumsBackWrong : ChangeSpec := { name := "sumsBack", fn := fun _ => fun
  | [d1, d2] => { results := [.lit (.bool false)], args := [d1, d2] }
  | _ => none }
def SumsBackWrongFalsely : Prop := sumsBackRow.holds Try.pinned (OpenSpec.ofChange sumsBackWrong)

/-- 'moneyerlaw01.SumsShares': WHATEVER THE INPUT: true; the input reads as it did. -/
def sumsSharesSpec : ChangeSpec := { name := "sumsShares", fn := fun _ => fun
  | [d1, d2] => { results := [.lit (.bool true)], args := [d1, d2] }
  | _ => none }
def sumsSharesRow : OpenClaim := { program := "ytfiaallnnpcbmaa", sum := "92f196fba3a4ed558cb98d04286c1bf25ea0be02ba96fdf6df6fd82c4dd8e1ae", func := "moneyer/moneyerlaw01.SumsShares", spec := "sumsShares", inPlace := ["math/bits.Add64"], named := ["math/bits.divideError", "math/bits.overflowError"], apart := false }
def SumsSharesSaid : Prop := sumsSharesRow.holds Try.pinned (OpenSpec.ofChange sumsSharesSpec)

/-- ITS FALSE NEIGHBOUR: 'it returns false'. Refute it at one input. -/
def sumsSharesWrong : ChangeSpec := { name := "sumsShares", fn := fun _ => fun
  | [d1, d2] => { results := [.lit (.bool false)], args := [d1, d2] }
  | _ => none }
def SumsSharesWrongFalsely : Prop := sumsSharesRow.holds Try.pinned (OpenSpec.ofChange sumsSharesWrong)

/-- 'moneyerlaw01.SumsWhole': WHATEVER THE INPUT: true; the input reads as it did. -/
def sumsWholeSpec : ChangeSpec := { name := "sumsWhole", fn := fun _ => fun
  | [d1, d2] => { results := [.lit (.bool true)], args := [d1, d2] }
  | _ => none }
def sumsWholeRow : OpenClaim := { program := "ytfiaallnnpcbmaa", sum := "92f196fba3a4ed558cb98d04286c1bf25ea0be02ba96fdf6df6fd82c4dd8e1ae", func := "moneyer/moneyerlaw01.SumsWhole", spec := "sumsWhole", inPlace := ["math/bits.Add64"], named := ["math/bits.divideError", "math/bits.overflowError"], apart := false }
def SumsWholeSaid : Prop := sumsWholeRow.holds Try.pinned (OpenSpec.ofChange sumsWholeSpec)

/-- ITS FALSE NEIGHBOUR: 'it returns false'. Refute it at one input. -/
def sumsWholeWrong : ChangeSpec := { name := "sumsWhole", fn := fun _ => fun
  | [d1, d2] => { results := [.lit (.bool false)], args := [d1, d2] }
  | _ => none }
def SumsWholeWrongFalsely : Prop := sumsWholeRow.holds Try.pinned (OpenSpec.ofChange sumsWholeWrong)

/- THE SECOND FORM. 'bulk': how many values and letters a reading holds, each counted each time it is reached (what is shared counts as often as it is met; a slice's spare places count too). A statement '..UptoSaid' is the law's where the arguments, and the package variables that the reading takes, are together of bulk at most 1048576: NARROWER than '..Said'. Prove '..Said' where nothing that the law and all that it calls make is longer than what came in: it says more and counts as full. Else prove '..UptoSaid'. A law counts once. -/
mutual
def uptoBulk {H : Type} : DataW H → Nat
  | .lit (.string bytes) => bytes.length + 1
  | .lit _ => 1
  | .nil => 1
  | .ptr d => uptoBulk d + 1
  | .slice elems spare => uptoBulkAll elems + uptoBulkAll spare + 1
  | .agg parts => uptoBulkAll parts + 1
  | .iface _ d => uptoBulk d + 1
  | .map entries => uptoBulkEntries entries + 1
  | .held _ => 1
def uptoBulkAll {H : Type} : List (DataW H) → Nat
  | [] => 0
  | d :: r => uptoBulk d + uptoBulkAll r
def uptoBulkEntries {H : Type} : List (Lit × DataW H) → Nat
  | [] => 0
  | x :: r => uptoBulkEntry x + uptoBulkEntries r
def uptoBulkEntry {H : Type} : Lit × DataW H → Nat
  | (.string bytes, d) => bytes.length + uptoBulk d + 1
  | (_, d) => uptoBulk d + 1
 end
def uptoSmall : (H : Type) → List (DataW H) → Bool := fun _ ds => decide (uptoBulkAll ds ≤ 1048576)
def OpenSpec.upto (s : _root_.Go.ChangeSpec) : _root_.Go.OpenSpec := { _root_.Go.OpenSpec.ofChange s with cond := some uptoSmall }

/-- 'moneyerlaw01.SumsCovers', WHERE WHAT IT READS IS OF BULK AT MOST 1048576: true; the input reads as it did. -/
def sumsCoversUptoRow : OpenClaim := { program := "ytfiaallnnpcbmaa", sum := "92f196fba3a4ed558cb98d04286c1bf25ea0be02ba96fdf6df6fd82c4dd8e1ae", func := "moneyer/moneyerlaw01.SumsCovers", spec := "sumsCovers", apart := false, narrowed := true }
def SumsCoversUptoSaid : Prop := sumsCoversUptoRow.holds Try.pinned (OpenSpec.upto sumsCoversSpec)

/-- 'moneyerlaw01.SumsMuls', WHERE WHAT IT READS IS OF BULK AT MOST 1048576: true; the input reads as it did. -/
def sumsMulsUptoRow : OpenClaim := { program := "ytfiaallnnpcbmaa", sum := "92f196fba3a4ed558cb98d04286c1bf25ea0be02ba96fdf6df6fd82c4dd8e1ae", func := "moneyer/moneyerlaw01.SumsMuls", spec := "sumsMuls", apart := false, narrowed := true }
def SumsMulsUptoSaid : Prop := sumsMulsUptoRow.holds Try.pinned (OpenSpec.upto sumsMulsSpec)

/-- 'moneyerlaw01.SumsTotals', WHERE WHAT IT READS IS OF BULK AT MOST 1048576: true; the input reads as it did. -/
def sumsTotalsUptoRow : OpenClaim := { program := "ytfiaallnnpcbmaa", sum := "92f196fba3a4ed558cb98d04286c1bf25ea0be02ba96fdf6df6fd82c4dd8e1ae", func := "moneyer/moneyerlaw01.SumsTotals", spec := "sumsTotals", inPlace := ["math/bits.Add64"], apart := false, narrowed := true }
def SumsTotalsUptoSaid : Prop := sumsTotalsUptoRow.holds Try.pinned (OpenSpec.upto sumsTotalsSpec)

/-- 'moneyerlaw01.SumsOrder', WHERE WHAT IT READS IS OF BULK AT MOST 1048576: true; the input reads as it did. -/
def sumsOrderUptoRow : OpenClaim := { program := "ytfiaallnnpcbmaa", sum := "92f196fba3a4ed558cb98d04286c1bf25ea0be02ba96fdf6df6fd82c4dd8e1ae", func := "moneyer/moneyerlaw01.SumsOrder", spec := "sumsOrder", inPlace := ["math/bits.Add64"], apart := false, narrowed := true }
def SumsOrderUptoSaid : Prop := sumsOrderUptoRow.holds Try.pinned (OpenSpec.upto sumsOrderSpec)

/-- 'moneyerlaw01.SumsAdds', WHERE WHAT IT READS IS OF BULK AT MOST 1048576: true; the input reads as it did. -/
def sumsAddsUptoRow : OpenClaim := { program := "ytfiaallnnpcbmaa", sum := "92f196fba3a4ed558cb98d04286c1bf25ea0be02ba96fdf6df6fd82c4dd8e1ae", func := "moneyer/moneyerlaw01.SumsAdds", spec := "sumsAdds", inPlace := ["math/bits.Add64", "math/bits.Sub64"], apart := false, narrowed := true }
def SumsAddsUptoSaid : Prop := sumsAddsUptoRow.holds Try.pinned (OpenSpec.upto sumsAddsSpec)

/-- 'moneyerlaw01.SumsParts', WHERE WHAT IT READS IS OF BULK AT MOST 1048576: true; the input reads as it did. -/
def sumsPartsUptoRow : OpenClaim := { program := "ytfiaallnnpcbmaa", sum := "92f196fba3a4ed558cb98d04286c1bf25ea0be02ba96fdf6df6fd82c4dd8e1ae", func := "moneyer/moneyerlaw01.SumsParts", spec := "sumsParts", inPlace := ["math/bits.Add64"], named := ["math/bits.divideError", "math/bits.overflowError"], apart := false, narrowed := true }
def SumsPartsUptoSaid : Prop := sumsPartsUptoRow.holds Try.pinned (OpenSpec.upto sumsPartsSpec)

/-- 'moneyerlaw01.SumsTurns', WHERE WHAT IT READS IS OF BULK AT MOST 1048576: true; the input reads as it did. -/
def sumsTurnsUptoRow : OpenClaim := { program := "ytfiaallnnpcbmaa", sum := "92f196fba3a4ed558cb98d04286c1bf25ea0be02ba96fdf6df6fd82c4dd8e1ae", func := "moneyer/moneyerlaw01.SumsTurns", spec := "sumsTurns", inPlace := ["math/bits.Add64"], named := ["math/bits.divideError", "math/bits.overflowError"], apart := false, narrowed := true }
def SumsTurnsUptoSaid : Prop := sumsTurnsUptoRow.holds Try.pinned (OpenSpec.upto sumsTurnsSpec)

/-- 'moneyerlaw01.SumsBack', WHERE WHAT IT READS IS OF BULK AT MOST 1048576: true; the input reads as it did. -/
def sumsBackUptoRow : OpenClaim := { program := "ytfiaallnnpcbmaa", sum := "92f196fba3a4ed558cb98d04286c1bf25ea0be02ba96fdf6df6fd82c4dd8e1ae", func := "moneyer/moneyerlaw01.SumsBack", spec := "sumsBack", inPlace := ["math/bits.Add64", "math/bits.Sub64"], named := ["math/bits.divideError", "math/bits.overflowError"], apart := false, narrowed := true }
def SumsBackUptoSaid : Prop := sumsBackUptoRow.holds Try.pinned (OpenSpec.upto sumsBackSpec)

/-- 'moneyerlaw01.SumsShares', WHERE WHAT IT READS IS OF BULK AT MOST 1048576: true; the input reads as it did. -/
def sumsSharesUptoRow : OpenClaim := { program := "ytfiaallnnpcbmaa", sum := "92f196fba3a4ed558cb98d04286c1bf25ea0be02ba96fdf6df6fd82c4dd8e1ae", func := "moneyer/moneyerlaw01.SumsShares", spec := "sumsShares", inPlace := ["math/bits.Add64"], named := ["math/bits.divideError", "math/bits.overflowError"], apart := false, narrowed := true }
def SumsSharesUptoSaid : Prop := sumsSharesUptoRow.holds Try.pinned (OpenSpec.upto sumsSharesSpec)

/-- 'moneyerlaw01.SumsWhole', WHERE WHAT IT READS IS OF BULK AT MOST 1048576: true; the input reads as it did. -/
def sumsWholeUptoRow : OpenClaim := { program := "ytfiaallnnpcbmaa", sum := "92f196fba3a4ed558cb98d04286c1bf25ea0be02ba96fdf6df6fd82c4dd8e1ae", func := "moneyer/moneyerlaw01.SumsWhole", spec := "sumsWhole", inPlace := ["math/bits.Add64"], named := ["math/bits.divideError", "math/bits.overflowError"], apart := false, narrowed := true }
def SumsWholeUptoSaid : Prop := sumsWholeUptoRow.holds Try.pinned (OpenSpec.upto sumsWholeSpec)

end Rows
end Go.Proofs.Ytfiaallnnpcbmaa
