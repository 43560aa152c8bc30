/-
  No cell of these rows narrows 'for every input' (looked for: loops, veiled, ifaces, maps, wideKeys, modest, calm, conditions, laid).
  DERIVED. THE GIVEN ROWS OF THIS SEAT. 6 by the template 'for every input the law returns true; each argument reads behind the call as it read before'; 0 by the template 'total and deterministic' (their statements: YtjnbikdapjfcgaaTotals.lean).
  GIVEN WITH THE SEED: the statements are not yours to turn. If you find one false, say at which input.
  Laid BY PROGRAM, IN A SANDBOX (cutbox-rows.mjs): the forced cells as the released guide's own fill.sh prints them over the translation 3df321f657830095… (all of the seat's roots in one cut). By AI agents, Wed Nov 11 2026. No macro, syntax, notation, axiom, sorry.
-/
import Derived.Test.YtjnbikdapjfcgaaChecked
import GoSem.Claim
import GoSem.ClaimJoined
import GoSem.ClaimMapViews
import Derived.JoinedTies
import Derived.KernelRfl
namespace Go.Proofs.Ytjnbikdapjfcgaa
/- THE CELL 'sum', in the pinned program and in every row, IS THE sha256 OF THE DUMP (.gsa) THAT YtjnbikdapjfcgaaProg.lean LOADS. Nothing in Lean hashes anything: it is a label: what it is worth is what the hold of that sum in a sandbox is worth. -/
noncomputable def Try.pinned : Pinned := { name := "ytjnbikdapjfcgaa", sum := "3df321f657830095b900fe86d8ee0d627a1b7dd8672a8ba6e24a654a94600517", checked := Try.checked }
namespace Rows
def none {H : Type} : Left H := { results := [], args := [] }

/-- 'moneyerlaw19.QuotePays': WHATEVER THE INPUT: true; the input reads as it did. -/
def quotePaysSpec : ChangeSpec := { name := "quotePays", fn := fun _ => fun
  | [d1, d2, d3] => { results := [.lit (.bool true)], args := [d1, d2, d3] }
  | _ => none }
def quotePaysRow : OpenClaim := { program := "ytjnbikdapjfcgaa", sum := "3df321f657830095b900fe86d8ee0d627a1b7dd8672a8ba6e24a654a94600517", func := "moneyer/moneyerlaw19.QuotePays", spec := "quotePays", inPlace := ["math/bits.Add64"], named := ["math/bits.divideError", "math/bits.overflowError"], apart := false }
def QuotePaysSaid : Prop := quotePaysRow.holds Try.pinned (OpenSpec.ofChange quotePaysSpec)

/-- ITS FALSE NEIGHBOUR: 'it returns false'. Refute it at one input. -/
def quotePaysWrong : ChangeSpec := { name := "quotePays", fn := fun _ => fun
  | [d1, d2, d3] => { results := [.lit (.bool false)], args := [d1, d2, d3] }
  | _ => none }
def QuotePaysWrongFalsely : Prop := quotePaysRow.holds Try.pinned (OpenSpec.ofChange quotePaysWrong)

/-- 'moneyerlaw19.QuoteBounds': WHATEVER THE INPUT: true; the input reads as it did. -/
def quoteBoundsSpec : ChangeSpec := { name := "quoteBounds", fn := fun _ => fun
  | [d1, d2] => { results := [.lit (.bool true)], args := [d1, d2] }
  | _ => none }
def quoteBoundsRow : OpenClaim := { program := "ytjnbikdapjfcgaa", sum := "3df321f657830095b900fe86d8ee0d627a1b7dd8672a8ba6e24a654a94600517", func := "moneyer/moneyerlaw19.QuoteBounds", spec := "quoteBounds", inPlace := ["math/bits.Add64"], named := ["math/bits.divideError", "math/bits.overflowError"], apart := false }
def QuoteBoundsSaid : Prop := quoteBoundsRow.holds Try.pinned (OpenSpec.ofChange quoteBoundsSpec)

/-- ITS FALSE NEIGHBOUR: 'it returns false'. Refute it at one input. -/
def quoteBoundsWrong : ChangeSpec := { name := "quoteBounds", fn := fun _ => fun
  | [d1, d2] => { results := [.lit (.bool false)], args := [d1, d2] }
  | _ => none }
def QuoteBoundsWrongFalsely : Prop := quoteBoundsRow.holds Try.pinned (OpenSpec.ofChange quoteBoundsWrong)

/-- 'moneyerlaw19.QuoteTurns': WHATEVER THE INPUT: true; the input reads as it did. -/
def quoteTurnsSpec : ChangeSpec := { name := "quoteTurns", fn := fun _ => fun
  | [d1, d2, d3] => { results := [.lit (.bool true)], args := [d1, d2, d3] }
  | _ => none }
def quoteTurnsRow : OpenClaim := { program := "ytjnbikdapjfcgaa", sum := "3df321f657830095b900fe86d8ee0d627a1b7dd8672a8ba6e24a654a94600517", func := "moneyer/moneyerlaw19.QuoteTurns", spec := "quoteTurns", inPlace := ["math/bits.Add64"], named := ["math/bits.divideError", "math/bits.overflowError"], apart := false }
def QuoteTurnsSaid : Prop := quoteTurnsRow.holds Try.pinned (OpenSpec.ofChange quoteTurnsSpec)

/-- ITS FALSE NEIGHBOUR: 'it returns false'. Refute it at one input. -/
def quoteTurnsWrong : ChangeSpec := { name := "quoteTurns", fn := fun _ => fun
  | [d1, d2, d3] => { results := [.lit (.bool false)], args := [d1, d2, d3] }
  | _ => none }
def QuoteTurnsWrongFalsely : Prop := quoteTurnsRow.holds Try.pinned (OpenSpec.ofChange quoteTurnsWrong)

/-- 'moneyerlaw19.QuoteRound': WHATEVER THE INPUT: true; the input reads as it did. -/
def quoteRoundSpec : ChangeSpec := { name := "quoteRound", fn := fun _ => fun
  | [d1, d2] => { results := [.lit (.bool true)], args := [d1, d2] }
  | _ => none }
def quoteRoundRow : OpenClaim := { program := "ytjnbikdapjfcgaa", sum := "3df321f657830095b900fe86d8ee0d627a1b7dd8672a8ba6e24a654a94600517", func := "moneyer/moneyerlaw19.QuoteRound", spec := "quoteRound", inPlace := ["math/bits.Add64"], named := ["math/bits.divideError", "math/bits.overflowError"], apart := false }
def QuoteRoundSaid : Prop := quoteRoundRow.holds Try.pinned (OpenSpec.ofChange quoteRoundSpec)

/-- ITS FALSE NEIGHBOUR: 'it returns false'. Refute it at one input. -/
def quoteRoundWrong : ChangeSpec := { name := "quoteRound", fn := fun _ => fun
  | [d1, d2] => { results := [.lit (.bool false)], args := [d1, d2] }
  | _ => none }
def QuoteRoundWrongFalsely : Prop := quoteRoundRow.holds Try.pinned (OpenSpec.ofChange quoteRoundWrong)

/-- 'moneyerlaw19.QuoteMore': WHATEVER THE INPUT: true; the input reads as it did. -/
def quoteMoreSpec : ChangeSpec := { name := "quoteMore", fn := fun _ => fun
  | [d1, d2, d3, d4, d5] => { results := [.lit (.bool true)], args := [d1, d2, d3, d4, d5] }
  | _ => none }
def quoteMoreRow : OpenClaim := { program := "ytjnbikdapjfcgaa", sum := "3df321f657830095b900fe86d8ee0d627a1b7dd8672a8ba6e24a654a94600517", func := "moneyer/moneyerlaw19.QuoteMore", spec := "quoteMore", inPlace := ["math/bits.Add64"], named := ["math/bits.divideError", "math/bits.overflowError"], apart := false }
def QuoteMoreSaid : Prop := quoteMoreRow.holds Try.pinned (OpenSpec.ofChange quoteMoreSpec)

/-- ITS FALSE NEIGHBOUR: 'it returns false'. Refute it at one input. -/
def quoteMoreWrong : ChangeSpec := { name := "quoteMore", fn := fun _ => fun
  | [d1, d2, d3, d4, d5] => { results := [.lit (.bool false)], args := [d1, d2, d3, d4, d5] }
  | _ => none }
def QuoteMoreWrongFalsely : Prop := quoteMoreRow.holds Try.pinned (OpenSpec.ofChange quoteMoreWrong)

/-- 'moneyerlaw19.QuoteOrders': WHATEVER THE INPUT: true; the input reads as it did. -/
def quoteOrdersSpec : ChangeSpec := { name := "quoteOrders", fn := fun _ => fun
  | [d1, d2] => { results := [.lit (.bool true)], args := [d1, d2] }
  | _ => none }
def quoteOrdersRow : OpenClaim := { program := "ytjnbikdapjfcgaa", sum := "3df321f657830095b900fe86d8ee0d627a1b7dd8672a8ba6e24a654a94600517", func := "moneyer/moneyerlaw19.QuoteOrders", spec := "quoteOrders", inPlace := ["math/bits.Add64"], named := ["math/bits.divideError", "math/bits.overflowError"], apart := false }
def QuoteOrdersSaid : Prop := quoteOrdersRow.holds Try.pinned (OpenSpec.ofChange quoteOrdersSpec)

/-- ITS FALSE NEIGHBOUR: 'it returns false'. Refute it at one input. -/
def quoteOrdersWrong : ChangeSpec := { name := "quoteOrders", fn := fun _ => fun
  | [d1, d2] => { results := [.lit (.bool false)], args := [d1, d2] }
  | _ => none }
def QuoteOrdersWrongFalsely : Prop := quoteOrdersRow.holds Try.pinned (OpenSpec.ofChange quoteOrdersWrong)

/- THE SECOND FORM. 'bulk': how many values and letters a reading holds, each counted each time it is reached (what is shared counts as often as it is met; a slice's spare places count too). A statement '..UptoSaid' is the law's where the arguments, and the package variables that the reading takes, are together of bulk at most 1048576: NARROWER than '..Said'. Prove '..Said' where nothing that the law and all that it calls make is longer than what came in: it says more and counts as full. Else prove '..UptoSaid'. A law counts once. -/
mutual
def uptoBulk {H : Type} : DataW H → Nat
  | .lit (.string bytes) => bytes.length + 1
  | .lit _ => 1
  | .nil => 1
  | .ptr d => uptoBulk d + 1
  | .slice elems spare => uptoBulkAll elems + uptoBulkAll spare + 1
  | .agg parts => uptoBulkAll parts + 1
  | .iface _ d => uptoBulk d + 1
  | .map entries => uptoBulkEntries entries + 1
  | .held _ => 1
def uptoBulkAll {H : Type} : List (DataW H) → Nat
  | [] => 0
  | d :: r => uptoBulk d + uptoBulkAll r
def uptoBulkEntries {H : Type} : List (Lit × DataW H) → Nat
  | [] => 0
  | x :: r => uptoBulkEntry x + uptoBulkEntries r
def uptoBulkEntry {H : Type} : Lit × DataW H → Nat
  | (.string bytes, d) => bytes.length + uptoBulk d + 1
  | (_, d) => uptoBulk d + 1
 end
def uptoSmall : (H : Type) → List (DataW H) → Bool := fun _ ds => decide (uptoBulkAll ds ≤ 1048576)
def OpenSpec.upto (s : _root_.Go.ChangeSpec) : _root_.Go.OpenSpec := { _root_.Go.OpenSpec.ofChange s with cond := some uptoSmall }

/-- 'moneyerlaw19.QuotePays', WHERE WHAT IT READS IS OF BULK AT MOST 1048576: true; the input reads as it did. -/
def quotePaysUptoRow : OpenClaim := { program := "ytjnbikdapjfcgaa", sum := "3df321f657830095b900fe86d8ee0d627a1b7dd8672a8ba6e24a654a94600517", func := "moneyer/moneyerlaw19.QuotePays", spec := "quotePays", inPlace := ["math/bits.Add64"], named := ["math/bits.divideError", "math/bits.overflowError"], apart := false, narrowed := true }
def QuotePaysUptoSaid : Prop := quotePaysUptoRow.holds Try.pinned (OpenSpec.upto quotePaysSpec)

/-- 'moneyerlaw19.QuoteBounds', WHERE WHAT IT READS IS OF BULK AT MOST 1048576: true; the input reads as it did. -/
def quoteBoundsUptoRow : OpenClaim := { program := "ytjnbikdapjfcgaa", sum := "3df321f657830095b900fe86d8ee0d627a1b7dd8672a8ba6e24a654a94600517", func := "moneyer/moneyerlaw19.QuoteBounds", spec := "quoteBounds", inPlace := ["math/bits.Add64"], named := ["math/bits.divideError", "math/bits.overflowError"], apart := false, narrowed := true }
def QuoteBoundsUptoSaid : Prop := quoteBoundsUptoRow.holds Try.pinned (OpenSpec.upto quoteBoundsSpec)

/-- 'moneyerlaw19.QuoteTurns', WHERE WHAT IT READS IS OF BULK AT MOST 1048576: true; the input reads as it did. -/
def quoteTurnsUptoRow : OpenClaim := { program := "ytjnbikdapjfcgaa", sum := "3df321f657830095b900fe86d8ee0d627a1b7dd8672a8ba6e24a654a94600517", func := "moneyer/moneyerlaw19.QuoteTurns", spec := "quoteTurns", inPlace := ["math/bits.Add64"], named := ["math/bits.divideError", "math/bits.overflowError"], apart := false, narrowed := true }
def QuoteTurnsUptoSaid : Prop := quoteTurnsUptoRow.holds Try.pinned (OpenSpec.upto quoteTurnsSpec)

/-- 'moneyerlaw19.QuoteRound', WHERE WHAT IT READS IS OF BULK AT MOST 1048576: true; the input reads as it did. -/
def quoteRoundUptoRow : OpenClaim := { program := "ytjnbikdapjfcgaa", sum := "3df321f657830095b900fe86d8ee0d627a1b7dd8672a8ba6e24a654a94600517", func := "moneyer/moneyerlaw19.QuoteRound", spec := "quoteRound", inPlace := ["math/bits.Add64"], named := ["math/bits.divideError", "math/bits.overflowError"], apart := false, narrowed := true }
def QuoteRoundUptoSaid : Prop := quoteRoundUptoRow.holds Try.pinned (OpenSpec.upto quoteRoundSpec)

/-- 'moneyerlaw19.QuoteMore', WHERE WHAT IT READS IS OF BULK AT MOST 1048576: true; the input reads as it did. -/
def quoteMoreUptoRow : OpenClaim := { program := "ytjnbikdapjfcgaa", sum := "3df321f657830095b900fe86d8ee0d627a1b7dd8672a8ba6e24a654a94600517", func := "moneyer/moneyerlaw19.QuoteMore", spec := "quoteMore", inPlace := ["math/bits.Add64"], named := ["math/bits.divideError", "math/bits.overflowError"], apart := false, narrowed := true }
def QuoteMoreUptoSaid : Prop := quoteMoreUptoRow.holds Try.pinned (OpenSpec.upto quoteMoreSpec)

/-- 'moneyerlaw19.QuoteOrders', WHERE WHAT IT READS IS OF BULK AT MOST 1048576: true; the input reads as it did. -/
def quoteOrdersUptoRow : OpenClaim := { program := "ytjnbikdapjfcgaa", sum := "3df321f657830095b900fe86d8ee0d627a1b7dd8672a8ba6e24a654a94600517", func := "moneyer/moneyerlaw19.QuoteOrders", spec := "quoteOrders", inPlace := ["math/bits.Add64"], named := ["math/bits.divideError", "math/bits.overflowError"], apart := false, narrowed := true }
def QuoteOrdersUptoSaid : Prop := quoteOrdersUptoRow.holds Try.pinned (OpenSpec.upto quoteOrdersSpec)

end Rows
end Go.Proofs.Ytjnbikdapjfcgaa
