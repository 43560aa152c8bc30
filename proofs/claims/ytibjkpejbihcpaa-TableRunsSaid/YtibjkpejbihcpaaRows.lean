/-
  No cell of these rows narrows 'for every input' (looked for: loops, veiled, ifaces, maps, wideKeys, modest, calm, conditions, laid).
  DERIVED. THE GIVEN ROWS OF THIS SEAT. 5 by the template 'for every input the law returns true; each argument reads behind the call as it read before'; 0 by the template 'total and deterministic' (their statements: YtibjkpejbihcpaaTotals.lean).
  GIVEN WITH THE SEED: the statements are not yours to turn. If you find one false, say at which input.
  Laid BY PROGRAM, IN A SANDBOX (cutbox-rows.mjs): the forced cells as the released guide's own fill.sh prints them over the translation 26cc0979f8969c18… (all of the seat's roots in one cut). By AI agents, Wed Nov 11 2026. No macro, syntax, notation, axiom, sorry.
-/
import Derived.Test.YtibjkpejbihcpaaChecked
import GoSem.Claim
import GoSem.ClaimJoined
import GoSem.ClaimMapViews
import Derived.JoinedTies
import Derived.KernelRfl
namespace Go.Proofs.Ytibjkpejbihcpaa
/- THE CELL 'sum', in the pinned program and in every row, IS THE sha256 OF THE DUMP (.gsa) THAT YtibjkpejbihcpaaProg.lean LOADS. Nothing in Lean hashes anything: it is a label: what it is worth is what the hold of that sum in a sandbox is worth. -/
noncomputable def Try.pinned : Pinned := { name := "ytibjkpejbihcpaa", sum := "26cc0979f8969c18efba5bf855d535e5dd659ef59a9733780c2deb63efcd800b", checked := Try.checked }
namespace Rows
def none {H : Type} : Left H := { results := [], args := [] }

/-- 'moneyerlaw20.TableSums': WHATEVER THE INPUT: true; the input reads as it did. -/
def tableSumsSpec : ChangeSpec := { name := "tableSums", fn := fun _ => fun
  | [d1, d2, d3] => { results := [.lit (.bool true)], args := [d1, d2, d3] }
  | _ => none }
def tableSumsRow : OpenClaim := { program := "ytibjkpejbihcpaa", sum := "26cc0979f8969c18efba5bf855d535e5dd659ef59a9733780c2deb63efcd800b", func := "moneyer/moneyerlaw20.TableSums", spec := "tableSums", inPlace := ["math/bits.Add64"], unfollowed := true, recurses := true, plainKeys := false, apart := false }
def TableSumsSaid : Prop := tableSumsRow.holds Try.pinned (OpenSpec.ofChange tableSumsSpec)

/-- ITS FALSE NEIGHBOUR: 'it returns false'. Refute it at one input. -/
def tableSumsWrong : ChangeSpec := { name := "tableSums", fn := fun _ => fun
  | [d1, d2, d3] => { results := [.lit (.bool false)], args := [d1, d2, d3] }
  | _ => none }
def TableSumsWrongFalsely : Prop := tableSumsRow.holds Try.pinned (OpenSpec.ofChange tableSumsWrong)

/-- 'moneyerlaw20.TableUndo': WHATEVER THE INPUT: true; the input reads as it did. -/
def tableUndoSpec : ChangeSpec := { name := "tableUndo", fn := fun _ => fun
  | [d1, d2, d3] => { results := [.lit (.bool true)], args := [d1, d2, d3] }
  | _ => none }
def tableUndoRow : OpenClaim := { program := "ytibjkpejbihcpaa", sum := "26cc0979f8969c18efba5bf855d535e5dd659ef59a9733780c2deb63efcd800b", func := "moneyer/moneyerlaw20.TableUndo", spec := "tableUndo", inPlace := ["math/bits.Add64", "math/bits.Sub64"], unfollowed := true, recurses := true, plainKeys := false, apart := false }
def TableUndoSaid : Prop := tableUndoRow.holds Try.pinned (OpenSpec.ofChange tableUndoSpec)

/-- ITS FALSE NEIGHBOUR: 'it returns false'. Refute it at one input. -/
def tableUndoWrong : ChangeSpec := { name := "tableUndo", fn := fun _ => fun
  | [d1, d2, d3] => { results := [.lit (.bool false)], args := [d1, d2, d3] }
  | _ => none }
def TableUndoWrongFalsely : Prop := tableUndoRow.holds Try.pinned (OpenSpec.ofChange tableUndoWrong)

/-- 'moneyerlaw20.TableWays': WHATEVER THE INPUT: true; the input reads as it did. -/
def tableWaysSpec : ChangeSpec := { name := "tableWays", fn := fun _ => fun
  | [d1, d2, d3] => { results := [.lit (.bool true)], args := [d1, d2, d3] }
  | _ => none }
def tableWaysRow : OpenClaim := { program := "ytibjkpejbihcpaa", sum := "26cc0979f8969c18efba5bf855d535e5dd659ef59a9733780c2deb63efcd800b", func := "moneyer/moneyerlaw20.TableWays", spec := "tableWays", inPlace := ["math/bits.Add64"], unfollowed := true, recurses := true, named := ["math/bits.divideError", "math/bits.overflowError"], plainKeys := false, apart := false }
def TableWaysSaid : Prop := tableWaysRow.holds Try.pinned (OpenSpec.ofChange tableWaysSpec)

/-- ITS FALSE NEIGHBOUR: 'it returns false'. Refute it at one input. -/
def tableWaysWrong : ChangeSpec := { name := "tableWays", fn := fun _ => fun
  | [d1, d2, d3] => { results := [.lit (.bool false)], args := [d1, d2, d3] }
  | _ => none }
def TableWaysWrongFalsely : Prop := tableWaysRow.holds Try.pinned (OpenSpec.ofChange tableWaysWrong)

/-- 'moneyerlaw20.TableFull': WHATEVER THE INPUT: true; the input reads as it did. -/
def tableFullSpec : ChangeSpec := { name := "tableFull", fn := fun _ => fun
  | [d] => { results := [.lit (.bool true)], args := [d] }
  | _ => none }
def tableFullRow : OpenClaim := { program := "ytibjkpejbihcpaa", sum := "26cc0979f8969c18efba5bf855d535e5dd659ef59a9733780c2deb63efcd800b", func := "moneyer/moneyerlaw20.TableFull", spec := "tableFull", inPlace := ["math/bits.Add64", "internal/bytealg.Compare"], unfollowed := true, recurses := true, plainKeys := false, apart := false }
def TableFullSaid : Prop := tableFullRow.holds Try.pinned (OpenSpec.ofChange tableFullSpec)

/-- ITS FALSE NEIGHBOUR: 'it returns false'. Refute it at one input. -/
def tableFullWrong : ChangeSpec := { name := "tableFull", fn := fun _ => fun
  | [d] => { results := [.lit (.bool false)], args := [d] }
  | _ => none }
def TableFullWrongFalsely : Prop := tableFullRow.holds Try.pinned (OpenSpec.ofChange tableFullWrong)

/-- 'moneyerlaw20.TableRuns': WHATEVER THE INPUT: true; the input reads as it did. -/
def tableRunsSpec : ChangeSpec := { name := "tableRuns", fn := fun _ => fun
  | [d] => { results := [.lit (.bool true)], args := [d] }
  | _ => none }
def tableRunsRow : OpenClaim := { program := "ytibjkpejbihcpaa", sum := "26cc0979f8969c18efba5bf855d535e5dd659ef59a9733780c2deb63efcd800b", func := "moneyer/moneyerlaw20.TableRuns", spec := "tableRuns", inPlace := ["math/bits.Add64", "math/bits.Sub64", "internal/bytealg.Compare"], unfollowed := true, recurses := true, plainKeys := false, apart := false }
def TableRunsSaid : Prop := tableRunsRow.holds Try.pinned (OpenSpec.ofChange tableRunsSpec)

/-- ITS FALSE NEIGHBOUR: 'it returns false'. Refute it at one input. -/
def tableRunsWrong : ChangeSpec := { name := "tableRuns", fn := fun _ => fun
  | [d] => { results := [.lit (.bool false)], args := [d] }
  | _ => none }
def TableRunsWrongFalsely : Prop := tableRunsRow.holds Try.pinned (OpenSpec.ofChange tableRunsWrong)

/- THE SECOND FORM. 'bulk': how many values and letters a reading holds, each counted each time it is reached (what is shared counts as often as it is met; a slice's spare places count too). A statement '..UptoSaid' is the law's where the arguments, and the package variables that the reading takes, are together of bulk at most 1048576: NARROWER than '..Said'. Prove '..Said' where nothing that the law and all that it calls make is longer than what came in: it says more and counts as full. Else prove '..UptoSaid'. A law counts once. -/
mutual
def uptoBulk {H : Type} : DataW H → Nat
  | .lit (.string bytes) => bytes.length + 1
  | .lit _ => 1
  | .nil => 1
  | .ptr d => uptoBulk d + 1
  | .slice elems spare => uptoBulkAll elems + uptoBulkAll spare + 1
  | .agg parts => uptoBulkAll parts + 1
  | .iface _ d => uptoBulk d + 1
  | .map entries => uptoBulkEntries entries + 1
  | .held _ => 1
def uptoBulkAll {H : Type} : List (DataW H) → Nat
  | [] => 0
  | d :: r => uptoBulk d + uptoBulkAll r
def uptoBulkEntries {H : Type} : List (Lit × DataW H) → Nat
  | [] => 0
  | x :: r => uptoBulkEntry x + uptoBulkEntries r
def uptoBulkEntry {H : Type} : Lit × DataW H → Nat
  | (.string bytes, d) => bytes.length + uptoBulk d + 1
  | (_, d) => uptoBulk d + 1
 end
def uptoSmall : (H : Type) → List (DataW H) → Bool := fun _ ds => decide (uptoBulkAll ds ≤ 1048576)
def OpenSpec.upto (s : _root_.Go.ChangeSpec) : _root_.Go.OpenSpec := { _root_.Go.OpenSpec.ofChange s with cond := some uptoSmall }

/-- 'moneyerlaw20.TableSums', WHERE WHAT IT READS IS OF BULK AT MOST 1048576: true; the input reads as it did. -/
def tableSumsUptoRow : OpenClaim := { program := "ytibjkpejbihcpaa", sum := "26cc0979f8969c18efba5bf855d535e5dd659ef59a9733780c2deb63efcd800b", func := "moneyer/moneyerlaw20.TableSums", spec := "tableSums", inPlace := ["math/bits.Add64"], unfollowed := true, recurses := true, plainKeys := false, apart := false, narrowed := true }
def TableSumsUptoSaid : Prop := tableSumsUptoRow.holds Try.pinned (OpenSpec.upto tableSumsSpec)

/-- 'moneyerlaw20.TableUndo', WHERE WHAT IT READS IS OF BULK AT MOST 1048576: true; the input reads as it did. -/
def tableUndoUptoRow : OpenClaim := { program := "ytibjkpejbihcpaa", sum := "26cc0979f8969c18efba5bf855d535e5dd659ef59a9733780c2deb63efcd800b", func := "moneyer/moneyerlaw20.TableUndo", spec := "tableUndo", inPlace := ["math/bits.Add64", "math/bits.Sub64"], unfollowed := true, recurses := true, plainKeys := false, apart := false, narrowed := true }
def TableUndoUptoSaid : Prop := tableUndoUptoRow.holds Try.pinned (OpenSpec.upto tableUndoSpec)

/-- 'moneyerlaw20.TableWays', WHERE WHAT IT READS IS OF BULK AT MOST 1048576: true; the input reads as it did. -/
def tableWaysUptoRow : OpenClaim := { program := "ytibjkpejbihcpaa", sum := "26cc0979f8969c18efba5bf855d535e5dd659ef59a9733780c2deb63efcd800b", func := "moneyer/moneyerlaw20.TableWays", spec := "tableWays", inPlace := ["math/bits.Add64"], unfollowed := true, recurses := true, named := ["math/bits.divideError", "math/bits.overflowError"], plainKeys := false, apart := false, narrowed := true }
def TableWaysUptoSaid : Prop := tableWaysUptoRow.holds Try.pinned (OpenSpec.upto tableWaysSpec)

/-- 'moneyerlaw20.TableFull', WHERE WHAT IT READS IS OF BULK AT MOST 1048576: true; the input reads as it did. -/
def tableFullUptoRow : OpenClaim := { program := "ytibjkpejbihcpaa", sum := "26cc0979f8969c18efba5bf855d535e5dd659ef59a9733780c2deb63efcd800b", func := "moneyer/moneyerlaw20.TableFull", spec := "tableFull", inPlace := ["math/bits.Add64", "internal/bytealg.Compare"], unfollowed := true, recurses := true, plainKeys := false, apart := false, narrowed := true }
def TableFullUptoSaid : Prop := tableFullUptoRow.holds Try.pinned (OpenSpec.upto tableFullSpec)

/-- 'moneyerlaw20.TableRuns', WHERE WHAT IT READS IS OF BULK AT MOST 1048576: true; the input reads as it did. -/
def tableRunsUptoRow : OpenClaim := { program := "ytibjkpejbihcpaa", sum := "26cc0979f8969c18efba5bf855d535e5dd659ef59a9733780c2deb63efcd800b", func := "moneyer/moneyerlaw20.TableRuns", spec := "tableRuns", inPlace := ["math/bits.Add64", "math/bits.Sub64", "internal/bytealg.Compare"], unfollowed := true, recurses := true, plainKeys := false, apart := false, narrowed := true }
def TableRunsUptoSaid : Prop := tableRunsUptoRow.holds Try.pinned (OpenSpec.upto tableRunsSpec)

end Rows
end Go.Proofs.Ytibjkpejbihcpaa
