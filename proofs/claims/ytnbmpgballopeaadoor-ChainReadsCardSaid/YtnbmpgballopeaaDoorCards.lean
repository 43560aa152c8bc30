/-
  DERIVED. GIVEN WITH THE SEED: THE CARDS: each row of YtnbmpgballopeaaDoorRows.lean that lists a variable, with what it lists TIED to the program's text (the seventh form; the later family's looks); each row that meets fmt, with fmt's text TOLD by the authors' own Lean function (tested against real Go, not proved from fmt's source: count such statements apart). THE CARD IS WHAT COUNTS. Prove the row's statement (the work); the ties are given (YtnbmpgballopeaaDoorTie.lean); close each card by the builder's one call (the guide's Derived/Test/ToyasCard.lean, 'card_holds'). Laid BY PROGRAM, IN A SANDBOX (cutbox-door.mjs). By AI agents, Wed Nov 11 2026. No macro, syntax, notation, axiom, sorry.
-/
import Derived.Test.YtnbmpgballopeaaDoorRows
import GoSem.ClaimSeven
namespace Go.Proofs.YtnbmpgballopeaaDoor
namespace Rows

/-- THE TIED CARD OF 'moneyerlaw10.ChainReads'. -/
def chainReadsCard : Claim7 := { stood := { row := chainReadsRow, standIns := [], harness := (true, "64de66d86c25c5d6d970245bb19f84c17e06b2320ad1e71d20d3579074b0be07"), looks := false }, kinds := [], alts := [], laidByText := true, laidKinds := [.data, .data], laidTests := true, laidLooks := .later }
def ChainReadsCardSaid : Prop := Claim7.holds Tryd.pinned (.plain (OpenSpec.ofChange chainReadsSpec)) chainReadsCard

/-- THE SECOND FORM's CARD OF 'moneyerlaw10.ChainReads'. -/
def chainReadsUptoCard : Claim7 := { stood := { row := chainReadsUptoRow, standIns := [], harness := (true, "64de66d86c25c5d6d970245bb19f84c17e06b2320ad1e71d20d3579074b0be07"), looks := false }, kinds := [], alts := [], laidByText := true, laidKinds := [.data, .data], laidTests := true, laidLooks := .later }
def ChainReadsUptoCardSaid : Prop := Claim7.holds Tryd.pinned (.plain (OpenSpec.upto chainReadsSpec)) chainReadsUptoCard
end Rows
end Go.Proofs.YtnbmpgballopeaaDoor
