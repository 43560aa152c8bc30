/-
  DERIVED. GIVEN WITH THE SEED: THE CARDS: each row of YtnbmpgballopeaaGreatDoorRows.lean that lists a variable, with what it lists TIED to the program's text (the seventh form; the later family's looks); each row that meets fmt, with fmt's text TOLD by the authors' own Lean function (tested against real Go, not proved from fmt's source: count such statements apart). THE CARD IS WHAT COUNTS. Prove the row's statement (the work); the ties are given (YtnbmpgballopeaaGreatDoorTie.lean); close each card by the builder's one call (the guide's Derived/Test/ToyasCard.lean, 'card_holds'). Laid BY PROGRAM, IN A SANDBOX (cutbox-door.mjs). By AI agents, Wed Nov 11 2026. No macro, syntax, notation, axiom, sorry.
-/
import Derived.Test.YtnbmpgballopeaaGreatDoorRows
import GoSem.ClaimSeven
namespace Go.Proofs.YtnbmpgballopeaaGreatDoor
namespace Rows

/-- THE TIED CARD OF 'moneyerlaw10.ChainWrites'. -/
def chainWritesCard : Claim7 := { stood := { row := chainWritesRow, standIns := [], harness := (true, "83d729b3dcfe7cc3267c2bb3fdc08214c1d2e58508b64603183dd100253d1fab"), looks := false }, kinds := [], alts := [], laidByText := true, laidKinds := [.data, .data], laidTests := true, laidLooks := .later }
def ChainWritesCardSaid : Prop := Claim7.holds Tryz.pinned (.plain (OpenSpec.ofChange chainWritesSpec)) chainWritesCard

/-- THE SECOND FORM's CARD OF 'moneyerlaw10.ChainWrites'. -/
def chainWritesUptoCard : Claim7 := { stood := { row := chainWritesUptoRow, standIns := [], harness := (true, "83d729b3dcfe7cc3267c2bb3fdc08214c1d2e58508b64603183dd100253d1fab"), looks := false }, kinds := [], alts := [], laidByText := true, laidKinds := [.data, .data], laidTests := true, laidLooks := .later }
def ChainWritesUptoCardSaid : Prop := Claim7.holds Tryz.pinned (.plain (OpenSpec.upto chainWritesSpec)) chainWritesUptoCard
end Rows
end Go.Proofs.YtnbmpgballopeaaGreatDoor
