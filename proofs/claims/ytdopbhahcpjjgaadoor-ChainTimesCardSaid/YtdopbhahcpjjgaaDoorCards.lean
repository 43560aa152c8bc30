/-
  DERIVED. GIVEN WITH THE SEED: THE CARDS: each row of YtdopbhahcpjjgaaDoorRows.lean that lists a variable, with what it lists TIED to the program's text (the seventh form; the later family's looks); each row that meets fmt, with fmt's text TOLD by the authors' own Lean function (tested against real Go, not proved from fmt's source: count such statements apart). THE CARD IS WHAT COUNTS. Prove the row's statement (the work); the ties are given (YtdopbhahcpjjgaaDoorTie.lean); close each card by the builder's one call (the guide's Derived/Test/ToyasCard.lean, 'card_holds'). Laid BY PROGRAM, IN A SANDBOX (cutbox-door.mjs). By AI agents, Wed Nov 11 2026. No macro, syntax, notation, axiom, sorry.
-/
import Derived.Test.YtdopbhahcpjjgaaDoorRows
import GoSem.ClaimSeven
namespace Go.Proofs.YtdopbhahcpjjgaaDoor
namespace Rows

/-- THE TIED CARD OF 'moneyerlaw10.ChainIds'. -/
def chainIdsCard : Claim7 := { stood := { row := chainIdsRow, standIns := [], harness := (true, "e87aca3094b3aa529f884f6e5e4b447d0a447f5d4f54bf6e7a9fc03e00bc8aee"), looks := false }, kinds := [], alts := [], laidByText := true, laidKinds := [.data, .data], laidTests := true, laidLooks := .later }
def ChainIdsCardSaid : Prop := Claim7.holds Tryd.pinned (.plain (OpenSpec.ofChange chainIdsSpec)) chainIdsCard

/-- THE TIED CARD OF 'moneyerlaw10.ChainNever'. -/
def chainNeverCard : Claim7 := { stood := { row := chainNeverRow, standIns := [], harness := (true, "e87aca3094b3aa529f884f6e5e4b447d0a447f5d4f54bf6e7a9fc03e00bc8aee"), looks := false }, kinds := [], alts := [], laidByText := true, laidKinds := [.data, .data], laidTests := true, laidLooks := .later }
def ChainNeverCardSaid : Prop := Claim7.holds Tryd.pinned (.plain (OpenSpec.ofChange chainNeverSpec)) chainNeverCard

/-- THE TIED CARD OF 'moneyerlaw10.ChainTimes'. -/
def chainTimesCard : Claim7 := { stood := { row := chainTimesRow, standIns := [], harness := (true, "e87aca3094b3aa529f884f6e5e4b447d0a447f5d4f54bf6e7a9fc03e00bc8aee"), looks := false }, kinds := [], alts := [], laidByText := true, laidKinds := [.data, .data], laidTests := true, laidLooks := .later }
def ChainTimesCardSaid : Prop := Claim7.holds Tryd.pinned (.plain (OpenSpec.ofChange chainTimesSpec)) chainTimesCard

/-- THE SECOND FORM's CARD OF 'moneyerlaw10.ChainIds'. -/
def chainIdsUptoCard : Claim7 := { stood := { row := chainIdsUptoRow, standIns := [], harness := (true, "e87aca3094b3aa529f884f6e5e4b447d0a447f5d4f54bf6e7a9fc03e00bc8aee"), looks := false }, kinds := [], alts := [], laidByText := true, laidKinds := [.data, .data], laidTests := true, laidLooks := .later }
def ChainIdsUptoCardSaid : Prop := Claim7.holds Tryd.pinned (.plain (OpenSpec.upto chainIdsSpec)) chainIdsUptoCard

/-- THE SECOND FORM's CARD OF 'moneyerlaw10.ChainNever'. -/
def chainNeverUptoCard : Claim7 := { stood := { row := chainNeverUptoRow, standIns := [], harness := (true, "e87aca3094b3aa529f884f6e5e4b447d0a447f5d4f54bf6e7a9fc03e00bc8aee"), looks := false }, kinds := [], alts := [], laidByText := true, laidKinds := [.data, .data], laidTests := true, laidLooks := .later }
def ChainNeverUptoCardSaid : Prop := Claim7.holds Tryd.pinned (.plain (OpenSpec.upto chainNeverSpec)) chainNeverUptoCard

/-- THE SECOND FORM's CARD OF 'moneyerlaw10.ChainTimes'. -/
def chainTimesUptoCard : Claim7 := { stood := { row := chainTimesUptoRow, standIns := [], harness := (true, "e87aca3094b3aa529f884f6e5e4b447d0a447f5d4f54bf6e7a9fc03e00bc8aee"), looks := false }, kinds := [], alts := [], laidByText := true, laidKinds := [.data, .data], laidTests := true, laidLooks := .later }
def ChainTimesUptoCardSaid : Prop := Claim7.holds Tryd.pinned (.plain (OpenSpec.upto chainTimesSpec)) chainTimesUptoCard
end Rows
end Go.Proofs.YtdopbhahcpjjgaaDoor
