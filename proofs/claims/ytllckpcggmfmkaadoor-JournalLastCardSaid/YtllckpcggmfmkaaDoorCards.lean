/-
  DERIVED. GIVEN WITH THE SEED: THE CARDS: each row of YtllckpcggmfmkaaDoorRows.lean that lists a variable, with what it lists TIED to the program's text (the seventh form; the later family's looks); each row that meets fmt, with fmt's text TOLD by the authors' own Lean function (tested against real Go, not proved from fmt's source: count such statements apart). THE CARD IS WHAT COUNTS. Prove the row's statement (the work); the ties are given (YtllckpcggmfmkaaDoorTie.lean); close each card by the builder's one call (the guide's Derived/Test/ToyasCard.lean, 'card_holds'). Laid BY PROGRAM, IN A SANDBOX (cutbox-door.mjs). By AI agents, Wed Nov 11 2026. No macro, syntax, notation, axiom, sorry.
-/
import Derived.Test.YtllckpcggmfmkaaDoorRows
import GoSem.ClaimSeven
namespace Go.Proofs.YtllckpcggmfmkaaDoor
namespace Rows

/-- THE TIED CARD OF 'moneyerlaw14.JournalLast'. -/
def journalLastCard : Claim7 := { stood := { row := journalLastRow, standIns := [], harness := (true, "faeae27b825302b6a6b8fd19db451b6f46c63d8bc8a4eabe00878fcc3f69fc0e"), looks := false }, kinds := [], alts := [], laidByText := true, laidKinds := [.data, .data], laidTests := true, laidLooks := .later }
def JournalLastCardSaid : Prop := Claim7.holds Tryd.pinned (.plain (OpenSpec.ofChange journalLastSpec)) journalLastCard

/-- THE TIED CARD OF 'moneyerlaw14.JournalLimits'. -/
def journalLimitsCard : Claim7 := { stood := { row := journalLimitsRow, standIns := [], harness := (true, "faeae27b825302b6a6b8fd19db451b6f46c63d8bc8a4eabe00878fcc3f69fc0e"), looks := false }, kinds := [], alts := [], laidByText := true, laidKinds := [.data, .data], laidTests := true, laidLooks := .later }
def JournalLimitsCardSaid : Prop := Claim7.holds Tryd.pinned (.plain (OpenSpec.ofChange journalLimitsSpec)) journalLimitsCard

/-- THE TIED CARD OF 'moneyerlaw14.JournalRoom'. -/
def journalRoomCard : Claim7 := { stood := { row := journalRoomRow, standIns := [], harness := (true, "faeae27b825302b6a6b8fd19db451b6f46c63d8bc8a4eabe00878fcc3f69fc0e"), looks := false }, kinds := [], alts := [], laidByText := true, laidKinds := [.data, .data], laidTests := true, laidLooks := .later }
def JournalRoomCardSaid : Prop := Claim7.holds Tryd.pinned (.plain (OpenSpec.ofChange journalRoomSpec)) journalRoomCard

/-- THE SECOND FORM's CARD OF 'moneyerlaw14.JournalLast'. -/
def journalLastUptoCard : Claim7 := { stood := { row := journalLastUptoRow, standIns := [], harness := (true, "faeae27b825302b6a6b8fd19db451b6f46c63d8bc8a4eabe00878fcc3f69fc0e"), looks := false }, kinds := [], alts := [], laidByText := true, laidKinds := [.data, .data], laidTests := true, laidLooks := .later }
def JournalLastUptoCardSaid : Prop := Claim7.holds Tryd.pinned (.plain (OpenSpec.upto journalLastSpec)) journalLastUptoCard

/-- THE SECOND FORM's CARD OF 'moneyerlaw14.JournalLimits'. -/
def journalLimitsUptoCard : Claim7 := { stood := { row := journalLimitsUptoRow, standIns := [], harness := (true, "faeae27b825302b6a6b8fd19db451b6f46c63d8bc8a4eabe00878fcc3f69fc0e"), looks := false }, kinds := [], alts := [], laidByText := true, laidKinds := [.data, .data], laidTests := true, laidLooks := .later }
def JournalLimitsUptoCardSaid : Prop := Claim7.holds Tryd.pinned (.plain (OpenSpec.upto journalLimitsSpec)) journalLimitsUptoCard

/-- THE SECOND FORM's CARD OF 'moneyerlaw14.JournalRoom'. -/
def journalRoomUptoCard : Claim7 := { stood := { row := journalRoomUptoRow, standIns := [], harness := (true, "faeae27b825302b6a6b8fd19db451b6f46c63d8bc8a4eabe00878fcc3f69fc0e"), looks := false }, kinds := [], alts := [], laidByText := true, laidKinds := [.data, .data], laidTests := true, laidLooks := .later }
def JournalRoomUptoCardSaid : Prop := Claim7.holds Tryd.pinned (.plain (OpenSpec.upto journalRoomSpec)) journalRoomUptoCard
end Rows
end Go.Proofs.YtllckpcggmfmkaaDoor
