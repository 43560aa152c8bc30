/-
  DERIVED. GIVEN WITH THE SEED: THE CARDS: each row of YtbdganopnccicaaDoorRows.lean that lists a variable, with what it lists TIED to the program's text (the seventh form; the later family's looks); each row that meets fmt, with fmt's text TOLD by the authors' own Lean function (tested against real Go, not proved from fmt's source: count such statements apart). THE CARD IS WHAT COUNTS. Prove the row's statement (the work); the ties are given (YtbdganopnccicaaDoorTie.lean); close each card by the builder's one call (the guide's Derived/Test/ToyasCard.lean, 'card_holds'). Laid BY PROGRAM, IN A SANDBOX (cutbox-door.mjs). By AI agents, Wed Nov 11 2026. No macro, syntax, notation, axiom, sorry.
-/
import Derived.Test.YtbdganopnccicaaDoorRows
import GoSem.ClaimSeven
namespace Go.Proofs.YtbdganopnccicaaDoor
namespace Rows

/-- THE TIED CARD OF 'moneyerlaw09.TokenRuns'. -/
def tokenRunsCard : Claim7 := { stood := { row := tokenRunsRow, standIns := [], harness := (true, "7647e12f769c75dea067ccfc3350609ea278b2aef726ef10111674e1ce92e0c1"), looks := false }, kinds := [], alts := [], laidByText := true, laidKinds := [.data, .data], laidTests := true, laidLooks := .later }
def TokenRunsCardSaid : Prop := Claim7.holds Tryd.pinned (.plain (OpenSpec.ofChange tokenRunsSpec)) tokenRunsCard

/-- THE TIED CARD OF 'moneyerlaw09.TokenNever'. -/
def tokenNeverCard : Claim7 := { stood := { row := tokenNeverRow, standIns := [], harness := (true, "7647e12f769c75dea067ccfc3350609ea278b2aef726ef10111674e1ce92e0c1"), looks := false }, kinds := [], alts := [], laidByText := true, laidKinds := [.data, .data], laidTests := true, laidLooks := .later }
def TokenNeverCardSaid : Prop := Claim7.holds Tryd.pinned (.plain (OpenSpec.ofChange tokenNeverSpec)) tokenNeverCard

/-- THE TIED CARD OF 'moneyerlaw09.TokenTwice'. -/
def tokenTwiceCard : Claim7 := { stood := { row := tokenTwiceRow, standIns := [], harness := (true, "7647e12f769c75dea067ccfc3350609ea278b2aef726ef10111674e1ce92e0c1"), looks := false }, kinds := [], alts := [], laidByText := true, laidKinds := [.data, .data], laidTests := true, laidLooks := .later }
def TokenTwiceCardSaid : Prop := Claim7.holds Tryd.pinned (.plain (OpenSpec.ofChange tokenTwiceSpec)) tokenTwiceCard

/-- THE TIED CARD OF 'moneyerlaw09.TokenOwners'. -/
def tokenOwnersCard : Claim7 := { stood := { row := tokenOwnersRow, standIns := [], harness := (true, "7647e12f769c75dea067ccfc3350609ea278b2aef726ef10111674e1ce92e0c1"), looks := false }, kinds := [], alts := [], laidByText := true, laidKinds := [.data, .data], laidTests := true, laidLooks := .later }
def TokenOwnersCardSaid : Prop := Claim7.holds Tryd.pinned (.plain (OpenSpec.ofChange tokenOwnersSpec)) tokenOwnersCard

/-- THE SECOND FORM's CARD OF 'moneyerlaw09.TokenRuns'. -/
def tokenRunsUptoCard : Claim7 := { stood := { row := tokenRunsUptoRow, standIns := [], harness := (true, "7647e12f769c75dea067ccfc3350609ea278b2aef726ef10111674e1ce92e0c1"), looks := false }, kinds := [], alts := [], laidByText := true, laidKinds := [.data, .data], laidTests := true, laidLooks := .later }
def TokenRunsUptoCardSaid : Prop := Claim7.holds Tryd.pinned (.plain (OpenSpec.upto tokenRunsSpec)) tokenRunsUptoCard

/-- THE SECOND FORM's CARD OF 'moneyerlaw09.TokenNever'. -/
def tokenNeverUptoCard : Claim7 := { stood := { row := tokenNeverUptoRow, standIns := [], harness := (true, "7647e12f769c75dea067ccfc3350609ea278b2aef726ef10111674e1ce92e0c1"), looks := false }, kinds := [], alts := [], laidByText := true, laidKinds := [.data, .data], laidTests := true, laidLooks := .later }
def TokenNeverUptoCardSaid : Prop := Claim7.holds Tryd.pinned (.plain (OpenSpec.upto tokenNeverSpec)) tokenNeverUptoCard

/-- THE SECOND FORM's CARD OF 'moneyerlaw09.TokenTwice'. -/
def tokenTwiceUptoCard : Claim7 := { stood := { row := tokenTwiceUptoRow, standIns := [], harness := (true, "7647e12f769c75dea067ccfc3350609ea278b2aef726ef10111674e1ce92e0c1"), looks := false }, kinds := [], alts := [], laidByText := true, laidKinds := [.data, .data], laidTests := true, laidLooks := .later }
def TokenTwiceUptoCardSaid : Prop := Claim7.holds Tryd.pinned (.plain (OpenSpec.upto tokenTwiceSpec)) tokenTwiceUptoCard

/-- THE SECOND FORM's CARD OF 'moneyerlaw09.TokenOwners'. -/
def tokenOwnersUptoCard : Claim7 := { stood := { row := tokenOwnersUptoRow, standIns := [], harness := (true, "7647e12f769c75dea067ccfc3350609ea278b2aef726ef10111674e1ce92e0c1"), looks := false }, kinds := [], alts := [], laidByText := true, laidKinds := [.data, .data], laidTests := true, laidLooks := .later }
def TokenOwnersUptoCardSaid : Prop := Claim7.holds Tryd.pinned (.plain (OpenSpec.upto tokenOwnersSpec)) tokenOwnersUptoCard
end Rows
end Go.Proofs.YtbdganopnccicaaDoor
