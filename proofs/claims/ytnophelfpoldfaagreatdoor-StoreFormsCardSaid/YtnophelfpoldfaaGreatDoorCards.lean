/-
  DERIVED. GIVEN WITH THE SEED: THE CARDS: each row of YtnophelfpoldfaaGreatDoorRows.lean that lists a variable, with what it lists TIED to the program's text (the seventh form; the later family's looks); each row that meets fmt, with fmt's text TOLD by the authors' own Lean function (tested against real Go, not proved from fmt's source: count such statements apart). THE CARD IS WHAT COUNTS. Prove the row's statement (the work); the ties are given (YtnophelfpoldfaaGreatDoorTie.lean); close each card by the builder's one call (the guide's Derived/Test/ToyasCard.lean, 'card_holds'). Laid BY PROGRAM, IN A SANDBOX (cutbox-door.mjs). By AI agents, Wed Nov 11 2026. No macro, syntax, notation, axiom, sorry.
-/
import Derived.Test.YtnophelfpoldfaaGreatDoorRows
import GoSem.ClaimSeven
namespace Go.Proofs.YtnophelfpoldfaaGreatDoor
namespace Rows

/-- THE TIED CARD OF 'moneyerlaw15.StoreForms'. -/
def storeFormsCard : Claim7 := { stood := { row := storeFormsRow, standIns := [], harness := (true, "8b841707b86909400fa8ecabe15f6979390423b11e95762c49b5ca8416b58a1d"), looks := false }, kinds := [], alts := [], laidByText := true, laidKinds := [.data, .data], laidTests := true, laidLooks := .later }
def StoreFormsCardSaid : Prop := Claim7.holds Tryz.pinned (.plain (OpenSpec.ofChange storeFormsSpec)) storeFormsCard

/-- THE TIED CARD OF 'moneyerlaw15.StoreLast'. -/
def storeLastCard : Claim7 := { stood := { row := storeLastRow, standIns := [], harness := (true, "8b841707b86909400fa8ecabe15f6979390423b11e95762c49b5ca8416b58a1d"), looks := false }, kinds := [], alts := [], laidByText := true, laidKinds := [.data, .data], laidTests := true, laidLooks := .later }
def StoreLastCardSaid : Prop := Claim7.holds Tryz.pinned (.plain (OpenSpec.ofChange storeLastSpec)) storeLastCard

/-- THE TIED CARD OF 'moneyerlaw15.StoreKeys'. -/
def storeKeysCard : Claim7 := { stood := { row := storeKeysRow, standIns := [], harness := (true, "8b841707b86909400fa8ecabe15f6979390423b11e95762c49b5ca8416b58a1d"), looks := false }, kinds := [], alts := [], laidByText := true, laidKinds := [.data, .data], laidTests := true, laidLooks := .later }
def StoreKeysCardSaid : Prop := Claim7.holds Tryz.pinned (.plain (OpenSpec.ofChange storeKeysSpec)) storeKeysCard

/-- THE SECOND FORM's CARD OF 'moneyerlaw15.StoreForms'. -/
def storeFormsUptoCard : Claim7 := { stood := { row := storeFormsUptoRow, standIns := [], harness := (true, "8b841707b86909400fa8ecabe15f6979390423b11e95762c49b5ca8416b58a1d"), looks := false }, kinds := [], alts := [], laidByText := true, laidKinds := [.data, .data], laidTests := true, laidLooks := .later }
def StoreFormsUptoCardSaid : Prop := Claim7.holds Tryz.pinned (.plain (OpenSpec.upto storeFormsSpec)) storeFormsUptoCard

/-- THE SECOND FORM's CARD OF 'moneyerlaw15.StoreLast'. -/
def storeLastUptoCard : Claim7 := { stood := { row := storeLastUptoRow, standIns := [], harness := (true, "8b841707b86909400fa8ecabe15f6979390423b11e95762c49b5ca8416b58a1d"), looks := false }, kinds := [], alts := [], laidByText := true, laidKinds := [.data, .data], laidTests := true, laidLooks := .later }
def StoreLastUptoCardSaid : Prop := Claim7.holds Tryz.pinned (.plain (OpenSpec.upto storeLastSpec)) storeLastUptoCard

/-- THE SECOND FORM's CARD OF 'moneyerlaw15.StoreKeys'. -/
def storeKeysUptoCard : Claim7 := { stood := { row := storeKeysUptoRow, standIns := [], harness := (true, "8b841707b86909400fa8ecabe15f6979390423b11e95762c49b5ca8416b58a1d"), looks := false }, kinds := [], alts := [], laidByText := true, laidKinds := [.data, .data], laidTests := true, laidLooks := .later }
def StoreKeysUptoCardSaid : Prop := Claim7.holds Tryz.pinned (.plain (OpenSpec.upto storeKeysSpec)) storeKeysUptoCard
end Rows
end Go.Proofs.YtnophelfpoldfaaGreatDoor
