/-
  DERIVED. GIVEN WITH THE SEED: THE CARDS: each row of YtgaidleepjkldaaDoorRows.lean that lists a variable, with what it lists TIED to the program's text (the seventh form; the later family's looks); each row that meets fmt, with fmt's text TOLD by the authors' own Lean function (tested against real Go, not proved from fmt's source: count such statements apart). THE CARD IS WHAT COUNTS. Prove the row's statement (the work); the ties are given (YtgaidleepjkldaaDoorTie.lean); close each card by the builder's one call (the guide's Derived/Test/ToyasCard.lean, 'card_holds'). Laid BY PROGRAM, IN A SANDBOX (cutbox-door.mjs). By AI agents, Wed Nov 11 2026. No macro, syntax, notation, axiom, sorry.
-/
import Derived.Test.YtgaidleepjkldaaDoorRows
import GoSem.ClaimSeven
namespace Go.Proofs.YtgaidleepjkldaaDoor
namespace Rows

/-- THE TIED CARD OF 'moneyerlaw06.AssetNames'. -/
def assetNamesCard : Claim7 := { stood := { row := assetNamesRow, standIns := [], harness := (true, "a059c248b4b0249d7a96fe90c7175788be66a15b23f99f097e3b0029db3fb121"), looks := false }, kinds := [], alts := [], laidByText := true, laidKinds := [.data, .data], laidTests := true, laidLooks := .later }
def AssetNamesCardSaid : Prop := Claim7.holds Tryd.pinned (.plain (OpenSpec.ofChange assetNamesSpec)) assetNamesCard

/-- THE TIED CARD OF 'moneyerlaw06.AssetWrites'. -/
def assetWritesCard : Claim7 := { stood := { row := assetWritesRow, standIns := [], harness := (true, "a059c248b4b0249d7a96fe90c7175788be66a15b23f99f097e3b0029db3fb121"), looks := false }, kinds := [], alts := [], laidByText := true, laidKinds := [.data, .data], laidTests := true, laidLooks := .later }
def AssetWritesCardSaid : Prop := Claim7.holds Tryd.pinned (.plain (OpenSpec.ofChange assetWritesSpec)) assetWritesCard

/-- THE SECOND FORM's CARD OF 'moneyerlaw06.AssetNames'. -/
def assetNamesUptoCard : Claim7 := { stood := { row := assetNamesUptoRow, standIns := [], harness := (true, "a059c248b4b0249d7a96fe90c7175788be66a15b23f99f097e3b0029db3fb121"), looks := false }, kinds := [], alts := [], laidByText := true, laidKinds := [.data, .data], laidTests := true, laidLooks := .later }
def AssetNamesUptoCardSaid : Prop := Claim7.holds Tryd.pinned (.plain (OpenSpec.upto assetNamesSpec)) assetNamesUptoCard

/-- THE SECOND FORM's CARD OF 'moneyerlaw06.AssetWrites'. -/
def assetWritesUptoCard : Claim7 := { stood := { row := assetWritesUptoRow, standIns := [], harness := (true, "a059c248b4b0249d7a96fe90c7175788be66a15b23f99f097e3b0029db3fb121"), looks := false }, kinds := [], alts := [], laidByText := true, laidKinds := [.data, .data], laidTests := true, laidLooks := .later }
def AssetWritesUptoCardSaid : Prop := Claim7.holds Tryd.pinned (.plain (OpenSpec.upto assetWritesSpec)) assetWritesUptoCard
end Rows
end Go.Proofs.YtgaidleepjkldaaDoor
