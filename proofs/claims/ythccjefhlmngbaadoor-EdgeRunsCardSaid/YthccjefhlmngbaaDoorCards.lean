/-
  DERIVED. GIVEN WITH THE SEED: THE CARDS: each row of YthccjefhlmngbaaDoorRows.lean that lists a variable, with what it lists TIED to the program's text (the seventh form; the later family's looks); each row that meets fmt, with fmt's text TOLD by the authors' own Lean function (tested against real Go, not proved from fmt's source: count such statements apart). THE CARD IS WHAT COUNTS. Prove the row's statement (the work); the ties are given (YthccjefhlmngbaaDoorTie.lean); close each card by the builder's one call (the guide's Derived/Test/ToyasCard.lean, 'card_holds'). Laid BY PROGRAM, IN A SANDBOX (cutbox-door.mjs). By AI agents, Wed Nov 11 2026. No macro, syntax, notation, axiom, sorry.
-/
import Derived.Test.YthccjefhlmngbaaDoorRows
import GoSem.ClaimSeven
namespace Go.Proofs.YthccjefhlmngbaaDoor
namespace Rows

/-- THE TIED CARD OF 'moneyerlaw21.EdgeUses'. -/
def edgeUsesCard : Claim7 := { stood := { row := edgeUsesRow, standIns := [], harness := (true, "20121b5dd4f5831d081c0140b7b7cf974c94f7db4bfd5fca981177f99466a7f1"), looks := false }, kinds := [], alts := [], laidByText := true, laidKinds := [.data, .data], laidTests := true, laidLooks := .later }
def EdgeUsesCardSaid : Prop := Claim7.holds Tryd.pinned (.plain (OpenSpec.ofChange edgeUsesSpec)) edgeUsesCard

/-- THE TIED CARD OF 'moneyerlaw21.EdgeFull'. -/
def edgeFullCard : Claim7 := { stood := { row := edgeFullRow, standIns := [], harness := (true, "20121b5dd4f5831d081c0140b7b7cf974c94f7db4bfd5fca981177f99466a7f1"), looks := false }, kinds := [], alts := [], laidByText := true, laidKinds := [.data, .data], laidTests := true, laidLooks := .later }
def EdgeFullCardSaid : Prop := Claim7.holds Tryd.pinned (.plain (OpenSpec.ofChange edgeFullSpec)) edgeFullCard

/-- THE TIED CARD OF 'moneyerlaw21.EdgeRuns'. -/
def edgeRunsCard : Claim7 := { stood := { row := edgeRunsRow, standIns := [], harness := (true, "20121b5dd4f5831d081c0140b7b7cf974c94f7db4bfd5fca981177f99466a7f1"), looks := false }, kinds := [], alts := [], laidByText := true, laidKinds := [.data, .data], laidTests := true, laidLooks := .later }
def EdgeRunsCardSaid : Prop := Claim7.holds Tryd.pinned (.plain (OpenSpec.ofChange edgeRunsSpec)) edgeRunsCard

/-- THE TIED CARD OF 'moneyerlaw21.EdgeKeeps'. -/
def edgeKeepsCard : Claim7 := { stood := { row := edgeKeepsRow, standIns := [], harness := (true, "20121b5dd4f5831d081c0140b7b7cf974c94f7db4bfd5fca981177f99466a7f1"), looks := false }, kinds := [], alts := [], laidByText := true, laidKinds := [.data, .data], laidTests := true, laidLooks := .later }
def EdgeKeepsCardSaid : Prop := Claim7.holds Tryd.pinned (.plain (OpenSpec.ofChange edgeKeepsSpec)) edgeKeepsCard

/-- THE TIED CARD OF 'moneyerlaw21.EdgePays'. -/
def edgePaysCard : Claim7 := { stood := { row := edgePaysRow, standIns := [], harness := (true, "20121b5dd4f5831d081c0140b7b7cf974c94f7db4bfd5fca981177f99466a7f1"), looks := false }, kinds := [], alts := [], laidByText := true, laidKinds := [.data, .data], laidTests := true, laidLooks := .later }
def EdgePaysCardSaid : Prop := Claim7.holds Tryd.pinned (.plain (OpenSpec.ofChange edgePaysSpec)) edgePaysCard

/-- THE SECOND FORM's CARD OF 'moneyerlaw21.EdgeUses'. -/
def edgeUsesUptoCard : Claim7 := { stood := { row := edgeUsesUptoRow, standIns := [], harness := (true, "20121b5dd4f5831d081c0140b7b7cf974c94f7db4bfd5fca981177f99466a7f1"), looks := false }, kinds := [], alts := [], laidByText := true, laidKinds := [.data, .data], laidTests := true, laidLooks := .later }
def EdgeUsesUptoCardSaid : Prop := Claim7.holds Tryd.pinned (.plain (OpenSpec.upto edgeUsesSpec)) edgeUsesUptoCard

/-- THE SECOND FORM's CARD OF 'moneyerlaw21.EdgeFull'. -/
def edgeFullUptoCard : Claim7 := { stood := { row := edgeFullUptoRow, standIns := [], harness := (true, "20121b5dd4f5831d081c0140b7b7cf974c94f7db4bfd5fca981177f99466a7f1"), looks := false }, kinds := [], alts := [], laidByText := true, laidKinds := [.data, .data], laidTests := true, laidLooks := .later }
def EdgeFullUptoCardSaid : Prop := Claim7.holds Tryd.pinned (.plain (OpenSpec.upto edgeFullSpec)) edgeFullUptoCard

/-- THE SECOND FORM's CARD OF 'moneyerlaw21.EdgeRuns'. -/
def edgeRunsUptoCard : Claim7 := { stood := { row := edgeRunsUptoRow, standIns := [], harness := (true, "20121b5dd4f5831d081c0140b7b7cf974c94f7db4bfd5fca981177f99466a7f1"), looks := false }, kinds := [], alts := [], laidByText := true, laidKinds := [.data, .data], laidTests := true, laidLooks := .later }
def EdgeRunsUptoCardSaid : Prop := Claim7.holds Tryd.pinned (.plain (OpenSpec.upto edgeRunsSpec)) edgeRunsUptoCard

/-- THE SECOND FORM's CARD OF 'moneyerlaw21.EdgeKeeps'. -/
def edgeKeepsUptoCard : Claim7 := { stood := { row := edgeKeepsUptoRow, standIns := [], harness := (true, "20121b5dd4f5831d081c0140b7b7cf974c94f7db4bfd5fca981177f99466a7f1"), looks := false }, kinds := [], alts := [], laidByText := true, laidKinds := [.data, .data], laidTests := true, laidLooks := .later }
def EdgeKeepsUptoCardSaid : Prop := Claim7.holds Tryd.pinned (.plain (OpenSpec.upto edgeKeepsSpec)) edgeKeepsUptoCard

/-- THE SECOND FORM's CARD OF 'moneyerlaw21.EdgePays'. -/
def edgePaysUptoCard : Claim7 := { stood := { row := edgePaysUptoRow, standIns := [], harness := (true, "20121b5dd4f5831d081c0140b7b7cf974c94f7db4bfd5fca981177f99466a7f1"), looks := false }, kinds := [], alts := [], laidByText := true, laidKinds := [.data, .data], laidTests := true, laidLooks := .later }
def EdgePaysUptoCardSaid : Prop := Claim7.holds Tryd.pinned (.plain (OpenSpec.upto edgePaysSpec)) edgePaysUptoCard
end Rows
end Go.Proofs.YthccjefhlmngbaaDoor
