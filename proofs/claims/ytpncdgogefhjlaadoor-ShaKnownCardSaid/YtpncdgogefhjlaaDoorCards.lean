/-
  DERIVED. GIVEN WITH THE SEED: THE CARDS: each row of YtpncdgogefhjlaaDoorRows.lean that lists a variable, with what it lists TIED to the program's text (the seventh form; the later family's looks); each row that meets fmt, with fmt's text TOLD by the authors' own Lean function (tested against real Go, not proved from fmt's source: count such statements apart). THE CARD IS WHAT COUNTS. Prove the row's statement (the work); the ties are given (YtpncdgogefhjlaaDoorTie.lean); close each card by the builder's one call (the guide's Derived/Test/ToyasCard.lean, 'card_holds'). Laid BY PROGRAM, IN A SANDBOX (cutbox-door.mjs). By AI agents, Wed Nov 11 2026. No macro, syntax, notation, axiom, sorry.
-/
import Derived.Test.YtpncdgogefhjlaaDoorRows
import GoSem.ClaimSeven
namespace Go.Proofs.YtpncdgogefhjlaaDoor
namespace Rows

/-- THE TIED CARD OF 'moneyerlaw03.ShaSums'. -/
def shaSumsCard : Claim7 := { stood := { row := shaSumsRow, standIns := [], harness := (true, "f6239591b9a0d029246e835aa82ef3b942036aeae589f9f229a6cfc883375bd8"), looks := false }, kinds := [], alts := [], laidByText := true, laidKinds := [.data, .data], laidTests := true, laidLooks := .later }
def ShaSumsCardSaid : Prop := Claim7.holds Tryd.pinned (.plain (OpenSpec.ofChange shaSumsSpec)) shaSumsCard

/-- THE TIED CARD OF 'moneyerlaw03.ShaKnown'. -/
def shaKnownCard : Claim7 := { stood := { row := shaKnownRow, standIns := [], harness := (true, "f6239591b9a0d029246e835aa82ef3b942036aeae589f9f229a6cfc883375bd8"), looks := false }, kinds := [], alts := [], laidByText := true, laidKinds := [.data, .data], laidTests := true, laidLooks := .later }
def ShaKnownCardSaid : Prop := Claim7.holds Tryd.pinned (.plain (OpenSpec.ofChange shaKnownSpec)) shaKnownCard

/-- THE TIED CARD OF 'moneyerlaw03.ShaParts'. -/
def shaPartsCard : Claim7 := { stood := { row := shaPartsRow, standIns := [], harness := (true, "f6239591b9a0d029246e835aa82ef3b942036aeae589f9f229a6cfc883375bd8"), looks := false }, kinds := [], alts := [], laidByText := true, laidKinds := [.data, .data], laidTests := true, laidLooks := .later }
def ShaPartsCardSaid : Prop := Claim7.holds Tryd.pinned (.plain (OpenSpec.ofChange shaPartsSpec)) shaPartsCard

/-- THE TIED CARD OF 'moneyerlaw03.ShaBytes'. -/
def shaBytesCard : Claim7 := { stood := { row := shaBytesRow, standIns := [], harness := (true, "f6239591b9a0d029246e835aa82ef3b942036aeae589f9f229a6cfc883375bd8"), looks := false }, kinds := [], alts := [], laidByText := true, laidKinds := [.data, .data], laidTests := true, laidLooks := .later }
def ShaBytesCardSaid : Prop := Claim7.holds Tryd.pinned (.plain (OpenSpec.ofChange shaBytesSpec)) shaBytesCard

/-- THE TIED CARD OF 'moneyerlaw03.ShaTags'. -/
def shaTagsCard : Claim7 := { stood := { row := shaTagsRow, standIns := [], harness := (true, "f6239591b9a0d029246e835aa82ef3b942036aeae589f9f229a6cfc883375bd8"), looks := false }, kinds := [], alts := [], laidByText := true, laidKinds := [.data, .data], laidTests := true, laidLooks := .later }
def ShaTagsCardSaid : Prop := Claim7.holds Tryd.pinned (.plain (OpenSpec.ofChange shaTagsSpec)) shaTagsCard

/-- THE SECOND FORM's CARD OF 'moneyerlaw03.ShaSums'. -/
def shaSumsUptoCard : Claim7 := { stood := { row := shaSumsUptoRow, standIns := [], harness := (true, "f6239591b9a0d029246e835aa82ef3b942036aeae589f9f229a6cfc883375bd8"), looks := false }, kinds := [], alts := [], laidByText := true, laidKinds := [.data, .data], laidTests := true, laidLooks := .later }
def ShaSumsUptoCardSaid : Prop := Claim7.holds Tryd.pinned (.plain (OpenSpec.upto shaSumsSpec)) shaSumsUptoCard

/-- THE SECOND FORM's CARD OF 'moneyerlaw03.ShaKnown'. -/
def shaKnownUptoCard : Claim7 := { stood := { row := shaKnownUptoRow, standIns := [], harness := (true, "f6239591b9a0d029246e835aa82ef3b942036aeae589f9f229a6cfc883375bd8"), looks := false }, kinds := [], alts := [], laidByText := true, laidKinds := [.data, .data], laidTests := true, laidLooks := .later }
def ShaKnownUptoCardSaid : Prop := Claim7.holds Tryd.pinned (.plain (OpenSpec.upto shaKnownSpec)) shaKnownUptoCard

/-- THE SECOND FORM's CARD OF 'moneyerlaw03.ShaParts'. -/
def shaPartsUptoCard : Claim7 := { stood := { row := shaPartsUptoRow, standIns := [], harness := (true, "f6239591b9a0d029246e835aa82ef3b942036aeae589f9f229a6cfc883375bd8"), looks := false }, kinds := [], alts := [], laidByText := true, laidKinds := [.data, .data], laidTests := true, laidLooks := .later }
def ShaPartsUptoCardSaid : Prop := Claim7.holds Tryd.pinned (.plain (OpenSpec.upto shaPartsSpec)) shaPartsUptoCard

/-- THE SECOND FORM's CARD OF 'moneyerlaw03.ShaBytes'. -/
def shaBytesUptoCard : Claim7 := { stood := { row := shaBytesUptoRow, standIns := [], harness := (true, "f6239591b9a0d029246e835aa82ef3b942036aeae589f9f229a6cfc883375bd8"), looks := false }, kinds := [], alts := [], laidByText := true, laidKinds := [.data, .data], laidTests := true, laidLooks := .later }
def ShaBytesUptoCardSaid : Prop := Claim7.holds Tryd.pinned (.plain (OpenSpec.upto shaBytesSpec)) shaBytesUptoCard

/-- THE SECOND FORM's CARD OF 'moneyerlaw03.ShaTags'. -/
def shaTagsUptoCard : Claim7 := { stood := { row := shaTagsUptoRow, standIns := [], harness := (true, "f6239591b9a0d029246e835aa82ef3b942036aeae589f9f229a6cfc883375bd8"), looks := false }, kinds := [], alts := [], laidByText := true, laidKinds := [.data, .data], laidTests := true, laidLooks := .later }
def ShaTagsUptoCardSaid : Prop := Claim7.holds Tryd.pinned (.plain (OpenSpec.upto shaTagsSpec)) shaTagsUptoCard
end Rows
end Go.Proofs.YtpncdgogefhjlaaDoor
