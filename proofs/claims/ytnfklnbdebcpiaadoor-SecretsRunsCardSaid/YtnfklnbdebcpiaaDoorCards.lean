/-
  DERIVED. GIVEN WITH THE SEED: THE CARDS: each row of YtnfklnbdebcpiaaDoorRows.lean that lists a variable, with what it lists TIED to the program's text (the seventh form; the later family's looks); each row that meets fmt, with fmt's text TOLD by the authors' own Lean function (tested against real Go, not proved from fmt's source: count such statements apart). THE CARD IS WHAT COUNTS. Prove the row's statement (the work); the ties are given (YtnfklnbdebcpiaaDoorTie.lean); close each card by the builder's one call (the guide's Derived/Test/ToyasCard.lean, 'card_holds'). Laid BY PROGRAM, IN A SANDBOX (cutbox-door.mjs). By AI agents, Wed Nov 11 2026. No macro, syntax, notation, axiom, sorry.
-/
import Derived.Test.YtnfklnbdebcpiaaDoorRows
import GoSem.ClaimSeven
namespace Go.Proofs.YtnfklnbdebcpiaaDoor
namespace Rows

/-- THE TIED CARD OF 'moneyerlaw16.SecretsAt'. -/
def secretsAtCard : Claim7 := { stood := { row := secretsAtRow, standIns := [], harness := (true, "63d9cd8e540dd9343ef6d2952bfe0ecd7801c46a72509470ea66f78b482be6a0"), looks := false }, kinds := [], alts := [], laidByText := true, laidKinds := [.data, .data, .data], laidTests := true, laidLooks := .later }
def SecretsAtCardSaid : Prop := Claim7.holds Tryd.pinned (.plain (OpenSpec.ofChange secretsAtSpec)) secretsAtCard

/-- THE TIED CARD OF 'moneyerlaw16.SecretsLead'. -/
def secretsLeadCard : Claim7 := { stood := { row := secretsLeadRow, standIns := [], harness := (true, "63d9cd8e540dd9343ef6d2952bfe0ecd7801c46a72509470ea66f78b482be6a0"), looks := false }, kinds := [], alts := [], laidByText := true, laidKinds := [.data, .data, .data], laidTests := true, laidLooks := .later }
def SecretsLeadCardSaid : Prop := Claim7.holds Tryd.pinned (.plain (OpenSpec.ofChange secretsLeadSpec)) secretsLeadCard

/-- THE TIED CARD OF 'moneyerlaw16.SecretsRuns'. -/
def secretsRunsCard : Claim7 := { stood := { row := secretsRunsRow, standIns := [], harness := (true, "63d9cd8e540dd9343ef6d2952bfe0ecd7801c46a72509470ea66f78b482be6a0"), looks := false }, kinds := [], alts := [], laidByText := true, laidKinds := [.data, .data, .data], laidTests := true, laidLooks := .later }
def SecretsRunsCardSaid : Prop := Claim7.holds Tryd.pinned (.plain (OpenSpec.ofChange secretsRunsSpec)) secretsRunsCard

/-- THE TIED CARD OF 'moneyerlaw16.SecretsTold'. -/
def secretsToldCard : Claim7 := { stood := { row := secretsToldRow, standIns := [], harness := (true, "63d9cd8e540dd9343ef6d2952bfe0ecd7801c46a72509470ea66f78b482be6a0"), looks := false }, kinds := [], alts := [], laidByText := true, laidKinds := [.data, .data, .data], laidTests := true, laidLooks := .later }
def SecretsToldCardSaid : Prop := Claim7.holds Tryd.pinned (.plain (OpenSpec.ofChange secretsToldSpec)) secretsToldCard

/-- THE TIED CARD OF 'moneyerlaw16.SecretsReads'. -/
def secretsReadsCard : Claim7 := { stood := { row := secretsReadsRow, standIns := [], harness := (true, "63d9cd8e540dd9343ef6d2952bfe0ecd7801c46a72509470ea66f78b482be6a0"), looks := false }, kinds := [], alts := [], laidByText := true, laidKinds := [.data, .data, .data], laidTests := true, laidLooks := .later }
def SecretsReadsCardSaid : Prop := Claim7.holds Tryd.pinned (.plain (OpenSpec.ofChange secretsReadsSpec)) secretsReadsCard

/-- THE SECOND FORM's CARD OF 'moneyerlaw16.SecretsAt'. -/
def secretsAtUptoCard : Claim7 := { stood := { row := secretsAtUptoRow, standIns := [], harness := (true, "63d9cd8e540dd9343ef6d2952bfe0ecd7801c46a72509470ea66f78b482be6a0"), looks := false }, kinds := [], alts := [], laidByText := true, laidKinds := [.data, .data, .data], laidTests := true, laidLooks := .later }
def SecretsAtUptoCardSaid : Prop := Claim7.holds Tryd.pinned (.plain (OpenSpec.upto secretsAtSpec)) secretsAtUptoCard

/-- THE SECOND FORM's CARD OF 'moneyerlaw16.SecretsLead'. -/
def secretsLeadUptoCard : Claim7 := { stood := { row := secretsLeadUptoRow, standIns := [], harness := (true, "63d9cd8e540dd9343ef6d2952bfe0ecd7801c46a72509470ea66f78b482be6a0"), looks := false }, kinds := [], alts := [], laidByText := true, laidKinds := [.data, .data, .data], laidTests := true, laidLooks := .later }
def SecretsLeadUptoCardSaid : Prop := Claim7.holds Tryd.pinned (.plain (OpenSpec.upto secretsLeadSpec)) secretsLeadUptoCard

/-- THE SECOND FORM's CARD OF 'moneyerlaw16.SecretsRuns'. -/
def secretsRunsUptoCard : Claim7 := { stood := { row := secretsRunsUptoRow, standIns := [], harness := (true, "63d9cd8e540dd9343ef6d2952bfe0ecd7801c46a72509470ea66f78b482be6a0"), looks := false }, kinds := [], alts := [], laidByText := true, laidKinds := [.data, .data, .data], laidTests := true, laidLooks := .later }
def SecretsRunsUptoCardSaid : Prop := Claim7.holds Tryd.pinned (.plain (OpenSpec.upto secretsRunsSpec)) secretsRunsUptoCard

/-- THE SECOND FORM's CARD OF 'moneyerlaw16.SecretsTold'. -/
def secretsToldUptoCard : Claim7 := { stood := { row := secretsToldUptoRow, standIns := [], harness := (true, "63d9cd8e540dd9343ef6d2952bfe0ecd7801c46a72509470ea66f78b482be6a0"), looks := false }, kinds := [], alts := [], laidByText := true, laidKinds := [.data, .data, .data], laidTests := true, laidLooks := .later }
def SecretsToldUptoCardSaid : Prop := Claim7.holds Tryd.pinned (.plain (OpenSpec.upto secretsToldSpec)) secretsToldUptoCard

/-- THE SECOND FORM's CARD OF 'moneyerlaw16.SecretsReads'. -/
def secretsReadsUptoCard : Claim7 := { stood := { row := secretsReadsUptoRow, standIns := [], harness := (true, "63d9cd8e540dd9343ef6d2952bfe0ecd7801c46a72509470ea66f78b482be6a0"), looks := false }, kinds := [], alts := [], laidByText := true, laidKinds := [.data, .data, .data], laidTests := true, laidLooks := .later }
def SecretsReadsUptoCardSaid : Prop := Claim7.holds Tryd.pinned (.plain (OpenSpec.upto secretsReadsSpec)) secretsReadsUptoCard
end Rows
end Go.Proofs.YtnfklnbdebcpiaaDoor
