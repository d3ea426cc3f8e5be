/-
  DERIVED. GIVEN WITH THE SEED: THE CARDS: each row of YtohdpidlilhnjaaGreatDoorRows.lean that lists a variable, with what it lists TIED to the program's text (the seventh form; the later family's looks); each row that meets fmt, with fmt's text TOLD by the authors' own Lean function (tested against real Go, not proved from fmt's source: count such statements apart). THE CARD IS WHAT COUNTS. Prove the row's statement (the work); the ties are given (YtohdpidlilhnjaaGreatDoorTie.lean); close each card by the builder's one call (the guide's Derived/Test/ToyasCard.lean, 'card_holds'). Laid BY PROGRAM, IN A SANDBOX (cutbox-door.mjs). By AI agents, Wed Nov 11 2026. No macro, syntax, notation, axiom, sorry.
-/
import Derived.Test.YtohdpidlilhnjaaGreatDoorRows
import GoSem.ClaimSeven
namespace Go.Proofs.YtohdpidlilhnjaaGreatDoor
namespace Rows

/-- THE TIED CARD OF 'tranchelaw43.LedgerZero'. -/
def ledgerZeroCard : Claim7 := { stood := { row := ledgerZeroRow, standIns := [], harness := (true, "1931e29712253cefb8344274b88dc338800d904abdb5b5ab9d2ed4a1c26d2661"), looks := true }, kinds := [], alts := [], laidByText := true, laidKinds := [.data, .data, .data, .data, .sentinel, .sentinel, .pinned], laidTests := true, laidLooks := .later }
def LedgerZeroCardSaid : Prop := Claim7.holds Tryz.pinned (.plain (OpenSpec.ofChange ledgerZeroSpec)) ledgerZeroCard

/-- THE TIED CARD OF 'tranchelaw43.LedgerRows'. -/
def ledgerRowsCard : Claim7 := { stood := { row := ledgerRowsRow, standIns := [], harness := (true, "1931e29712253cefb8344274b88dc338800d904abdb5b5ab9d2ed4a1c26d2661"), looks := true }, kinds := [], alts := [], laidByText := true, laidKinds := [.data, .data, .data, .data, .sentinel, .sentinel, .pinned], laidTests := true, laidLooks := .later }
def LedgerRowsCardSaid : Prop := Claim7.holds Tryz.pinned (.plain (OpenSpec.ofChange ledgerRowsSpec)) ledgerRowsCard

/-- THE TIED CARD OF 'tranchelaw43.LedgerRollup'. -/
def ledgerRollupCard : Claim7 := { stood := { row := ledgerRollupRow, standIns := [], harness := (true, "1931e29712253cefb8344274b88dc338800d904abdb5b5ab9d2ed4a1c26d2661"), looks := true }, kinds := [], alts := [], laidByText := true, laidKinds := [.data, .data, .data, .data, .sentinel, .sentinel, .pinned], laidTests := true, laidLooks := .later }
def LedgerRollupCardSaid : Prop := Claim7.holds Tryz.pinned (.plain (OpenSpec.ofChange ledgerRollupSpec)) ledgerRollupCard

/-- THE TIED CARD OF 'tranchelaw43.LedgerSums'. -/
def ledgerSumsCard : Claim7 := { stood := { row := ledgerSumsRow, standIns := [], harness := (true, "1931e29712253cefb8344274b88dc338800d904abdb5b5ab9d2ed4a1c26d2661"), looks := true }, kinds := [], alts := [], laidByText := true, laidKinds := [.data, .data, .data, .data, .sentinel, .sentinel, .pinned], laidTests := true, laidLooks := .later }
def LedgerSumsCardSaid : Prop := Claim7.holds Tryz.pinned (.plain (OpenSpec.ofChange ledgerSumsSpec)) ledgerSumsCard

/-- THE TIED CARD OF 'tranchelaw43.LedgerTrials'. -/
def ledgerTrialsCard : Claim7 := { stood := { row := ledgerTrialsRow, standIns := [], harness := (true, "1931e29712253cefb8344274b88dc338800d904abdb5b5ab9d2ed4a1c26d2661"), looks := true }, kinds := [], alts := [], laidByText := true, laidKinds := [.data, .data, .data, .data, .sentinel, .sentinel, .pinned], laidTests := true, laidLooks := .later }
def LedgerTrialsCardSaid : Prop := Claim7.holds Tryz.pinned (.plain (OpenSpec.ofChange ledgerTrialsSpec)) ledgerTrialsCard

/-- THE TIED CARD OF 'tranchelaw43.LedgerDifferences'. -/
def ledgerDifferencesCard : Claim7 := { stood := { row := ledgerDifferencesRow, standIns := [], harness := (true, "1931e29712253cefb8344274b88dc338800d904abdb5b5ab9d2ed4a1c26d2661"), looks := true }, kinds := [], alts := [], laidByText := true, laidKinds := [.data, .data, .data, .data, .sentinel, .sentinel, .pinned], laidTests := true, laidLooks := .later }
def LedgerDifferencesCardSaid : Prop := Claim7.holds Tryz.pinned (.plain (OpenSpec.ofChange ledgerDifferencesSpec)) ledgerDifferencesCard

/-- THE TIED CARD OF 'tranchelaw43.LedgerPeriods'. -/
def ledgerPeriodsCard : Claim7 := { stood := { row := ledgerPeriodsRow, standIns := [], harness := (true, "1931e29712253cefb8344274b88dc338800d904abdb5b5ab9d2ed4a1c26d2661"), looks := true }, kinds := [], alts := [], laidByText := true, laidKinds := [.data, .data, .data, .data, .sentinel, .sentinel, .pinned], laidTests := true, laidLooks := .later }
def LedgerPeriodsCardSaid : Prop := Claim7.holds Tryz.pinned (.plain (OpenSpec.ofChange ledgerPeriodsSpec)) ledgerPeriodsCard

/-- THE TIED CARD OF 'tranchelaw43.LedgerReads'. -/
def ledgerReadsCard : Claim7 := { stood := { row := ledgerReadsRow, standIns := [], harness := (true, "1931e29712253cefb8344274b88dc338800d904abdb5b5ab9d2ed4a1c26d2661"), looks := true }, kinds := [], alts := [], laidByText := true, laidKinds := [.data, .data, .data, .data, .sentinel, .sentinel, .pinned], laidTests := true, laidLooks := .later }
def LedgerReadsCardSaid : Prop := Claim7.holds Tryz.pinned (.plain (OpenSpec.ofChange ledgerReadsSpec)) ledgerReadsCard

/-- THE TIED CARD OF 'tranchelaw43.LedgerKinds'. -/
def ledgerKindsCard : Claim7 := { stood := { row := ledgerKindsRow, standIns := [], harness := (true, "1931e29712253cefb8344274b88dc338800d904abdb5b5ab9d2ed4a1c26d2661"), looks := true }, kinds := [], alts := [], laidByText := true, laidKinds := [.data, .data, .data, .data, .sentinel, .sentinel, .pinned], laidTests := true, laidLooks := .later }
def LedgerKindsCardSaid : Prop := Claim7.holds Tryz.pinned (.plain (OpenSpec.ofChange ledgerKindsSpec)) ledgerKindsCard

/-- THE SECOND FORM's CARD OF 'tranchelaw43.LedgerZero'. -/
def ledgerZeroUptoCard : Claim7 := { stood := { row := ledgerZeroUptoRow, standIns := [], harness := (true, "1931e29712253cefb8344274b88dc338800d904abdb5b5ab9d2ed4a1c26d2661"), looks := true }, kinds := [], alts := [], laidByText := true, laidKinds := [.data, .data, .data, .data, .sentinel, .sentinel, .pinned], laidTests := true, laidLooks := .later }
def LedgerZeroUptoCardSaid : Prop := Claim7.holds Tryz.pinned (.plain (OpenSpec.upto ledgerZeroSpec)) ledgerZeroUptoCard

/-- THE SECOND FORM's CARD OF 'tranchelaw43.LedgerRows'. -/
def ledgerRowsUptoCard : Claim7 := { stood := { row := ledgerRowsUptoRow, standIns := [], harness := (true, "1931e29712253cefb8344274b88dc338800d904abdb5b5ab9d2ed4a1c26d2661"), looks := true }, kinds := [], alts := [], laidByText := true, laidKinds := [.data, .data, .data, .data, .sentinel, .sentinel, .pinned], laidTests := true, laidLooks := .later }
def LedgerRowsUptoCardSaid : Prop := Claim7.holds Tryz.pinned (.plain (OpenSpec.upto ledgerRowsSpec)) ledgerRowsUptoCard

/-- THE SECOND FORM's CARD OF 'tranchelaw43.LedgerRollup'. -/
def ledgerRollupUptoCard : Claim7 := { stood := { row := ledgerRollupUptoRow, standIns := [], harness := (true, "1931e29712253cefb8344274b88dc338800d904abdb5b5ab9d2ed4a1c26d2661"), looks := true }, kinds := [], alts := [], laidByText := true, laidKinds := [.data, .data, .data, .data, .sentinel, .sentinel, .pinned], laidTests := true, laidLooks := .later }
def LedgerRollupUptoCardSaid : Prop := Claim7.holds Tryz.pinned (.plain (OpenSpec.upto ledgerRollupSpec)) ledgerRollupUptoCard

/-- THE SECOND FORM's CARD OF 'tranchelaw43.LedgerSums'. -/
def ledgerSumsUptoCard : Claim7 := { stood := { row := ledgerSumsUptoRow, standIns := [], harness := (true, "1931e29712253cefb8344274b88dc338800d904abdb5b5ab9d2ed4a1c26d2661"), looks := true }, kinds := [], alts := [], laidByText := true, laidKinds := [.data, .data, .data, .data, .sentinel, .sentinel, .pinned], laidTests := true, laidLooks := .later }
def LedgerSumsUptoCardSaid : Prop := Claim7.holds Tryz.pinned (.plain (OpenSpec.upto ledgerSumsSpec)) ledgerSumsUptoCard

/-- THE SECOND FORM's CARD OF 'tranchelaw43.LedgerTrials'. -/
def ledgerTrialsUptoCard : Claim7 := { stood := { row := ledgerTrialsUptoRow, standIns := [], harness := (true, "1931e29712253cefb8344274b88dc338800d904abdb5b5ab9d2ed4a1c26d2661"), looks := true }, kinds := [], alts := [], laidByText := true, laidKinds := [.data, .data, .data, .data, .sentinel, .sentinel, .pinned], laidTests := true, laidLooks := .later }
def LedgerTrialsUptoCardSaid : Prop := Claim7.holds Tryz.pinned (.plain (OpenSpec.upto ledgerTrialsSpec)) ledgerTrialsUptoCard

/-- THE SECOND FORM's CARD OF 'tranchelaw43.LedgerDifferences'. -/
def ledgerDifferencesUptoCard : Claim7 := { stood := { row := ledgerDifferencesUptoRow, standIns := [], harness := (true, "1931e29712253cefb8344274b88dc338800d904abdb5b5ab9d2ed4a1c26d2661"), looks := true }, kinds := [], alts := [], laidByText := true, laidKinds := [.data, .data, .data, .data, .sentinel, .sentinel, .pinned], laidTests := true, laidLooks := .later }
def LedgerDifferencesUptoCardSaid : Prop := Claim7.holds Tryz.pinned (.plain (OpenSpec.upto ledgerDifferencesSpec)) ledgerDifferencesUptoCard

/-- THE SECOND FORM's CARD OF 'tranchelaw43.LedgerPeriods'. -/
def ledgerPeriodsUptoCard : Claim7 := { stood := { row := ledgerPeriodsUptoRow, standIns := [], harness := (true, "1931e29712253cefb8344274b88dc338800d904abdb5b5ab9d2ed4a1c26d2661"), looks := true }, kinds := [], alts := [], laidByText := true, laidKinds := [.data, .data, .data, .data, .sentinel, .sentinel, .pinned], laidTests := true, laidLooks := .later }
def LedgerPeriodsUptoCardSaid : Prop := Claim7.holds Tryz.pinned (.plain (OpenSpec.upto ledgerPeriodsSpec)) ledgerPeriodsUptoCard

/-- THE SECOND FORM's CARD OF 'tranchelaw43.LedgerReads'. -/
def ledgerReadsUptoCard : Claim7 := { stood := { row := ledgerReadsUptoRow, standIns := [], harness := (true, "1931e29712253cefb8344274b88dc338800d904abdb5b5ab9d2ed4a1c26d2661"), looks := true }, kinds := [], alts := [], laidByText := true, laidKinds := [.data, .data, .data, .data, .sentinel, .sentinel, .pinned], laidTests := true, laidLooks := .later }
def LedgerReadsUptoCardSaid : Prop := Claim7.holds Tryz.pinned (.plain (OpenSpec.upto ledgerReadsSpec)) ledgerReadsUptoCard

/-- THE SECOND FORM's CARD OF 'tranchelaw43.LedgerKinds'. -/
def ledgerKindsUptoCard : Claim7 := { stood := { row := ledgerKindsUptoRow, standIns := [], harness := (true, "1931e29712253cefb8344274b88dc338800d904abdb5b5ab9d2ed4a1c26d2661"), looks := true }, kinds := [], alts := [], laidByText := true, laidKinds := [.data, .data, .data, .data, .sentinel, .sentinel, .pinned], laidTests := true, laidLooks := .later }
def LedgerKindsUptoCardSaid : Prop := Claim7.holds Tryz.pinned (.plain (OpenSpec.upto ledgerKindsSpec)) ledgerKindsUptoCard
end Rows
end Go.Proofs.YtohdpidlilhnjaaGreatDoor
