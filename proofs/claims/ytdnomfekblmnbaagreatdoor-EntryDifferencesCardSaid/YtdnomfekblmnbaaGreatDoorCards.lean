/-
  DERIVED. GIVEN WITH THE SEED: THE CARDS: each row of YtdnomfekblmnbaaGreatDoorRows.lean that lists a variable, with what it lists TIED to the program's text (the seventh form; the later family's looks); each row that meets fmt, with fmt's text TOLD by the authors' own Lean function (tested against real Go, not proved from fmt's source: count such statements apart). THE CARD IS WHAT COUNTS. Prove the row's statement (the work); the ties are given (YtdnomfekblmnbaaGreatDoorTie.lean); close each card by the builder's one call (the guide's Derived/Test/ToyasCard.lean, 'card_holds'). Laid BY PROGRAM, IN A SANDBOX (cutbox-door.mjs). By AI agents, Wed Nov 11 2026. No macro, syntax, notation, axiom, sorry.
-/
import Derived.Test.YtdnomfekblmnbaaGreatDoorRows
import GoSem.ClaimSeven
namespace Go.Proofs.YtdnomfekblmnbaaGreatDoor
namespace Rows

/-- THE TIED CARD OF 'tranchelaw35.EntryLists'. -/
def entryListsCard : Claim7 := { stood := { row := entryListsRow, standIns := [], harness := (true, "f53ec98cce53f6e808194c6b45d610b4c8b26d04dd3b87abc017bfb07a6a8543"), looks := true }, kinds := [], alts := [], laidByText := true, laidKinds := [.data, .data, .data, .data, .sentinel, .sentinel, .pinned], laidTests := true, laidLooks := .later }
def EntryListsCardSaid : Prop := Claim7.holds Tryz.pinned (.plain (OpenSpec.ofChange entryListsSpec)) entryListsCard

/-- THE TIED CARD OF 'tranchelaw35.EntryOrder'. -/
def entryOrderCard : Claim7 := { stood := { row := entryOrderRow, standIns := [], harness := (true, "f53ec98cce53f6e808194c6b45d610b4c8b26d04dd3b87abc017bfb07a6a8543"), looks := true }, kinds := [], alts := [], laidByText := true, laidKinds := [.data, .data, .data, .data, .sentinel, .sentinel, .pinned], laidTests := true, laidLooks := .later }
def EntryOrderCardSaid : Prop := Claim7.holds Tryz.pinned (.plain (OpenSpec.ofChange entryOrderSpec)) entryOrderCard

/-- THE TIED CARD OF 'tranchelaw35.EntryChecks'. -/
def entryChecksCard : Claim7 := { stood := { row := entryChecksRow, standIns := [], harness := (true, "f53ec98cce53f6e808194c6b45d610b4c8b26d04dd3b87abc017bfb07a6a8543"), looks := true }, kinds := [], alts := [], laidByText := true, laidKinds := [.data, .data, .data, .data, .sentinel, .sentinel, .pinned], laidTests := true, laidLooks := .later }
def EntryChecksCardSaid : Prop := Claim7.holds Tryz.pinned (.plain (OpenSpec.ofChange entryChecksSpec)) entryChecksCard

/-- THE TIED CARD OF 'tranchelaw35.EntrySums'. -/
def entrySumsCard : Claim7 := { stood := { row := entrySumsRow, standIns := [], harness := (true, "f53ec98cce53f6e808194c6b45d610b4c8b26d04dd3b87abc017bfb07a6a8543"), looks := true }, kinds := [], alts := [], laidByText := true, laidKinds := [.data, .data, .data, .data, .sentinel, .sentinel, .pinned], laidTests := true, laidLooks := .later }
def EntrySumsCardSaid : Prop := Claim7.holds Tryz.pinned (.plain (OpenSpec.ofChange entrySumsSpec)) entrySumsCard

/-- THE TIED CARD OF 'tranchelaw35.EntryReversed'. -/
def entryReversedCard : Claim7 := { stood := { row := entryReversedRow, standIns := [], harness := (true, "f53ec98cce53f6e808194c6b45d610b4c8b26d04dd3b87abc017bfb07a6a8543"), looks := true }, kinds := [], alts := [], laidByText := true, laidKinds := [.data, .data, .data, .data, .sentinel, .sentinel, .pinned], laidTests := true, laidLooks := .later }
def EntryReversedCardSaid : Prop := Claim7.holds Tryz.pinned (.plain (OpenSpec.ofChange entryReversedSpec)) entryReversedCard

/-- THE TIED CARD OF 'tranchelaw35.EntryDifferences'. -/
def entryDifferencesCard : Claim7 := { stood := { row := entryDifferencesRow, standIns := [], harness := (true, "f53ec98cce53f6e808194c6b45d610b4c8b26d04dd3b87abc017bfb07a6a8543"), looks := true }, kinds := [], alts := [], laidByText := true, laidKinds := [.data, .data, .data, .data, .sentinel, .sentinel, .pinned], laidTests := true, laidLooks := .later }
def EntryDifferencesCardSaid : Prop := Claim7.holds Tryz.pinned (.plain (OpenSpec.ofChange entryDifferencesSpec)) entryDifferencesCard

/-- THE TIED CARD OF 'tranchelaw35.EntryNormal'. -/
def entryNormalCard : Claim7 := { stood := { row := entryNormalRow, standIns := [], harness := (true, "f53ec98cce53f6e808194c6b45d610b4c8b26d04dd3b87abc017bfb07a6a8543"), looks := true }, kinds := [], alts := [], laidByText := true, laidKinds := [.data, .data, .data, .data, .sentinel, .sentinel, .pinned], laidTests := true, laidLooks := .later }
def EntryNormalCardSaid : Prop := Claim7.holds Tryz.pinned (.plain (OpenSpec.ofChange entryNormalSpec)) entryNormalCard

/-- THE SECOND FORM's CARD OF 'tranchelaw35.EntryLists'. -/
def entryListsUptoCard : Claim7 := { stood := { row := entryListsUptoRow, standIns := [], harness := (true, "f53ec98cce53f6e808194c6b45d610b4c8b26d04dd3b87abc017bfb07a6a8543"), looks := true }, kinds := [], alts := [], laidByText := true, laidKinds := [.data, .data, .data, .data, .sentinel, .sentinel, .pinned], laidTests := true, laidLooks := .later }
def EntryListsUptoCardSaid : Prop := Claim7.holds Tryz.pinned (.plain (OpenSpec.upto entryListsSpec)) entryListsUptoCard

/-- THE SECOND FORM's CARD OF 'tranchelaw35.EntryOrder'. -/
def entryOrderUptoCard : Claim7 := { stood := { row := entryOrderUptoRow, standIns := [], harness := (true, "f53ec98cce53f6e808194c6b45d610b4c8b26d04dd3b87abc017bfb07a6a8543"), looks := true }, kinds := [], alts := [], laidByText := true, laidKinds := [.data, .data, .data, .data, .sentinel, .sentinel, .pinned], laidTests := true, laidLooks := .later }
def EntryOrderUptoCardSaid : Prop := Claim7.holds Tryz.pinned (.plain (OpenSpec.upto entryOrderSpec)) entryOrderUptoCard

/-- THE SECOND FORM's CARD OF 'tranchelaw35.EntryChecks'. -/
def entryChecksUptoCard : Claim7 := { stood := { row := entryChecksUptoRow, standIns := [], harness := (true, "f53ec98cce53f6e808194c6b45d610b4c8b26d04dd3b87abc017bfb07a6a8543"), looks := true }, kinds := [], alts := [], laidByText := true, laidKinds := [.data, .data, .data, .data, .sentinel, .sentinel, .pinned], laidTests := true, laidLooks := .later }
def EntryChecksUptoCardSaid : Prop := Claim7.holds Tryz.pinned (.plain (OpenSpec.upto entryChecksSpec)) entryChecksUptoCard

/-- THE SECOND FORM's CARD OF 'tranchelaw35.EntrySums'. -/
def entrySumsUptoCard : Claim7 := { stood := { row := entrySumsUptoRow, standIns := [], harness := (true, "f53ec98cce53f6e808194c6b45d610b4c8b26d04dd3b87abc017bfb07a6a8543"), looks := true }, kinds := [], alts := [], laidByText := true, laidKinds := [.data, .data, .data, .data, .sentinel, .sentinel, .pinned], laidTests := true, laidLooks := .later }
def EntrySumsUptoCardSaid : Prop := Claim7.holds Tryz.pinned (.plain (OpenSpec.upto entrySumsSpec)) entrySumsUptoCard

/-- THE SECOND FORM's CARD OF 'tranchelaw35.EntryReversed'. -/
def entryReversedUptoCard : Claim7 := { stood := { row := entryReversedUptoRow, standIns := [], harness := (true, "f53ec98cce53f6e808194c6b45d610b4c8b26d04dd3b87abc017bfb07a6a8543"), looks := true }, kinds := [], alts := [], laidByText := true, laidKinds := [.data, .data, .data, .data, .sentinel, .sentinel, .pinned], laidTests := true, laidLooks := .later }
def EntryReversedUptoCardSaid : Prop := Claim7.holds Tryz.pinned (.plain (OpenSpec.upto entryReversedSpec)) entryReversedUptoCard

/-- THE SECOND FORM's CARD OF 'tranchelaw35.EntryDifferences'. -/
def entryDifferencesUptoCard : Claim7 := { stood := { row := entryDifferencesUptoRow, standIns := [], harness := (true, "f53ec98cce53f6e808194c6b45d610b4c8b26d04dd3b87abc017bfb07a6a8543"), looks := true }, kinds := [], alts := [], laidByText := true, laidKinds := [.data, .data, .data, .data, .sentinel, .sentinel, .pinned], laidTests := true, laidLooks := .later }
def EntryDifferencesUptoCardSaid : Prop := Claim7.holds Tryz.pinned (.plain (OpenSpec.upto entryDifferencesSpec)) entryDifferencesUptoCard

/-- THE SECOND FORM's CARD OF 'tranchelaw35.EntryNormal'. -/
def entryNormalUptoCard : Claim7 := { stood := { row := entryNormalUptoRow, standIns := [], harness := (true, "f53ec98cce53f6e808194c6b45d610b4c8b26d04dd3b87abc017bfb07a6a8543"), looks := true }, kinds := [], alts := [], laidByText := true, laidKinds := [.data, .data, .data, .data, .sentinel, .sentinel, .pinned], laidTests := true, laidLooks := .later }
def EntryNormalUptoCardSaid : Prop := Claim7.holds Tryz.pinned (.plain (OpenSpec.upto entryNormalSpec)) entryNormalUptoCard
end Rows
end Go.Proofs.YtdnomfekblmnbaaGreatDoor
