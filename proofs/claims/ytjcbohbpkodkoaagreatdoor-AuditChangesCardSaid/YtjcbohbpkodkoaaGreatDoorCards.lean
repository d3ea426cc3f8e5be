/-
  DERIVED. GIVEN WITH THE SEED: THE CARDS: each row of YtjcbohbpkodkoaaGreatDoorRows.lean that lists a variable, with what it lists TIED to the program's text (the seventh form; the later family's looks); each row that meets fmt, with fmt's text TOLD by the authors' own Lean function (tested against real Go, not proved from fmt's source: count such statements apart). THE CARD IS WHAT COUNTS. Prove the row's statement (the work); the ties are given (YtjcbohbpkodkoaaGreatDoorTie.lean); close each card by the builder's one call (the guide's Derived/Test/ToyasCard.lean, 'card_holds'). Laid BY PROGRAM, IN A SANDBOX (cutbox-door.mjs). By AI agents, Wed Nov 11 2026. No macro, syntax, notation, axiom, sorry.
-/
import Derived.Test.YtjcbohbpkodkoaaGreatDoorRows
import GoSem.ClaimSeven
namespace Go.Proofs.YtjcbohbpkodkoaaGreatDoor
namespace Rows

/-- THE TIED CARD OF 'tranchelaw58.AuditTrails'. -/
def auditTrailsCard : Claim7 := { stood := { row := auditTrailsRow, standIns := [], harness := (true, "458d352de6c5239346a148f309be6c8db60c73b332aa54456c05c9e2746a6959"), looks := true }, kinds := [], alts := [], laidByText := true, laidKinds := [.data, .data, .data, .data, .sentinel, .sentinel, .pinned], laidTests := true, laidLooks := .later }
def AuditTrailsCardSaid : Prop := Claim7.holds Tryz.pinned (.plain (OpenSpec.ofChange auditTrailsSpec)) auditTrailsCard

/-- THE TIED CARD OF 'tranchelaw58.AuditChanges'. -/
def auditChangesCard : Claim7 := { stood := { row := auditChangesRow, standIns := [], harness := (true, "458d352de6c5239346a148f309be6c8db60c73b332aa54456c05c9e2746a6959"), looks := true }, kinds := [], alts := [], laidByText := true, laidKinds := [.data, .data, .data, .data, .sentinel, .sentinel, .pinned], laidTests := true, laidLooks := .later }
def AuditChangesCardSaid : Prop := Claim7.holds Tryz.pinned (.plain (OpenSpec.ofChange auditChangesSpec)) auditChangesCard

/-- THE SECOND FORM's CARD OF 'tranchelaw58.AuditTrails'. -/
def auditTrailsUptoCard : Claim7 := { stood := { row := auditTrailsUptoRow, standIns := [], harness := (true, "458d352de6c5239346a148f309be6c8db60c73b332aa54456c05c9e2746a6959"), looks := true }, kinds := [], alts := [], laidByText := true, laidKinds := [.data, .data, .data, .data, .sentinel, .sentinel, .pinned], laidTests := true, laidLooks := .later }
def AuditTrailsUptoCardSaid : Prop := Claim7.holds Tryz.pinned (.plain (OpenSpec.upto auditTrailsSpec)) auditTrailsUptoCard

/-- THE SECOND FORM's CARD OF 'tranchelaw58.AuditChanges'. -/
def auditChangesUptoCard : Claim7 := { stood := { row := auditChangesUptoRow, standIns := [], harness := (true, "458d352de6c5239346a148f309be6c8db60c73b332aa54456c05c9e2746a6959"), looks := true }, kinds := [], alts := [], laidByText := true, laidKinds := [.data, .data, .data, .data, .sentinel, .sentinel, .pinned], laidTests := true, laidLooks := .later }
def AuditChangesUptoCardSaid : Prop := Claim7.holds Tryz.pinned (.plain (OpenSpec.upto auditChangesSpec)) auditChangesUptoCard
end Rows
end Go.Proofs.YtjcbohbpkodkoaaGreatDoor
