/-
  DERIVED. GIVEN WITH THE SEED: THE CARDS: each row of YtklmgogppljolaaDoorRows.lean that lists a variable, with what it lists TIED to the program's text (the seventh form; the later family's looks); each row that meets fmt, with fmt's text TOLD by the authors' own Lean function (tested against real Go, not proved from fmt's source: count such statements apart). THE CARD IS WHAT COUNTS. Prove the row's statement (the work); the ties are given (YtklmgogppljolaaDoorTie.lean); close each card by the builder's one call (the guide's Derived/Test/ToyasCard.lean, 'card_holds'). Laid BY PROGRAM, IN A SANDBOX (cutbox-door.mjs). By AI agents, Wed Nov 11 2026. No macro, syntax, notation, axiom, sorry.
-/
import Derived.Test.YtklmgogppljolaaDoorRows
import GoSem.ClaimSeven
namespace Go.Proofs.YtklmgogppljolaaDoor
namespace Rows

/-- THE TIED CARD OF 'tranchelaw34.AccountTemplates'. -/
def accountTemplatesCard : Claim7 := { stood := { row := accountTemplatesRow, standIns := [], harness := (true, "37a032d67a2b20f230bce00b8fe2bbb8e72573c03fa7082c452b9504345bda66"), looks := false }, kinds := [], alts := [], laidByText := true, laidKinds := [.data, .pinned], laidTests := true, laidLooks := .later }
def AccountTemplatesCardSaid : Prop := Claim7.holds Tryd.pinned (.plain (OpenSpec.ofChange accountTemplatesSpec)) accountTemplatesCard

/-- THE TIED CARD OF 'tranchelaw34.AccountParents'. -/
def accountParentsCard : Claim7 := { stood := { row := accountParentsRow, standIns := [], harness := (true, "37a032d67a2b20f230bce00b8fe2bbb8e72573c03fa7082c452b9504345bda66"), looks := false }, kinds := [], alts := [], laidByText := true, laidKinds := [.data, .pinned], laidTests := true, laidLooks := .later }
def AccountParentsCardSaid : Prop := Claim7.holds Tryd.pinned (.plain (OpenSpec.ofChange accountParentsSpec)) accountParentsCard

/-- THE SECOND FORM's CARD OF 'tranchelaw34.AccountTemplates'. -/
def accountTemplatesUptoCard : Claim7 := { stood := { row := accountTemplatesUptoRow, standIns := [], harness := (true, "37a032d67a2b20f230bce00b8fe2bbb8e72573c03fa7082c452b9504345bda66"), looks := false }, kinds := [], alts := [], laidByText := true, laidKinds := [.data, .pinned], laidTests := true, laidLooks := .later }
def AccountTemplatesUptoCardSaid : Prop := Claim7.holds Tryd.pinned (.plain (OpenSpec.upto accountTemplatesSpec)) accountTemplatesUptoCard

/-- THE SECOND FORM's CARD OF 'tranchelaw34.AccountParents'. -/
def accountParentsUptoCard : Claim7 := { stood := { row := accountParentsUptoRow, standIns := [], harness := (true, "37a032d67a2b20f230bce00b8fe2bbb8e72573c03fa7082c452b9504345bda66"), looks := false }, kinds := [], alts := [], laidByText := true, laidKinds := [.data, .pinned], laidTests := true, laidLooks := .later }
def AccountParentsUptoCardSaid : Prop := Claim7.holds Tryd.pinned (.plain (OpenSpec.upto accountParentsSpec)) accountParentsUptoCard
end Rows
end Go.Proofs.YtklmgogppljolaaDoor
