/-
  DERIVED. GIVEN WITH THE SEED: THE CARDS: each row of YtejaehmoplohdaaGreatDoorRows.lean that lists a variable, with what it lists TIED to the program's text (the seventh form; the later family's looks); each row that meets fmt, with fmt's text TOLD by the authors' own Lean function (tested against real Go, not proved from fmt's source: count such statements apart). THE CARD IS WHAT COUNTS. Prove the row's statement (the work); the ties are given (YtejaehmoplohdaaGreatDoorTie.lean); close each card by the builder's one call (the guide's Derived/Test/ToyasCard.lean, 'card_holds'). Laid BY PROGRAM, IN A SANDBOX (cutbox-door.mjs). By AI agents, Wed Nov 11 2026. No macro, syntax, notation, axiom, sorry.
-/
import Derived.Test.YtejaehmoplohdaaGreatDoorRows
import GoSem.ClaimSeven
namespace Go.Proofs.YtejaehmoplohdaaGreatDoor
namespace Rows

/-- THE TIED CARD OF 'tranchelaw58.AuditTrees'. -/
def auditTreesCard : Claim7 := { stood := { row := auditTreesRow, standIns := [], harness := (true, "cced787cd5726fbe81411358c0a33eebc53aea17e2d2e0ca01dcd05a1dd448f4"), looks := true }, kinds := [], alts := [], laidByText := true, laidKinds := [.data, .data, .data, .data, .sentinel, .sentinel, .pinned], laidTests := true, laidLooks := .later }
def AuditTreesCardSaid : Prop := Claim7.holds Tryz.pinned (.plain (OpenSpec.ofChange auditTreesSpec)) auditTreesCard

/-- THE TIED CARD OF 'tranchelaw58.AuditVerify'. -/
def auditVerifyCard : Claim7 := { stood := { row := auditVerifyRow, standIns := [], harness := (true, "cced787cd5726fbe81411358c0a33eebc53aea17e2d2e0ca01dcd05a1dd448f4"), looks := true }, kinds := [], alts := [], laidByText := true, laidKinds := [.data, .data, .data, .data, .sentinel, .sentinel, .pinned], laidTests := true, laidLooks := .later }
def AuditVerifyCardSaid : Prop := Claim7.holds Tryz.pinned (.plain (OpenSpec.ofChange auditVerifySpec)) auditVerifyCard

/-- THE TIED CARD OF 'tranchelaw58.AuditProves'. -/
def auditProvesCard : Claim7 := { stood := { row := auditProvesRow, standIns := [], harness := (true, "cced787cd5726fbe81411358c0a33eebc53aea17e2d2e0ca01dcd05a1dd448f4"), looks := true }, kinds := [], alts := [], laidByText := true, laidKinds := [.data, .data, .data, .data, .sentinel, .sentinel, .pinned], laidTests := true, laidLooks := .later }
def AuditProvesCardSaid : Prop := Claim7.holds Tryz.pinned (.plain (OpenSpec.ofChange auditProvesSpec)) auditProvesCard

/-- THE TIED CARD OF 'tranchelaw58.AuditBalances'. -/
def auditBalancesCard : Claim7 := { stood := { row := auditBalancesRow, standIns := [], harness := (true, "cced787cd5726fbe81411358c0a33eebc53aea17e2d2e0ca01dcd05a1dd448f4"), looks := true }, kinds := [], alts := [], laidByText := true, laidKinds := [.data, .data, .data, .data, .sentinel, .sentinel, .pinned], laidTests := true, laidLooks := .later }
def AuditBalancesCardSaid : Prop := Claim7.holds Tryz.pinned (.plain (OpenSpec.ofChange auditBalancesSpec)) auditBalancesCard

/-- THE TIED CARD OF 'tranchelaw58.AuditSums'. -/
def auditSumsCard : Claim7 := { stood := { row := auditSumsRow, standIns := [], harness := (true, "cced787cd5726fbe81411358c0a33eebc53aea17e2d2e0ca01dcd05a1dd448f4"), looks := true }, kinds := [], alts := [], laidByText := true, laidKinds := [.data, .data, .data, .data, .sentinel, .sentinel, .pinned], laidTests := true, laidLooks := .later }
def AuditSumsCardSaid : Prop := Claim7.holds Tryz.pinned (.plain (OpenSpec.ofChange auditSumsSpec)) auditSumsCard

/-- THE TIED CARD OF 'tranchelaw58.AuditForged'. -/
def auditForgedCard : Claim7 := { stood := { row := auditForgedRow, standIns := [], harness := (true, "cced787cd5726fbe81411358c0a33eebc53aea17e2d2e0ca01dcd05a1dd448f4"), looks := true }, kinds := [], alts := [], laidByText := true, laidKinds := [.data, .data, .data, .data, .sentinel, .sentinel, .pinned], laidTests := true, laidLooks := .later }
def AuditForgedCardSaid : Prop := Claim7.holds Tryz.pinned (.plain (OpenSpec.ofChange auditForgedSpec)) auditForgedCard

/-- THE SECOND FORM's CARD OF 'tranchelaw58.AuditTrees'. -/
def auditTreesUptoCard : Claim7 := { stood := { row := auditTreesUptoRow, standIns := [], harness := (true, "cced787cd5726fbe81411358c0a33eebc53aea17e2d2e0ca01dcd05a1dd448f4"), looks := true }, kinds := [], alts := [], laidByText := true, laidKinds := [.data, .data, .data, .data, .sentinel, .sentinel, .pinned], laidTests := true, laidLooks := .later }
def AuditTreesUptoCardSaid : Prop := Claim7.holds Tryz.pinned (.plain (OpenSpec.upto auditTreesSpec)) auditTreesUptoCard

/-- THE SECOND FORM's CARD OF 'tranchelaw58.AuditVerify'. -/
def auditVerifyUptoCard : Claim7 := { stood := { row := auditVerifyUptoRow, standIns := [], harness := (true, "cced787cd5726fbe81411358c0a33eebc53aea17e2d2e0ca01dcd05a1dd448f4"), looks := true }, kinds := [], alts := [], laidByText := true, laidKinds := [.data, .data, .data, .data, .sentinel, .sentinel, .pinned], laidTests := true, laidLooks := .later }
def AuditVerifyUptoCardSaid : Prop := Claim7.holds Tryz.pinned (.plain (OpenSpec.upto auditVerifySpec)) auditVerifyUptoCard

/-- THE SECOND FORM's CARD OF 'tranchelaw58.AuditProves'. -/
def auditProvesUptoCard : Claim7 := { stood := { row := auditProvesUptoRow, standIns := [], harness := (true, "cced787cd5726fbe81411358c0a33eebc53aea17e2d2e0ca01dcd05a1dd448f4"), looks := true }, kinds := [], alts := [], laidByText := true, laidKinds := [.data, .data, .data, .data, .sentinel, .sentinel, .pinned], laidTests := true, laidLooks := .later }
def AuditProvesUptoCardSaid : Prop := Claim7.holds Tryz.pinned (.plain (OpenSpec.upto auditProvesSpec)) auditProvesUptoCard

/-- THE SECOND FORM's CARD OF 'tranchelaw58.AuditBalances'. -/
def auditBalancesUptoCard : Claim7 := { stood := { row := auditBalancesUptoRow, standIns := [], harness := (true, "cced787cd5726fbe81411358c0a33eebc53aea17e2d2e0ca01dcd05a1dd448f4"), looks := true }, kinds := [], alts := [], laidByText := true, laidKinds := [.data, .data, .data, .data, .sentinel, .sentinel, .pinned], laidTests := true, laidLooks := .later }
def AuditBalancesUptoCardSaid : Prop := Claim7.holds Tryz.pinned (.plain (OpenSpec.upto auditBalancesSpec)) auditBalancesUptoCard

/-- THE SECOND FORM's CARD OF 'tranchelaw58.AuditSums'. -/
def auditSumsUptoCard : Claim7 := { stood := { row := auditSumsUptoRow, standIns := [], harness := (true, "cced787cd5726fbe81411358c0a33eebc53aea17e2d2e0ca01dcd05a1dd448f4"), looks := true }, kinds := [], alts := [], laidByText := true, laidKinds := [.data, .data, .data, .data, .sentinel, .sentinel, .pinned], laidTests := true, laidLooks := .later }
def AuditSumsUptoCardSaid : Prop := Claim7.holds Tryz.pinned (.plain (OpenSpec.upto auditSumsSpec)) auditSumsUptoCard

/-- THE SECOND FORM's CARD OF 'tranchelaw58.AuditForged'. -/
def auditForgedUptoCard : Claim7 := { stood := { row := auditForgedUptoRow, standIns := [], harness := (true, "cced787cd5726fbe81411358c0a33eebc53aea17e2d2e0ca01dcd05a1dd448f4"), looks := true }, kinds := [], alts := [], laidByText := true, laidKinds := [.data, .data, .data, .data, .sentinel, .sentinel, .pinned], laidTests := true, laidLooks := .later }
def AuditForgedUptoCardSaid : Prop := Claim7.holds Tryz.pinned (.plain (OpenSpec.upto auditForgedSpec)) auditForgedUptoCard
end Rows
end Go.Proofs.YtejaehmoplohdaaGreatDoor
