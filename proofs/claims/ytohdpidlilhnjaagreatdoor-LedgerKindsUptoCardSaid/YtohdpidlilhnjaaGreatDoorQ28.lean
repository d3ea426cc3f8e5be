/- LedgerKinds: the closed facts of the row, one by one (printed by gen_facts43.py). -/
import Derived.Test.YtohdpidlilhnjaaGreatDoorQ11
namespace Go.Proofs.YtohdpidlilhnjaaGreatDoor.ledgerKinds
open Go.ChangeShapes Go.WideShapes Go.ChangeAt Go.RowKit

theorem fact0 : (Rows.ledgerKindsUptoRow.wf (OpenSpec.ofChange (Rows.OpenSpec.upto Rows.ledgerKindsSpec).bare)) = true := by kernel_rfl
theorem fact1 : (laidOutB Tryz.prog) = true := by kernel_rfl
theorem fact2 : (mapsRowed Tryz.prog) = true := by kernel_rfl
theorem fact3 : (Tryz.f11.params.all (Tryz.prog.readableRec ·)) = true := by kernel_rfl
theorem fact4 : (namedTie Tryz.prog Rows.ledgerKindsUptoRow.named (Rows.OpenSpec.upto Rows.ledgerKindsSpec).bare.vars) = true := by kernel_rfl
theorem fact5 : ((Rows.ledgerKindsUptoRow.stops == [])) = true := by kernel_rfl
theorem fact6 : ((Tryz.prog.stops == [])) = true := by kernel_rfl
theorem fact7 : ((Rows.ledgerKindsUptoRow.knobs == [])) = true := by kernel_rfl
theorem fact8 : ((Tryz.prog.stopKnobs == [])) = true := by kernel_rfl
theorem fact9 : ((Rows.ledgerKindsUptoRow.inPlace == Tryz.prog.inPlace 11)) = true := by kernel_rfl
theorem fact10 : ((Rows.ledgerKindsUptoRow.unfollowed == Tryz.prog.unfollowed 11)) = true := by kernel_rfl
theorem fact11 : ((Rows.ledgerKindsUptoRow.recurses == Tryz.prog.recurses 11)) = true := by kernel_rfl
theorem fact12 : ((Rows.ledgerKindsUptoRow.named == Tryz.prog.varsNamed 11)) = true := by kernel_rfl
theorem fact13 : ((Rows.ledgerKindsUptoRow.maps == (Tryz.f11.params.toList ++ (Rows.OpenSpec.upto Rows.ledgerKindsSpec).bare.plain.varTypes Tryz.prog).any (Tryz.prog.mapsRec ·))) = true := by kernel_rfl
theorem fact14 : ((Rows.ledgerKindsUptoRow.ifaces == (Tryz.f11.params.toList ++ (Rows.OpenSpec.upto Rows.ledgerKindsSpec).bare.plain.varTypes Tryz.prog).any (Tryz.prog.ifacesRec ·))) = true := by kernel_rfl
theorem fact15 : ((Rows.ledgerKindsUptoRow.mapsOut == Tryz.prog.mapsAmong Tryz.f11.resultTypes.toList)) = true := by kernel_rfl
theorem fact16 : ((Rows.ledgerKindsUptoRow.loops == (Tryz.f11.params.toList ++ (Rows.OpenSpec.upto Rows.ledgerKindsSpec).bare.plain.varTypes Tryz.prog).any (Tryz.prog.loopsFrom ·))) = true := by kernel_rfl
theorem fact17 : ((Rows.ledgerKindsUptoRow.wideKeys == (Tryz.f11.params.toList ++ (Rows.OpenSpec.upto Rows.ledgerKindsSpec).bare.plain.varTypes Tryz.prog ++ Tryz.f11.resultTypes.toList).any (Tryz.prog.wideKeysFrom ·))) = true := by kernel_rfl
theorem fact18 : ((Rows.OpenSpec.upto Rows.ledgerKindsSpec).bare.vars.all (Tryz.prog.varReadable ·)) = true := by kernel_rfl
theorem fact19 : (Tryz.f11.resultTypes.all (fun t => Tryz.prog.readableRec t && decide (t < Tryz.prog.types.size))) = true := by kernel_rfl
theorem fact20 : ((Rows.ledgerKindsUptoRow.ifacesOut == Tryz.f11.resultTypes.toList.any (Tryz.prog.ifacesRec ·))) = true := by kernel_rfl
theorem fact21 : ((Rows.ledgerKindsUptoRow.loopsOut == Tryz.f11.resultTypes.toList.any (Tryz.prog.loopsFrom ·))) = true := by kernel_rfl
theorem fact22 : ((Rows.ledgerKindsUptoRow.plainKeys == Tryz.prog.plainKeys)) = true := by kernel_rfl
theorem fact23 : (Rows.ledgerKindsUptoRow.shortTexts.isNone) = true := by kernel_rfl
theorem fact24 : (Tryz.prog.stopsHeard) = true := by kernel_rfl
theorem fact25 : (Tryz.prog.mayEnter) = true := by kernel_rfl
theorem fact26 : ((Rows.ledgerKindsUptoRow.lifted == Tryz.prog.liftsFinal)) = true := by kernel_rfl
theorem fact27 : ((Tryz.prog.make == some Rows.ledgerKindsUptoRow.make)) = true := by kernel_rfl
theorem fact28 : ((Rows.ledgerKindsUptoRow.kinds == (if Rows.ledgerKindsUptoRow.domain.isEmpty then [] else Tryz.f11.params.toList.map fun t => match Tryz.prog.underlying t with | some (.int k) => some k | _ => none))) = true := by kernel_rfl
theorem fact29 : ((Rows.ledgerKindsUptoRow.pinned == Rows.ledgerKindsUptoRow.pinnedBy)) = true := by kernel_rfl
theorem fact30 : ((Rows.ledgerKindsUptoRow.veiled == (Tryz.f11.params.toList ++ (Rows.OpenSpec.upto Rows.ledgerKindsSpec).bare.plain.varTypes Tryz.prog ++ Tryz.f11.resultTypes.toList).any (Tryz.prog.veiledRec ·))) = true := by kernel_rfl
theorem fact31 : (Rows.ledgerKindsUptoRow.veiledFits Tryz.prog Tryz.f11.params.toList (Tryz.f11.params.toList ++ (Rows.OpenSpec.upto Rows.ledgerKindsSpec).bare.plain.varTypes Tryz.prog ++ Tryz.f11.resultTypes.toList)) = true := by kernel_rfl
set_option maxRecDepth 100000 in
theorem facts : joinedFacts Tryz.prog 11 Tryz.f11 (Rows.OpenSpec.upto Rows.ledgerKindsSpec).bare Rows.ledgerKindsUptoRow = true :=
  Bool.and_eq_true_iff.2 ⟨Bool.and_eq_true_iff.2 ⟨Bool.and_eq_true_iff.2 ⟨Bool.and_eq_true_iff.2 ⟨Bool.and_eq_true_iff.2 ⟨Bool.and_eq_true_iff.2 ⟨Bool.and_eq_true_iff.2 ⟨Bool.and_eq_true_iff.2 ⟨Bool.and_eq_true_iff.2 ⟨Bool.and_eq_true_iff.2 ⟨Bool.and_eq_true_iff.2 ⟨Bool.and_eq_true_iff.2 ⟨Bool.and_eq_true_iff.2 ⟨Bool.and_eq_true_iff.2 ⟨Bool.and_eq_true_iff.2 ⟨Bool.and_eq_true_iff.2 ⟨Bool.and_eq_true_iff.2 ⟨Bool.and_eq_true_iff.2 ⟨Bool.and_eq_true_iff.2 ⟨Bool.and_eq_true_iff.2 ⟨Bool.and_eq_true_iff.2 ⟨Bool.and_eq_true_iff.2 ⟨Bool.and_eq_true_iff.2 ⟨Bool.and_eq_true_iff.2 ⟨Bool.and_eq_true_iff.2 ⟨Bool.and_eq_true_iff.2 ⟨Bool.and_eq_true_iff.2 ⟨Bool.and_eq_true_iff.2 ⟨Bool.and_eq_true_iff.2 ⟨Bool.and_eq_true_iff.2 ⟨Bool.and_eq_true_iff.2 ⟨fact0, fact1⟩, fact2⟩, fact3⟩, fact4⟩, fact5⟩, fact6⟩, fact7⟩, fact8⟩, fact9⟩, fact10⟩, fact11⟩, fact12⟩, fact13⟩, fact14⟩, fact15⟩, fact16⟩, fact17⟩, fact18⟩, fact19⟩, fact20⟩, fact21⟩, fact22⟩, fact23⟩, fact24⟩, fact25⟩, fact26⟩, fact27⟩, fact28⟩, fact29⟩, fact30⟩, fact31⟩
end Go.Proofs.YtohdpidlilhnjaaGreatDoor.ledgerKinds
