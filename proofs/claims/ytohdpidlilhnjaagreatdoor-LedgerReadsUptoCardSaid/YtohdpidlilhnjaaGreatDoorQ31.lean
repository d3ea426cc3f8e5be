/- LedgerReads: the closed facts of the row, one by one (printed by gen_facts43.py). -/
import Derived.Test.YtohdpidlilhnjaaGreatDoorQ11
namespace Go.Proofs.YtohdpidlilhnjaaGreatDoor.ledgerReads
open Go.ChangeShapes Go.WideShapes Go.ChangeAt Go.RowKit

theorem fact0 : (Rows.ledgerReadsUptoRow.wf (OpenSpec.ofChange (Rows.OpenSpec.upto Rows.ledgerReadsSpec).bare)) = true := by kernel_rfl
theorem fact1 : (laidOutB Tryz.prog) = true := by kernel_rfl
theorem fact2 : (mapsRowed Tryz.prog) = true := by kernel_rfl
theorem fact3 : (Tryz.f10.params.all (Tryz.prog.readableRec ·)) = true := by kernel_rfl
theorem fact4 : (namedTie Tryz.prog Rows.ledgerReadsUptoRow.named (Rows.OpenSpec.upto Rows.ledgerReadsSpec).bare.vars) = true := by kernel_rfl
theorem fact5 : ((Rows.ledgerReadsUptoRow.stops == [])) = true := by kernel_rfl
theorem fact6 : ((Tryz.prog.stops == [])) = true := by kernel_rfl
theorem fact7 : ((Rows.ledgerReadsUptoRow.knobs == [])) = true := by kernel_rfl
theorem fact8 : ((Tryz.prog.stopKnobs == [])) = true := by kernel_rfl
theorem fact9 : ((Rows.ledgerReadsUptoRow.inPlace == Tryz.prog.inPlace 10)) = true := by kernel_rfl
theorem fact10 : ((Rows.ledgerReadsUptoRow.unfollowed == Tryz.prog.unfollowed 10)) = true := by kernel_rfl
theorem fact11 : ((Rows.ledgerReadsUptoRow.recurses == Tryz.prog.recurses 10)) = true := by kernel_rfl
theorem fact12 : ((Rows.ledgerReadsUptoRow.named == Tryz.prog.varsNamed 10)) = true := by kernel_rfl
theorem fact13 : ((Rows.ledgerReadsUptoRow.maps == (Tryz.f10.params.toList ++ (Rows.OpenSpec.upto Rows.ledgerReadsSpec).bare.plain.varTypes Tryz.prog).any (Tryz.prog.mapsRec ·))) = true := by kernel_rfl
theorem fact14 : ((Rows.ledgerReadsUptoRow.ifaces == (Tryz.f10.params.toList ++ (Rows.OpenSpec.upto Rows.ledgerReadsSpec).bare.plain.varTypes Tryz.prog).any (Tryz.prog.ifacesRec ·))) = true := by kernel_rfl
theorem fact15 : ((Rows.ledgerReadsUptoRow.mapsOut == Tryz.prog.mapsAmong Tryz.f10.resultTypes.toList)) = true := by kernel_rfl
theorem fact16 : ((Rows.ledgerReadsUptoRow.loops == (Tryz.f10.params.toList ++ (Rows.OpenSpec.upto Rows.ledgerReadsSpec).bare.plain.varTypes Tryz.prog).any (Tryz.prog.loopsFrom ·))) = true := by kernel_rfl
theorem fact17 : ((Rows.ledgerReadsUptoRow.wideKeys == (Tryz.f10.params.toList ++ (Rows.OpenSpec.upto Rows.ledgerReadsSpec).bare.plain.varTypes Tryz.prog ++ Tryz.f10.resultTypes.toList).any (Tryz.prog.wideKeysFrom ·))) = true := by kernel_rfl
theorem fact18 : ((Rows.OpenSpec.upto Rows.ledgerReadsSpec).bare.vars.all (Tryz.prog.varReadable ·)) = true := by kernel_rfl
theorem fact19 : (Tryz.f10.resultTypes.all (fun t => Tryz.prog.readableRec t && decide (t < Tryz.prog.types.size))) = true := by kernel_rfl
theorem fact20 : ((Rows.ledgerReadsUptoRow.ifacesOut == Tryz.f10.resultTypes.toList.any (Tryz.prog.ifacesRec ·))) = true := by kernel_rfl
theorem fact21 : ((Rows.ledgerReadsUptoRow.loopsOut == Tryz.f10.resultTypes.toList.any (Tryz.prog.loopsFrom ·))) = true := by kernel_rfl
theorem fact22 : ((Rows.ledgerReadsUptoRow.plainKeys == Tryz.prog.plainKeys)) = true := by kernel_rfl
theorem fact23 : (Rows.ledgerReadsUptoRow.shortTexts.isNone) = true := by kernel_rfl
theorem fact24 : (Tryz.prog.stopsHeard) = true := by kernel_rfl
theorem fact25 : (Tryz.prog.mayEnter) = true := by kernel_rfl
theorem fact26 : ((Rows.ledgerReadsUptoRow.lifted == Tryz.prog.liftsFinal)) = true := by kernel_rfl
theorem fact27 : ((Tryz.prog.make == some Rows.ledgerReadsUptoRow.make)) = true := by kernel_rfl
theorem fact28 : ((Rows.ledgerReadsUptoRow.kinds == (if Rows.ledgerReadsUptoRow.domain.isEmpty then [] else Tryz.f10.params.toList.map fun t => match Tryz.prog.underlying t with | some (.int k) => some k | _ => none))) = true := by kernel_rfl
theorem fact29 : ((Rows.ledgerReadsUptoRow.pinned == Rows.ledgerReadsUptoRow.pinnedBy)) = true := by kernel_rfl
theorem fact30 : ((Rows.ledgerReadsUptoRow.veiled == (Tryz.f10.params.toList ++ (Rows.OpenSpec.upto Rows.ledgerReadsSpec).bare.plain.varTypes Tryz.prog ++ Tryz.f10.resultTypes.toList).any (Tryz.prog.veiledRec ·))) = true := by kernel_rfl
theorem fact31 : (Rows.ledgerReadsUptoRow.veiledFits Tryz.prog Tryz.f10.params.toList (Tryz.f10.params.toList ++ (Rows.OpenSpec.upto Rows.ledgerReadsSpec).bare.plain.varTypes Tryz.prog ++ Tryz.f10.resultTypes.toList)) = true := by kernel_rfl
set_option maxRecDepth 100000 in
theorem facts : joinedFacts Tryz.prog 10 Tryz.f10 (Rows.OpenSpec.upto Rows.ledgerReadsSpec).bare Rows.ledgerReadsUptoRow = true :=
  Bool.and_eq_true_iff.2 ⟨Bool.and_eq_true_iff.2 ⟨Bool.and_eq_true_iff.2 ⟨Bool.and_eq_true_iff.2 ⟨Bool.and_eq_true_iff.2 ⟨Bool.and_eq_true_iff.2 ⟨Bool.and_eq_true_iff.2 ⟨Bool.and_eq_true_iff.2 ⟨Bool.and_eq_true_iff.2 ⟨Bool.and_eq_true_iff.2 ⟨Bool.and_eq_true_iff.2 ⟨Bool.and_eq_true_iff.2 ⟨Bool.and_eq_true_iff.2 ⟨Bool.and_eq_true_iff.2 ⟨Bool.and_eq_true_iff.2 ⟨Bool.and_eq_true_iff.2 ⟨Bool.and_eq_true_iff.2 ⟨Bool.and_eq_true_iff.2 ⟨Bool.and_eq_true_iff.2 ⟨Bool.and_eq_true_iff.2 ⟨Bool.and_eq_true_iff.2 ⟨Bool.and_eq_true_iff.2 ⟨Bool.and_eq_true_iff.2 ⟨Bool.and_eq_true_iff.2 ⟨Bool.and_eq_true_iff.2 ⟨Bool.and_eq_true_iff.2 ⟨Bool.and_eq_true_iff.2 ⟨Bool.and_eq_true_iff.2 ⟨Bool.and_eq_true_iff.2 ⟨Bool.and_eq_true_iff.2 ⟨Bool.and_eq_true_iff.2 ⟨fact0, fact1⟩, fact2⟩, fact3⟩, fact4⟩, fact5⟩, fact6⟩, fact7⟩, fact8⟩, fact9⟩, fact10⟩, fact11⟩, fact12⟩, fact13⟩, fact14⟩, fact15⟩, fact16⟩, fact17⟩, fact18⟩, fact19⟩, fact20⟩, fact21⟩, fact22⟩, fact23⟩, fact24⟩, fact25⟩, fact26⟩, fact27⟩, fact28⟩, fact29⟩, fact30⟩, fact31⟩
end Go.Proofs.YtohdpidlilhnjaaGreatDoor.ledgerReads
