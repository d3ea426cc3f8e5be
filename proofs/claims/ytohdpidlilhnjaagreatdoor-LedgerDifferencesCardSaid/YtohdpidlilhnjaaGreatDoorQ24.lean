/- LedgerDifferences: the closed facts of the row, one by one (printed by gen_facts43.py). -/
import Derived.Test.YtohdpidlilhnjaaGreatDoorQ11
namespace Go.Proofs.YtohdpidlilhnjaaGreatDoor.ledgerDifferences
open Go.ChangeShapes Go.WideShapes Go.ChangeAt Go.RowKit

theorem fact0 : (Rows.ledgerDifferencesRow.wf (OpenSpec.ofChange Rows.ledgerDifferencesSpec)) = true := by kernel_rfl
theorem fact1 : (laidOutB Tryz.prog) = true := by kernel_rfl
theorem fact2 : (mapsRowed Tryz.prog) = true := by kernel_rfl
theorem fact3 : (Tryz.f8.params.all (Tryz.prog.readableRec ·)) = true := by kernel_rfl
theorem fact4 : (namedTie Tryz.prog Rows.ledgerDifferencesRow.named Rows.ledgerDifferencesSpec.vars) = true := by kernel_rfl
theorem fact5 : ((Rows.ledgerDifferencesRow.stops == [])) = true := by kernel_rfl
theorem fact6 : ((Tryz.prog.stops == [])) = true := by kernel_rfl
theorem fact7 : ((Rows.ledgerDifferencesRow.knobs == [])) = true := by kernel_rfl
theorem fact8 : ((Tryz.prog.stopKnobs == [])) = true := by kernel_rfl
theorem fact9 : ((Rows.ledgerDifferencesRow.inPlace == Tryz.prog.inPlace 8)) = true := by kernel_rfl
theorem fact10 : ((Rows.ledgerDifferencesRow.unfollowed == Tryz.prog.unfollowed 8)) = true := by kernel_rfl
theorem fact11 : ((Rows.ledgerDifferencesRow.recurses == Tryz.prog.recurses 8)) = true := by kernel_rfl
theorem fact12 : ((Rows.ledgerDifferencesRow.named == Tryz.prog.varsNamed 8)) = true := by kernel_rfl
theorem fact13 : ((Rows.ledgerDifferencesRow.maps == (Tryz.f8.params.toList ++ Rows.ledgerDifferencesSpec.plain.varTypes Tryz.prog).any (Tryz.prog.mapsRec ·))) = true := by kernel_rfl
theorem fact14 : ((Rows.ledgerDifferencesRow.ifaces == (Tryz.f8.params.toList ++ Rows.ledgerDifferencesSpec.plain.varTypes Tryz.prog).any (Tryz.prog.ifacesRec ·))) = true := by kernel_rfl
theorem fact15 : ((Rows.ledgerDifferencesRow.mapsOut == Tryz.prog.mapsAmong Tryz.f8.resultTypes.toList)) = true := by kernel_rfl
theorem fact16 : ((Rows.ledgerDifferencesRow.loops == (Tryz.f8.params.toList ++ Rows.ledgerDifferencesSpec.plain.varTypes Tryz.prog).any (Tryz.prog.loopsFrom ·))) = true := by kernel_rfl
theorem fact17 : ((Rows.ledgerDifferencesRow.wideKeys == (Tryz.f8.params.toList ++ Rows.ledgerDifferencesSpec.plain.varTypes Tryz.prog ++ Tryz.f8.resultTypes.toList).any (Tryz.prog.wideKeysFrom ·))) = true := by kernel_rfl
theorem fact18 : (Rows.ledgerDifferencesSpec.vars.all (Tryz.prog.varReadable ·)) = true := by kernel_rfl
theorem fact19 : (Tryz.f8.resultTypes.all (fun t => Tryz.prog.readableRec t && decide (t < Tryz.prog.types.size))) = true := by kernel_rfl
theorem fact20 : ((Rows.ledgerDifferencesRow.ifacesOut == Tryz.f8.resultTypes.toList.any (Tryz.prog.ifacesRec ·))) = true := by kernel_rfl
theorem fact21 : ((Rows.ledgerDifferencesRow.loopsOut == Tryz.f8.resultTypes.toList.any (Tryz.prog.loopsFrom ·))) = true := by kernel_rfl
theorem fact22 : ((Rows.ledgerDifferencesRow.plainKeys == Tryz.prog.plainKeys)) = true := by kernel_rfl
theorem fact23 : (Rows.ledgerDifferencesRow.shortTexts.isNone) = true := by kernel_rfl
theorem fact24 : (Tryz.prog.stopsHeard) = true := by kernel_rfl
theorem fact25 : (Tryz.prog.mayEnter) = true := by kernel_rfl
theorem fact26 : ((Rows.ledgerDifferencesRow.lifted == Tryz.prog.liftsFinal)) = true := by kernel_rfl
theorem fact27 : ((Tryz.prog.make == some Rows.ledgerDifferencesRow.make)) = true := by kernel_rfl
theorem fact28 : ((Rows.ledgerDifferencesRow.kinds == (if Rows.ledgerDifferencesRow.domain.isEmpty then [] else Tryz.f8.params.toList.map fun t => match Tryz.prog.underlying t with | some (.int k) => some k | _ => none))) = true := by kernel_rfl
theorem fact29 : ((Rows.ledgerDifferencesRow.pinned == Rows.ledgerDifferencesRow.pinnedBy)) = true := by kernel_rfl
theorem fact30 : ((Rows.ledgerDifferencesRow.veiled == (Tryz.f8.params.toList ++ Rows.ledgerDifferencesSpec.plain.varTypes Tryz.prog ++ Tryz.f8.resultTypes.toList).any (Tryz.prog.veiledRec ·))) = true := by kernel_rfl
theorem fact31 : (Rows.ledgerDifferencesRow.veiledFits Tryz.prog Tryz.f8.params.toList (Tryz.f8.params.toList ++ Rows.ledgerDifferencesSpec.plain.varTypes Tryz.prog ++ Tryz.f8.resultTypes.toList)) = true := by kernel_rfl
set_option maxRecDepth 100000 in
theorem facts : joinedFacts Tryz.prog 8 Tryz.f8 Rows.ledgerDifferencesSpec Rows.ledgerDifferencesRow = true :=
  Bool.and_eq_true_iff.2 ⟨Bool.and_eq_true_iff.2 ⟨Bool.and_eq_true_iff.2 ⟨Bool.and_eq_true_iff.2 ⟨Bool.and_eq_true_iff.2 ⟨Bool.and_eq_true_iff.2 ⟨Bool.and_eq_true_iff.2 ⟨Bool.and_eq_true_iff.2 ⟨Bool.and_eq_true_iff.2 ⟨Bool.and_eq_true_iff.2 ⟨Bool.and_eq_true_iff.2 ⟨Bool.and_eq_true_iff.2 ⟨Bool.and_eq_true_iff.2 ⟨Bool.and_eq_true_iff.2 ⟨Bool.and_eq_true_iff.2 ⟨Bool.and_eq_true_iff.2 ⟨Bool.and_eq_true_iff.2 ⟨Bool.and_eq_true_iff.2 ⟨Bool.and_eq_true_iff.2 ⟨Bool.and_eq_true_iff.2 ⟨Bool.and_eq_true_iff.2 ⟨Bool.and_eq_true_iff.2 ⟨Bool.and_eq_true_iff.2 ⟨Bool.and_eq_true_iff.2 ⟨Bool.and_eq_true_iff.2 ⟨Bool.and_eq_true_iff.2 ⟨Bool.and_eq_true_iff.2 ⟨Bool.and_eq_true_iff.2 ⟨Bool.and_eq_true_iff.2 ⟨Bool.and_eq_true_iff.2 ⟨Bool.and_eq_true_iff.2 ⟨fact0, fact1⟩, fact2⟩, fact3⟩, fact4⟩, fact5⟩, fact6⟩, fact7⟩, fact8⟩, fact9⟩, fact10⟩, fact11⟩, fact12⟩, fact13⟩, fact14⟩, fact15⟩, fact16⟩, fact17⟩, fact18⟩, fact19⟩, fact20⟩, fact21⟩, fact22⟩, fact23⟩, fact24⟩, fact25⟩, fact26⟩, fact27⟩, fact28⟩, fact29⟩, fact30⟩, fact31⟩
end Go.Proofs.YtohdpidlilhnjaaGreatDoor.ledgerDifferences
