/- LedgerPeriods: for all entries, a day and a number of days the call of tranchelaw43.LedgerPeriods returns true, and its arguments read as before. The card ties the variables of Go's library that it lists; the seat is a pruned copy: of packages left out the card says nothing. -/
import Derived.Test.YtohdpidlilhnjaaGreatDoorQ11
import Derived.Test.YtohdpidlilhnjaaGreatDoorQ10
/- LedgerPeriods: the walk. -/
namespace Go.Proofs.YtohdpidlilhnjaaGreatDoor
open Go.RowKit Go.Maps Num

theorem below_ah {w W w' : World} (h : Below w.heap.size w W) (hb : Below W.heap.size W w') : Below w.heap.size w w' := h.trans (hb.mono h.size)
theorem nrm_13 {l : List Ln} (h : ∀ x ∈ l, Sml x) (hl : l.length ≤ 640) (h13 : ∀ x ∈ l, x.2.2.length ≤ 13) (hc : ∀ x ∈ l, canB x = true) : ∀ z ∈ nrmL l, Sml z ∧ z.2.2.length ≤ 20 := fun z hz => by
  have hn := nrmL_of l hc
  obtain ⟨x, hx, e⟩ := nrm_key hn hz
  have h1 := ((hn.mem z).1 hz).1
  have h2 := tot_13 l h13 (key z)
  have h3 : l.length * num13 ≤ 640 * num13 := Nat.mul_le_mul_right _ hl
  have h4 : 640 * num13 < 10 ^ 16 := by decide
  have h5 := txt_bd (k := 16) (show (tot l (key z)).natAbs < 10 ^ 16 by omega)
  have h6 : z.2.2.length ≤ 20 := by rw [h1]; omega
  simp only [key, Prod.mk.injEq] at e
  obtain ⟨s1, s2, _⟩ := h x hx
  exact ⟨⟨by rw [← e.1]; exact s1, by rw [← e.2]; exact s2, by omega⟩, h6⟩
/-- sizes of what fine accepts -/
theorem fit_flat {ps : List RE} (h : greatB ps = false) (p : Int → Bool) : (∀ x ∈ flat (ps.map Prod.snd) p, Sml x) ∧ (∀ x ∈ flat (ps.map Prod.snd) p, x.2.2.length ≤ 13) := by
  have hf := (great_parts h).2
  constructor
  · intro x hx
    obtain ⟨e, he, _, hx⟩ := flat_mem hx
    obtain ⟨q, hq, rfl⟩ := List.mem_map.1 he
    exact (hf q hq).sml x hx
  · intro x hx
    obtain ⟨e, he, _, hx⟩ := flat_mem hx
    obtain ⟨q, hq, rfl⟩ := List.mem_map.1 he
    exact ((hf q hq).ln x hx).2.2
theorem fit_nrm {ps : List RE} (h : greatB ps = false) (hok : OkL (ps.map Prod.snd)) (p : Int → Bool) : (∀ z ∈ nrmL (flat (ps.map Prod.snd) p), Sml z ∧ z.2.2.length ≤ 20) ∧ (nrmL (flat (ps.map Prod.snd) p)).length ≤ 640 := by
  obtain ⟨h1, h2⟩ := fit_flat h p
  have h3 := flatE_len (ps.map Prod.snd) p hok.len
  rw [List.length_map] at h3
  have h4 := (great_parts h).1
  exact ⟨nrm_13 h1 (by omega) h2 (hok.can p), Nat.le_trans (nrmL_len _) (by omega)⟩
theorem fit_z {ps : List RE} (h : greatB ps = false) : ∀ p ∈ ps, p.2.2.1.length ≤ 1000 := fun p hp => Nat.le_trans ((great_parts h).2 p hp).cause (by decide)
theorem tr_ok {es : List En} {d : Int} (h : OkL es) (h0 : -25567 ≤ d) (h1 : d ≤ 84005) : trL es d = nrmL (flat es fun x => decide (x ≤ d)) ∧ trI es d = 0 := by
  have hv : valD d = true := by unfold valD; rw [decide_eq_true h0, decide_eq_true h1]; rfl
  have ha := okL_all.2 h
  unfold trL trI
  rw [if_pos ⟨ha, hv⟩, if_neg (by rw [ha]; decide), if_neg (by rw [hv]; decide)]
  exact ⟨rfl, rfl⟩
theorem ac_ok {es : List En} {f t : Int} (h : OkL es) (h0 : -25567 ≤ f) (h1 : t ≤ 84005) (h2 : f ≤ t) : acL es f t = nrmL (flat es (acB f t)) ∧ acI es f t = 0 := by
  have hv : (valD f && valD t) = true := by unfold valD; rw [decide_eq_true h0, decide_eq_true h1, decide_eq_true (show f ≤ 84005 by omega), decide_eq_true (show -25567 ≤ t by omega)]; rfl
  have ha := okL_all.2 h
  have hi : acI es f t = 0 := by
    unfold acI
    rw [if_neg (by rw [ha]; decide), if_neg (by rw [hv]; decide), if_neg (by omega)]
  unfold acL
  rw [if_pos hi]
  exact ⟨rfl, hi⟩
theorem listc_rds {l : List Ln} {i : Int} {w w' : World} {e : Ending} (h : ListC l i w e w') : ∃ A c, e = .returned (.tuple #[.slice A l.length c, .int .i64 i]) ∧ rowB.Rds w' A l.length c l ∧ Below w.heap.size w w' := by
  obtain ⟨v, rfl, ho, hb⟩ := h
  obtain ⟨A, c, rfl, hr⟩ := ho.rds
  exact ⟨A, c, rfl, hr, hb⟩
set_option maxRecDepth 100000 in
set_option maxHeartbeats 4000000 in
theorem periods_out (A : Option Addr) (n c : Nat) (ps : List RE) (d dd to_ : Int) (w : World) (hl : rowE.Rds w A n c ps) (hr : ∀ p ∈ ps, RdG w p) (ht : Tab w) (hm : ML w) (d0 : 0 ≤ dd) (d1 : dd ≤ 255) (hto : IntKind.i64.wrap (d + dd) = to_)
    (hc : ¬ (fineB ps = true ∧ -25567 ≤ d ∧ to_ < 84005 ∧ d ≤ to_)) : Calls Tryz.prog 9 #[.slice A n c, .int .i64 d, .int .u8 dd] w (BoolPost true w) := by
  have HFa := Lib.hid (fine_any A n c ps w hl hr ht hm)
  unfold BoolPost at HFa
  have HW := Lib.hid (fun W (h : Below w.heap.size w W) => awake_any W (ht.below h) (hm.below h))
  unfold BoolPost at HW
  have HP := Lib.hid (fun W (h : Below w.heap.size w W) => (show BoolPost true w (.returned (.bool true)) W from ⟨rfl, h⟩))
  have wd : IntKind.i64.wrap dd = dd := IntWalk.i64_in _ (by omega)
  clear hl hr ht hm
  generalize BoolPost true w = Post at *
  cases hf : fineB ps
  · rw [hf] at HFa
    clear hf hc
    go_enter Tryz.func9, Tryz.ntmps9
    go_wp2_with fail
    refine HFa.out.mono ?_
    rintro e w1 ⟨rfl, hb⟩
    have B1 := Lib.hid hb
    clear hb
    go_wp2_with fail
    refine (HW.out _ B1.out).mono ?_
    rintro e w2 ⟨rfl, hb⟩
    have B2 := Lib.hid (below_next B1.out hb ⟨rfl, rfl, rfl, rfl⟩)
    clear hb B1
    go_wp2_with fail
    exact HP.out _ B2.out
  rw [hf] at HFa hc
  by_cases h0 : -25567 ≤ d
  case neg =>
    have e1 : decide (d < -25567) = true := decide_eq_true (by omega)
    clear hf hc h0
    go_enter Tryz.func9, Tryz.ntmps9
    go_wp2_with fail
    refine HFa.out.mono ?_
    rintro e w1 ⟨rfl, hb⟩
    have B1 := Lib.hid hb
    clear hb
    go_wp2_with fail
    refine (HW.out _ B1.out).mono ?_
    rintro e w2 ⟨rfl, hb⟩
    have B2 := Lib.hid (below_next B1.out hb ⟨rfl, rfl, rfl, rfl⟩)
    clear hb B1
    go_wp2_with fail
    exact HP.out _ B2.out
  have e1 : decide (d < -25567) = false := decide_eq_false (by omega)
  by_cases h1 : to_ < 84005
  case neg =>
    have e2 : decide (84005 ≤ to_) = true := decide_eq_true (by omega)
    clear hf hc h0 h1
    go_enter Tryz.func9, Tryz.ntmps9
    go_wp2_with fail
    refine HFa.out.mono ?_
    rintro e w1 ⟨rfl, hb⟩
    have B1 := Lib.hid hb
    clear hb
    go_wp2_with fail
    refine (HW.out _ B1.out).mono ?_
    rintro e w2 ⟨rfl, hb⟩
    have B2 := Lib.hid (below_next B1.out hb ⟨rfl, rfl, rfl, rfl⟩)
    clear hb B1
    go_wp2_with fail
    exact HP.out _ B2.out
  have e2 : decide (84005 ≤ to_) = false := decide_eq_false (by omega)
  have h2 : to_ < d := by
    rcases Int.lt_or_le to_ d with h | h
    · exact h
    · exact absurd ⟨rfl, h0, h1, h⟩ hc
  have e3 : decide (to_ < d) = true := decide_eq_true h2
  clear hf hc h0 h1 h2
  go_enter Tryz.func9, Tryz.ntmps9
  go_wp2_with fail
  refine HFa.out.mono ?_
  rintro e w1 ⟨rfl, hb⟩
  have B1 := Lib.hid hb
  clear hb
  go_wp2_with fail
  refine (HW.out _ B1.out).mono ?_
  rintro e w2 ⟨rfl, hb⟩
  have B2 := Lib.hid (below_next B1.out hb ⟨rfl, rfl, rfl, rfl⟩)
  clear hb B1
  go_wp2_with fail
  exact HP.out _ B2.out
set_option maxRecDepth 100000 in
set_option maxHeartbeats 4000000 in
theorem periods_in (A : Option Addr) (n c : Nat) (ps : List RE) (d dd to_ : Int) (w : World) (hl : rowE.Rds w A n c ps) (hr : ∀ p ∈ ps, RdG w p) (ht : Tab w) (hm : ML w) (d0 : 0 ≤ dd) (d1 : dd ≤ 255) (hto : IntKind.i64.wrap (d + dd) = to_)
    (hf : fineB ps = true) (h0 : -25567 ≤ d) (h1 : to_ < 84005) (h2 : d ≤ to_) : Calls Tryz.prog 9 #[.slice A n c, .int .i64 d, .int .u8 dd] w (BoolPost true w) := by
  obtain ⟨hg, hok⟩ := fine_parts hf
  have hres := great_res hl hr hg
  have hn : n ≤ 20 := by rw [← hl.len]; have := (great_parts hg).1; omega
  have HF := Lib.hid (fine_any A n c ps w hl hr ht hm)
  rw [hf] at HF
  unfold BoolPost at HF
  have wd : IntKind.i64.wrap dd = dd := IntWalk.i64_in _ (by omega)
  have HT := Lib.hid ht
  have HM := Lib.hid hm
  have HP := Lib.hid (fun W (h : Below w.heap.size w W) => (show BoolPost true w (.returned (.bool true)) W from ⟨rfl, h⟩))
  have HW := Lib.hid (fun W (h : Below w.heap.size w W) => awake_any W (ht.below h) (hm.below h))
  unfold BoolPost at HW
  obtain ⟨ta, ia⟩ := tr_ok hok h0 (show d ≤ 84005 by omega)
  obtain ⟨tb, ib⟩ := tr_ok hok (show -25567 ≤ to_ by omega) (show to_ ≤ 84005 by omega)
  obtain ⟨tx, ix⟩ := ac_ok hok (show -25567 ≤ d + 1 by omega) (show to_ + 1 ≤ 84005 by omega) (show d + 1 ≤ to_ + 1 by omega)
  have T1 := fun W (h : Below w.heap.size w W) => Trial_any A n c ps d W (hres.below h) (fit_z hg) hn (ht.below h) (hm.below h)
  have T2 := fun W (h : Below w.heap.size w W) => Trial_any A n c ps to_ W (hres.below h) (fit_z hg) hn (ht.below h) (hm.below h)
  have T3 := fun W (h : Below w.heap.size w W) => Activity_any A n c ps (d + 1) (to_ + 1) W (hres.below h) (fit_z hg) hn (ht.below h) (hm.below h)
  rw [ta, ia] at T1
  rw [tb, ib] at T2
  rw [tx, ix] at T3
  obtain ⟨s1, z1⟩ := fit_nrm hg hok (fun x => decide (x ≤ d))
  obtain ⟨s2, z2⟩ := fit_nrm hg hok (fun x => decide (x ≤ to_))
  obtain ⟨_, z3⟩ := fit_nrm hg hok (acB (d + 1) (to_ + 1))
  have hpe := period hok (p := fun x => decide (x ≤ to_)) (q := fun x => decide (x ≤ d)) (r := acB (d + 1) (to_ + 1)) (fun e _ => by
    unfold acB
    by_cases e1 : e.1 ≤ to_ <;> by_cases e2 : e.1 ≤ d <;> simp [e1, e2] <;> omega)
  have hla := hok.list (fun x => decide (x ≤ d))
  have hlb := hok.list (fun x => decide (x ≤ to_))
  generalize nrmL (flat (ps.map Prod.snd) fun x => decide (x ≤ d)) = la at *
  generalize nrmL (flat (ps.map Prod.snd) fun x => decide (x ≤ to_)) = lb at *
  generalize nrmL (flat (ps.map Prod.snd) (acB (d + 1) (to_ + 1))) = lx at *
  have hls : lsL lb la = lx ∧ lsI lb la = 0 := by unfold lsL lsI; rw [hlb, hla, if_pos (by rfl), if_pos (by rfl)]; exact ⟨hpe, rfl⟩
  have HT1 := Lib.hid T1
  have HT2 := Lib.hid T2
  have HT3 := Lib.hid T3
  have HMI := Lib.hid (fun (A1 A2 : Option Addr) (c1 c2 : Nat) (W : World) (r1 : rowB.Rds W A1 lb.length c1 lb) (r2 : rowB.Rds W A2 la.length c2 la) (hW : Below w.heap.size w W) => (show Calls Tryz.prog 29 #[.slice A1 lb.length c1, .slice A2 la.length c2] W (ListC lx 0 W) by
    have h := Minus_any A1 A2 _ c1 _ c2 lb la W r1 r2 (fun x hx => (s2 x hx).1) (fun x hx => ⟨(s1 x hx).1, by have := (s1 x hx).2; omega⟩) (by omega) (by omega) (ht.below hW) (hm.below hW)
    rw [hls.1, hls.2] at h; exact h))
  have HSA := Lib.hid (fun (A1 A2 : Option Addr) (c1 c2 : Nat) (W : World) (r1 : rowB.Rds W A1 lx.length c1 lx) (r2 : rowB.Rds W A2 lx.length c2 lx) => (show Calls Tryz.prog 32 #[.slice A1 lx.length c1, .slice A2 lx.length c2] W (BoolPost true W) by
    have h := Same_any A1 A2 _ c1 _ c2 lx lx W r1 r2 (by omega) (by omega)
    rw [decide_eq_true rfl] at h; exact h))
  clear T1 T2 T3 ta ia tb ib tx ix s1 z1 s2 z2 z3 hpe hla hlb hls hl hr ht hm hg hok hres hf
  generalize BoolPost true w = Post at *
  have w1 : IntKind.i64.wrap (d + 1) = d + 1 := IntWalk.i64_in _ (by omega)
  have w2 : IntKind.i64.wrap (to_ + 1) = to_ + 1 := IntWalk.i64_in _ (by omega)
  have e1 : decide (d < -25567) = false := decide_eq_false (by omega)
  have e2 : decide (84005 ≤ to_) = false := decide_eq_false (by omega)
  have e3 : decide (to_ < d) = false := decide_eq_false (by omega)
  go_enter Tryz.func9, Tryz.ntmps9
  go_wp2_with fail
  refine HF.out.mono ?_
  rintro e w3 ⟨rfl, hb⟩
  have B3 := Lib.hid hb
  clear hb HF
  go_wp2_with fail
  refine (HT1.out _ B3.out).mono ?_
  intro e w4 hq
  obtain ⟨A1, c1, rfl, hr, hb⟩ := listc_rds hq
  have R4 := Lib.hid hr
  have B4 := Lib.hid (below_next B3.out hb ⟨rfl, rfl, rfl, rfl⟩)
  clear hq hr hb HT1 B3
  go_wp2_with fail
  refine (HT2.out _ B4.out).mono ?_
  intro e w5 hq
  obtain ⟨A2, c2, rfl, hr, hb⟩ := listc_rds hq
  have S5 := Lib.hid hr
  have R5 := Lib.hid (R4.out.below hb)
  have B5 := Lib.hid (below_next B4.out hb ⟨rfl, rfl, rfl, rfl⟩)
  clear hq hr hb HT2 B4 R4
  go_wp2_with fail
  refine (HT3.out _ B5.out).mono ?_
  intro e w6 hq
  obtain ⟨A3, c3, rfl, hr, hb⟩ := listc_rds hq
  have X6 := Lib.hid hr
  have S6 := Lib.hid (S5.out.below hb)
  have R6 := Lib.hid (R5.out.below hb)
  have B6 := Lib.hid (below_next B5.out hb ⟨rfl, rfl, rfl, rfl⟩)
  clear hq hr hb HT3 B5 R5 S5
  go_wp2_with fail
  refine (HMI.out _ _ _ _ _ S6.out R6.out B6.out).mono ?_
  intro e w7 hq
  obtain ⟨A4, c4, rfl, hr, hb⟩ := listc_rds hq
  have Y7 := Lib.hid hr
  have X7 := Lib.hid (X6.out.below hb)
  have B7 := Lib.hid (below_next B6.out hb ⟨rfl, rfl, rfl, rfl⟩)
  clear hq hr hb HMI B6 R6 S6 X6
  go_wp2_with fail
  refine (HSA.out _ _ _ _ _ X7.out Y7.out).mono ?_
  rintro e w8 ⟨rfl, hb⟩
  have B8 := Lib.hid (below_next B7.out hb ⟨rfl, rfl, rfl, rfl⟩)
  clear hb HSA B7
  go_wp2_with fail
  refine (HW.out _ B8.out).mono ?_
  rintro e w9 ⟨rfl, hb⟩
  have B9 := Lib.hid (below_next B8.out hb ⟨rfl, rfl, rfl, rfl⟩)
  clear hb B8
  go_wp2_with fail
  exact HP.out _ B9.out
theorem periods_row (A : Option Addr) (n c : Nat) (ps : List RE) (d dd : Int) (w : World) (hl : rowE.Rds w A n c ps) (hr : ∀ p ∈ ps, RdG w p ∧ p.2.2.1.length ≤ maxLen) (wd : (Lit.int .u8 dd).wf = true) (ht : Tab w) (hm : ML w) :
    Calls Tryz.prog 9 #[.slice A n c, .int .i64 d, .int .u8 dd] w (BoolPost true w) := by
  have hr' := fun p hp => (hr p hp).1
  have h1 : IntKind.min .u8 = 0 := by decide
  have h2 : IntKind.max .u8 = 255 := by decide
  simp only [Lit.wf, Bool.and_eq_true, decide_eq_true_eq] at wd
  by_cases hc : fineB ps = true ∧ -25567 ≤ d ∧ IntKind.i64.wrap (d + dd) < 84005 ∧ d ≤ IntKind.i64.wrap (d + dd)
  · exact periods_in A n c ps d dd _ w hl hr' ht hm (by omega) (by omega) rfl hc.1 hc.2.1 hc.2.2.1 hc.2.2.2
  · exact periods_out A n c ps d dd _ w hl hr' ht hm (by omega) (by omega) rfl hc
end Go.Proofs.YtohdpidlilhnjaaGreatDoor

namespace Go.Proofs.YtohdpidlilhnjaaGreatDoor.ledgerPeriods
open Go.ChangeShapes Go.WideShapes Go.ChangeAt Go.RowKit
open Go.ChangeMaps (open_string shut_string)
set_option linter.unusedVariables false

set_option maxRecDepth 100000 in
theorem lifted (os : Os) (started : os.Started) (H : Type) (enc : TypeId × Value → H) :
    ReturnsInHanded {} Tryz.checked os 9 .any (fun w args => (Rows.ledgerPeriodsSpec.pre enc Tryz.prog Tryz.f9 [] false w args ∧ laidMetH Tryz.prog Rows.ledgerPeriodsRow.laid w) ∧ sizedMet enc Tryz.prog Tryz.f9 (OpenSpec.ofChange Rows.ledgerPeriodsSpec) false w args)
      (Rows.ledgerPeriodsSpec.post enc Tryz.prog Tryz.f9 false true false false) := by
  refine handed_both (C := Tryz.checked) (X := fun w _ => laidMetH Tryz.prog Rows.ledgerPeriodsRow.laid w) (fun _ _ _ hh h => h.of_heap hh) own started (by kernel_rfl) Tryz.func9
    (ChangeSpec.witness_shaped (enc := enc) (C := Tryz.checked) (os := os) (X := fun w _ => laidMetH Tryz.prog Rows.ledgerPeriodsRow.laid w) false (World.laidAll Tryz.prog os Rows.ledgerPeriodsRow.laid) #[.slice none 0 0, .int .i64 0, .int .u8 0] 8 (World.laidAll_os _ _ _)
      (World.shaped_of_ZipB (by kernel_rfl) (by kernel_rfl)) (by kernel_rfl) (by kernel_rfl) (by kernel_rfl)
      (by rw [MakeChecks.laidMetH_plain _ _ _ (by kernel_rfl)]; exact laidMet_laidAll _ (by kernel_rfl) (by kernel_rfl))) ?_
  intro W base args ds gs before hval0 hW hL hsh
  have hval : ∀ (j : Nat) t v, Tryz.f9.params[j]? = some t → args[j]? = some v → Value.okWide Tryz.prog W .any base t v := hval0
  have hW' := hW
  obtain ⟨p, q, hA0, hV, rfl, hfz, hnd⟩ := hW
  have hA : DataW.TrodAll enc Tryz.prog W 0 (fun _ => true) true Tryz.f9.params.toList args.toList ds p := hA0
  rw [Tryz.params9] at hA hval
  obtain ⟨v0, vs0, d0, ds0, p0, q0, hargs, rfl, rfl, h0, r0⟩ := trodAll_cons hA
  obtain ⟨v1, vs1, d1, ds1, p1, q1, rfl, rfl, rfl, h1, r1⟩ := trodAll_cons r0
  obtain ⟨v2, vs2, d2, ds2, p2, q2, rfl, rfl, rfl, h2, r2⟩ := trodAll_cons r1
  obtain ⟨rfl, rfl, rfl⟩ := trodAll_nil r2
  obtain rfl : args = #[v0, v1, v2] := by cases args; simp_all
  obtain ⟨rfl, rfl⟩ := trodVars_none hV
  obtain ⟨A0, n0, c0, l0, rfl, s0, y0⟩ := arg_entries (hval 0 22 v0 rfl rfl) h0
  obtain ⟨a1, rfl, rfl, rfl, w1⟩ := open_int Tryz.underlying23 (hval 1 23 v1 rfl rfl) h1
  obtain ⟨a2, rfl, rfl, rfl, w2⟩ := open_int Tryz.underlying5 (hval 2 5 v2 rfl rfl) h2
  clear hA0 hval0
  refine (periods_row A0 n0 c0 l0 a1 a2 W s0 y0 w2 (tab_of hL) (ml_of hsh)).mono fun e W' ⟨he, hg⟩ => ?_
  subst he
  exact ⟨_, rfl, post_true (tb := 4) hW' rfl laid (by kernel_rfl) rfl Tryz.underlying4 ⟨rfl, rfl, rfl⟩ hg⟩

theorem over : Rows.LedgerPeriodsSaid :=
  OpenClaim.holds_of_wide 9 Tryz.f9 rfl rfl rfl rfl rfl rfl rfl ⟨rfl, rfl, rfl, rfl, rfl⟩ rfl rfl rfl rfl rfl (by kernel_rfl) Tryz.func9 (by kernel_rfl)
    (of_decide_eq_true (by kernel_rfl)) (by unfold Func.isWrapper; first | (rw [if_pos (by decide +kernel)]; kernel_rfl) | (rw [if_neg (by decide +kernel)]; exact ⟨rfl, rfl⟩))
    (fun os started H enc _ => lifted os started H enc)

theorem plain (f : FuncId) (fn : Func) (hf : Tryz.pinned.checked.prog.funcNamed "tranche/tranchelaw43.LedgerPeriods" = some f) (hfn : Tryz.pinned.checked.prog.funcs[f]? = some fn) :
    true = Tryz.pinned.checked.prog.looks [] ∧ ∀ (j : Nat) t, fn.params[j]? = some t → Tryz.pinned.checked.prog.wantsStandIn t = false := by
  obtain rfl : f = 9 := Option.some.inj ((show Tryz.prog.funcNamed "tranche/tranchelaw43.LedgerPeriods" = some 9 by kernel_rfl).symm.trans hf) |>.symm
  obtain rfl : fn = Tryz.f9 := (Option.some.inj (Tryz.func9.symm.trans hfn)).symm
  refine ⟨by kernel_rfl, fun j t ht => ?_⟩
  rw [Tryz.params9] at ht
  have hm : t ∈ [22, 23, 5] := by simpa using Array.mem_of_getElem? ht
  have hall : (([22, 23, 5] : List TypeId).all fun u => !Tryz.prog.wantsStandIn u) = true := by kernel_rfl
  exact (show Tryz.prog.wantsStandIn t = false by simpa using List.all_eq_true.1 hall t hm)

theorem proved : Rows.LedgerPeriodsCardSaid :=
  Claim7.holds_tied_plain_at .later [] _ _ _ _ over (fun _ h => by cases h) (by kernel_rfl) (fun _ h => by cases h) ledgerPeriods_row_tie rfl ⟨rfl, rfl⟩ (by kernel_rfl) rfl plain (by kernel_rfl)
end Go.Proofs.YtohdpidlilhnjaaGreatDoor.ledgerPeriods
