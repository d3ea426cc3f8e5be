/- LedgerPeriods: the walk. -/
import Derived.Test.YtohdpidlilhnjaaGreatDoorQ11
import Derived.Test.YtohdpidlilhnjaaGreatDoorQ10
import Derived.Test.YtohdpidlilhnjaaGreatDoorQ9
import Derived.Test.YtohdpidlilhnjaaGreatDoorQ7
import Derived.Deep.QuietTactic
import Derived.BigQuiet
namespace Go.Proofs.YtohdpidlilhnjaaGreatDoor
open Go.RowKit Go.Maps Num

theorem below_ah {w W w' : World} (h : Below w.heap.size w W) (hb : Below W.heap.size W w') : Below w.heap.size w w' := h.trans (hb.mono h.size)
theorem nrm_13 {l : List Ln} (h : ∀ x ∈ l, Sml x) (hl : l.length ≤ 640) (h13 : ∀ x ∈ l, x.2.2.length ≤ 13) (hc : ∀ x ∈ l, canB x = true) : ∀ z ∈ nrmL l, Sml z ∧ z.2.2.length ≤ 20 := fun z hz => by
  have hn := nrmL_of l hc
  obtain ⟨x, hx, e⟩ := nrm_key hn hz
  have h1 := ((hn.mem z).1 hz).1
  have h2 := tot_13 l h13 (key z)
  have h3 : l.length * num13 ≤ 640 * num13 := Nat.mul_le_mul_right _ hl
  have h4 : 640 * num13 < 10 ^ 16 := by decide
  have h5 := txt_bd (k := 16) (show (tot l (key z)).natAbs < 10 ^ 16 by omega)
  have h6 : z.2.2.length ≤ 20 := by rw [h1]; omega
  simp only [key, Prod.mk.injEq] at e
  obtain ⟨s1, s2, _⟩ := h x hx
  exact ⟨⟨by rw [← e.1]; exact s1, by rw [← e.2]; exact s2, by omega⟩, h6⟩
/-- sizes of what fine accepts -/
theorem fit_flat {ps : List RE} (h : greatB ps = false) (p : Int → Bool) : (∀ x ∈ flat (ps.map Prod.snd) p, Sml x) ∧ (∀ x ∈ flat (ps.map Prod.snd) p, x.2.2.length ≤ 13) := by
  have hf := (great_parts h).2
  constructor
  · intro x hx
    obtain ⟨e, he, _, hx⟩ := flat_mem hx
    obtain ⟨q, hq, rfl⟩ := List.mem_map.1 he
    exact (hf q hq).sml x hx
  · intro x hx
    obtain ⟨e, he, _, hx⟩ := flat_mem hx
    obtain ⟨q, hq, rfl⟩ := List.mem_map.1 he
    exact ((hf q hq).ln x hx).2.2
theorem fit_nrm {ps : List RE} (h : greatB ps = false) (hok : OkL (ps.map Prod.snd)) (p : Int → Bool) : (∀ z ∈ nrmL (flat (ps.map Prod.snd) p), Sml z ∧ z.2.2.length ≤ 20) ∧ (nrmL (flat (ps.map Prod.snd) p)).length ≤ 640 := by
  obtain ⟨h1, h2⟩ := fit_flat h p
  have h3 := flatE_len (ps.map Prod.snd) p hok.len
  rw [List.length_map] at h3
  have h4 := (great_parts h).1
  exact ⟨nrm_13 h1 (by omega) h2 (hok.can p), Nat.le_trans (nrmL_len _) (by omega)⟩
theorem fit_z {ps : List RE} (h : greatB ps = false) : ∀ p ∈ ps, p.2.2.1.length ≤ 1000 := fun p hp => Nat.le_trans ((great_parts h).2 p hp).cause (by decide)
theorem tr_ok {es : List En} {d : Int} (h : OkL es) (h0 : -25567 ≤ d) (h1 : d ≤ 84005) : trL es d = nrmL (flat es fun x => decide (x ≤ d)) ∧ trI es d = 0 := by
  have hv : valD d = true := by unfold valD; rw [decide_eq_true h0, decide_eq_true h1]; rfl
  have ha := okL_all.2 h
  unfold trL trI
  rw [if_pos ⟨ha, hv⟩, if_neg (by rw [ha]; decide), if_neg (by rw [hv]; decide)]
  exact ⟨rfl, rfl⟩
theorem ac_ok {es : List En} {f t : Int} (h : OkL es) (h0 : -25567 ≤ f) (h1 : t ≤ 84005) (h2 : f ≤ t) : acL es f t = nrmL (flat es (acB f t)) ∧ acI es f t = 0 := by
  have hv : (valD f && valD t) = true := by unfold valD; rw [decide_eq_true h0, decide_eq_true h1, decide_eq_true (show f ≤ 84005 by omega), decide_eq_true (show -25567 ≤ t by omega)]; rfl
  have ha := okL_all.2 h
  have hi : acI es f t = 0 := by
    unfold acI
    rw [if_neg (by rw [ha]; decide), if_neg (by rw [hv]; decide), if_neg (by omega)]
  unfold acL
  rw [if_pos hi]
  exact ⟨rfl, hi⟩
theorem listc_rds {l : List Ln} {i : Int} {w w' : World} {e : Ending} (h : ListC l i w e w') : ∃ A c, e = .returned (.tuple #[.slice A l.length c, .int .i64 i]) ∧ rowB.Rds w' A l.length c l ∧ Below w.heap.size w w' := by
  obtain ⟨v, rfl, ho, hb⟩ := h
  obtain ⟨A, c, rfl, hr⟩ := ho.rds
  exact ⟨A, c, rfl, hr, hb⟩
set_option maxRecDepth 100000 in
set_option maxHeartbeats 4000000 in
theorem periods_out (A : Option Addr) (n c : Nat) (ps : List RE) (d dd to_ : Int) (w : World) (hl : rowE.Rds w A n c ps) (hr : ∀ p ∈ ps, RdG w p) (ht : Tab w) (hm : ML w) (d0 : 0 ≤ dd) (d1 : dd ≤ 255) (hto : IntKind.i64.wrap (d + dd) = to_)
    (hc : ¬ (fineB ps = true ∧ -25567 ≤ d ∧ to_ < 84005 ∧ d ≤ to_)) : Calls Tryz.prog 9 #[.slice A n c, .int .i64 d, .int .u8 dd] w (BoolPost true w) := by
  have HFa := Lib.hid (fine_any A n c ps w hl hr ht hm)
  unfold BoolPost at HFa
  have HW := Lib.hid (fun W (h : Below w.heap.size w W) => awake_any W (ht.below h) (hm.below h))
  unfold BoolPost at HW
  have HP := Lib.hid (fun W (h : Below w.heap.size w W) => (show BoolPost true w (.returned (.bool true)) W from ⟨rfl, h⟩))
  have wd : IntKind.i64.wrap dd = dd := IntWalk.i64_in _ (by omega)
  clear hl hr ht hm
  generalize BoolPost true w = Post at *
  cases hf : fineB ps
  · rw [hf] at HFa
    clear hf hc
    go_enter Tryz.func9, Tryz.ntmps9
    go_wp2_with fail
    refine HFa.out.mono ?_
    rintro e w1 ⟨rfl, hb⟩
    have B1 := Lib.hid hb
    clear hb
    go_wp2_with fail
    refine (HW.out _ B1.out).mono ?_
    rintro e w2 ⟨rfl, hb⟩
    have B2 := Lib.hid (below_next B1.out hb ⟨rfl, rfl, rfl, rfl⟩)
    clear hb B1
    go_wp2_with fail
    exact HP.out _ B2.out
  rw [hf] at HFa hc
  by_cases h0 : -25567 ≤ d
  case neg =>
    have e1 : decide (d < -25567) = true := decide_eq_true (by omega)
    clear hf hc h0
    go_enter Tryz.func9, Tryz.ntmps9
    go_wp2_with fail
    refine HFa.out.mono ?_
    rintro e w1 ⟨rfl, hb⟩
    have B1 := Lib.hid hb
    clear hb
    go_wp2_with fail
    refine (HW.out _ B1.out).mono ?_
    rintro e w2 ⟨rfl, hb⟩
    have B2 := Lib.hid (below_next B1.out hb ⟨rfl, rfl, rfl, rfl⟩)
    clear hb B1
    go_wp2_with fail
    exact HP.out _ B2.out
  have e1 : decide (d < -25567) = false := decide_eq_false (by omega)
  by_cases h1 : to_ < 84005
  case neg =>
    have e2 : decide (84005 ≤ to_) = true := decide_eq_true (by omega)
    clear hf hc h0 h1
    go_enter Tryz.func9, Tryz.ntmps9
    go_wp2_with fail
    refine HFa.out.mono ?_
    rintro e w1 ⟨rfl, hb⟩
    have B1 := Lib.hid hb
    clear hb
    go_wp2_with fail
    refine (HW.out _ B1.out).mono ?_
    rintro e w2 ⟨rfl, hb⟩
    have B2 := Lib.hid (below_next B1.out hb ⟨rfl, rfl, rfl, rfl⟩)
    clear hb B1
    go_wp2_with fail
    exact HP.out _ B2.out
  have e2 : decide (84005 ≤ to_) = false := decide_eq_false (by omega)
  have h2 : to_ < d := by
    rcases Int.lt_or_le to_ d with h | h
    · exact h
    · exact absurd ⟨rfl, h0, h1, h⟩ hc
  have e3 : decide (to_ < d) = true := decide_eq_true h2
  clear hf hc h0 h1 h2
  go_enter Tryz.func9, Tryz.ntmps9
  go_wp2_with fail
  refine HFa.out.mono ?_
  rintro e w1 ⟨rfl, hb⟩
  have B1 := Lib.hid hb
  clear hb
  go_wp2_with fail
  refine (HW.out _ B1.out).mono ?_
  rintro e w2 ⟨rfl, hb⟩
  have B2 := Lib.hid (below_next B1.out hb ⟨rfl, rfl, rfl, rfl⟩)
  clear hb B1
  go_wp2_with fail
  exact HP.out _ B2.out
set_option maxRecDepth 100000 in
set_option maxHeartbeats 4000000 in
theorem periods_in (A : Option Addr) (n c : Nat) (ps : List RE) (d dd to_ : Int) (w : World) (hl : rowE.Rds w A n c ps) (hr : ∀ p ∈ ps, RdG w p) (ht : Tab w) (hm : ML w) (d0 : 0 ≤ dd) (d1 : dd ≤ 255) (hto : IntKind.i64.wrap (d + dd) = to_)
    (hf : fineB ps = true) (h0 : -25567 ≤ d) (h1 : to_ < 84005) (h2 : d ≤ to_) : Calls Tryz.prog 9 #[.slice A n c, .int .i64 d, .int .u8 dd] w (BoolPost true w) := by
  obtain ⟨hg, hok⟩ := fine_parts hf
  have hres := great_res hl hr hg
  have hn : n ≤ 20 := by rw [← hl.len]; have := (great_parts hg).1; omega
  have HF := Lib.hid (fine_any A n c ps w hl hr ht hm)
  rw [hf] at HF
  unfold BoolPost at HF
  have wd : IntKind.i64.wrap dd = dd := IntWalk.i64_in _ (by omega)
  have HT := Lib.hid ht
  have HM := Lib.hid hm
  have HP := Lib.hid (fun W (h : Below w.heap.size w W) => (show BoolPost true w (.returned (.bool true)) W from ⟨rfl, h⟩))
  have HW := Lib.hid (fun W (h : Below w.heap.size w W) => awake_any W (ht.below h) (hm.below h))
  unfold BoolPost at HW
  obtain ⟨ta, ia⟩ := tr_ok hok h0 (show d ≤ 84005 by omega)
  obtain ⟨tb, ib⟩ := tr_ok hok (show -25567 ≤ to_ by omega) (show to_ ≤ 84005 by omega)
  obtain ⟨tx, ix⟩ := ac_ok hok (show -25567 ≤ d + 1 by omega) (show to_ + 1 ≤ 84005 by omega) (show d + 1 ≤ to_ + 1 by omega)
  have T1 := fun W (h : Below w.heap.size w W) => Trial_any A n c ps d W (hres.below h) (fit_z hg) hn (ht.below h) (hm.below h)
  have T2 := fun W (h : Below w.heap.size w W) => Trial_any A n c ps to_ W (hres.below h) (fit_z hg) hn (ht.below h) (hm.below h)
  have T3 := fun W (h : Below w.heap.size w W) => Activity_any A n c ps (d + 1) (to_ + 1) W (hres.below h) (fit_z hg) hn (ht.below h) (hm.below h)
  rw [ta, ia] at T1
  rw [tb, ib] at T2
  rw [tx, ix] at T3
  obtain ⟨s1, z1⟩ := fit_nrm hg hok (fun x => decide (x ≤ d))
  obtain ⟨s2, z2⟩ := fit_nrm hg hok (fun x => decide (x ≤ to_))
  obtain ⟨_, z3⟩ := fit_nrm hg hok (acB (d + 1) (to_ + 1))
  have hpe := period hok (p := fun x => decide (x ≤ to_)) (q := fun x => decide (x ≤ d)) (r := acB (d + 1) (to_ + 1)) (fun e _ => by
    unfold acB
    by_cases e1 : e.1 ≤ to_ <;> by_cases e2 : e.1 ≤ d <;> simp [e1, e2] <;> omega)
  have hla := hok.list (fun x => decide (x ≤ d))
  have hlb := hok.list (fun x => decide (x ≤ to_))
  generalize nrmL (flat (ps.map Prod.snd) fun x => decide (x ≤ d)) = la at *
  generalize nrmL (flat (ps.map Prod.snd) fun x => decide (x ≤ to_)) = lb at *
  generalize nrmL (flat (ps.map Prod.snd) (acB (d + 1) (to_ + 1))) = lx at *
  have hls : lsL lb la = lx ∧ lsI lb la = 0 := by unfold lsL lsI; rw [hlb, hla, if_pos (by rfl), if_pos (by rfl)]; exact ⟨hpe, rfl⟩
  have HT1 := Lib.hid T1
  have HT2 := Lib.hid T2
  have HT3 := Lib.hid T3
  have HMI := Lib.hid (fun (A1 A2 : Option Addr) (c1 c2 : Nat) (W : World) (r1 : rowB.Rds W A1 lb.length c1 lb) (r2 : rowB.Rds W A2 la.length c2 la) (hW : Below w.heap.size w W) => (show Calls Tryz.prog 29 #[.slice A1 lb.length c1, .slice A2 la.length c2] W (ListC lx 0 W) by
    have h := Minus_any A1 A2 _ c1 _ c2 lb la W r1 r2 (fun x hx => (s2 x hx).1) (fun x hx => ⟨(s1 x hx).1, by have := (s1 x hx).2; omega⟩) (by omega) (by omega) (ht.below hW) (hm.below hW)
    rw [hls.1, hls.2] at h; exact h))
  have HSA := Lib.hid (fun (A1 A2 : Option Addr) (c1 c2 : Nat) (W : World) (r1 : rowB.Rds W A1 lx.length c1 lx) (r2 : rowB.Rds W A2 lx.length c2 lx) => (show Calls Tryz.prog 32 #[.slice A1 lx.length c1, .slice A2 lx.length c2] W (BoolPost true W) by
    have h := Same_any A1 A2 _ c1 _ c2 lx lx W r1 r2 (by omega) (by omega)
    rw [decide_eq_true rfl] at h; exact h))
  clear T1 T2 T3 ta ia tb ib tx ix s1 z1 s2 z2 z3 hpe hla hlb hls hl hr ht hm hg hok hres hf
  generalize BoolPost true w = Post at *
  have w1 : IntKind.i64.wrap (d + 1) = d + 1 := IntWalk.i64_in _ (by omega)
  have w2 : IntKind.i64.wrap (to_ + 1) = to_ + 1 := IntWalk.i64_in _ (by omega)
  have e1 : decide (d < -25567) = false := decide_eq_false (by omega)
  have e2 : decide (84005 ≤ to_) = false := decide_eq_false (by omega)
  have e3 : decide (to_ < d) = false := decide_eq_false (by omega)
  go_enter Tryz.func9, Tryz.ntmps9
  go_wp2_with fail
  refine HF.out.mono ?_
  rintro e w3 ⟨rfl, hb⟩
  have B3 := Lib.hid hb
  clear hb HF
  go_wp2_with fail
  refine (HT1.out _ B3.out).mono ?_
  intro e w4 hq
  obtain ⟨A1, c1, rfl, hr, hb⟩ := listc_rds hq
  have R4 := Lib.hid hr
  have B4 := Lib.hid (below_next B3.out hb ⟨rfl, rfl, rfl, rfl⟩)
  clear hq hr hb HT1 B3
  go_wp2_with fail
  refine (HT2.out _ B4.out).mono ?_
  intro e w5 hq
  obtain ⟨A2, c2, rfl, hr, hb⟩ := listc_rds hq
  have S5 := Lib.hid hr
  have R5 := Lib.hid (R4.out.below hb)
  have B5 := Lib.hid (below_next B4.out hb ⟨rfl, rfl, rfl, rfl⟩)
  clear hq hr hb HT2 B4 R4
  go_wp2_with fail
  refine (HT3.out _ B5.out).mono ?_
  intro e w6 hq
  obtain ⟨A3, c3, rfl, hr, hb⟩ := listc_rds hq
  have X6 := Lib.hid hr
  have S6 := Lib.hid (S5.out.below hb)
  have R6 := Lib.hid (R5.out.below hb)
  have B6 := Lib.hid (below_next B5.out hb ⟨rfl, rfl, rfl, rfl⟩)
  clear hq hr hb HT3 B5 R5 S5
  go_wp2_with fail
  refine (HMI.out _ _ _ _ _ S6.out R6.out B6.out).mono ?_
  intro e w7 hq
  obtain ⟨A4, c4, rfl, hr, hb⟩ := listc_rds hq
  have Y7 := Lib.hid hr
  have X7 := Lib.hid (X6.out.below hb)
  have B7 := Lib.hid (below_next B6.out hb ⟨rfl, rfl, rfl, rfl⟩)
  clear hq hr hb HMI B6 R6 S6 X6
  go_wp2_with fail
  refine (HSA.out _ _ _ _ _ X7.out Y7.out).mono ?_
  rintro e w8 ⟨rfl, hb⟩
  have B8 := Lib.hid (below_next B7.out hb ⟨rfl, rfl, rfl, rfl⟩)
  clear hb HSA B7
  go_wp2_with fail
  refine (HW.out _ B8.out).mono ?_
  rintro e w9 ⟨rfl, hb⟩
  have B9 := Lib.hid (below_next B8.out hb ⟨rfl, rfl, rfl, rfl⟩)
  clear hb B8
  go_wp2_with fail
  exact HP.out _ B9.out
theorem periods_row (A : Option Addr) (n c : Nat) (ps : List RE) (d dd : Int) (w : World) (hl : rowE.Rds w A n c ps) (hr : ∀ p ∈ ps, RdG w p ∧ p.2.2.1.length ≤ maxLen) (wd : (Lit.int .u8 dd).wf = true) (ht : Tab w) (hm : ML w) :
    Calls Tryz.prog 9 #[.slice A n c, .int .i64 d, .int .u8 dd] w (BoolPost true w) := by
  have hr' := fun p hp => (hr p hp).1
  have h1 : IntKind.min .u8 = 0 := by decide
  have h2 : IntKind.max .u8 = 255 := by decide
  simp only [Lit.wf, Bool.and_eq_true, decide_eq_true_eq] at wd
  by_cases hc : fineB ps = true ∧ -25567 ≤ d ∧ IntKind.i64.wrap (d + dd) < 84005 ∧ d ≤ IntKind.i64.wrap (d + dd)
  · exact periods_in A n c ps d dd _ w hl hr' ht hm (by omega) (by omega) rfl hc.1 hc.2.1 hc.2.2.1 hc.2.2.2
  · exact periods_out A n c ps d dd _ w hl hr' ht hm (by omega) (by omega) rfl hc
end Go.Proofs.YtohdpidlilhnjaaGreatDoor

/- Regions that draw their order, whose callees may lay blocks. -/
namespace Go.Proofs.YtohdpidlilhnjaaGreatDoor
open Go.RowKit Go.Maps Num

/-- a world that differs from w above w's blocks -/
structure Bel (w : World) where
  W : World
  h : Below w.heap.size w W
instance belThere (w : World) : Inhabited (Bel w) := ⟨⟨w, Below.refl _ w⟩⟩
/-- a region that draws its order, whose operations only read and whose callees may lay blocks: one walk, in the order of the text -/
theorem wp_region_quiet_bel {P : Program} {id : Nat} {Q : Exit → Act → World → Prop} {a : Act} {w : World} {l : List Oper} (hm : P.follows .mixedOrders = true) (hB : Region.lexB .any l.toArray = true)
    (h : wpQuiet P l.toArray (fun w' => ∃ p : Bel w, w' = p.W) (fun a' => ∀ w', (∃ p : Bel w, w' = p.W) → Q .normal a' w') l a) : (Code.region id l.toArray true).wp P Q a w :=
  wp_region_quiet (C := fun w' => ∃ p : Bel w, w' = p.W) hm hB ⟨⟨w.drew, Below.drew (Below.refl _ w)⟩, rfl⟩ (by simpa using h)
theorem Calls.bel_of {P : Program} {f : FuncId} {args : Array Value} {w : World} {p : Bel w} {v : Value} (h : Calls P f args p.W fun e w' => e = .returned v ∧ Below p.W.heap.size p.W w') :
    Calls P f args p.W fun e w'' => e = .returned v ∧ ∃ q : Bel w, w'' = q.W :=
  h.mono fun _ _ ⟨he, hb⟩ => ⟨he, ⟨_, p.h.trans (hb.mono p.h.size)⟩, rfl⟩
end Go.Proofs.YtohdpidlilhnjaaGreatDoor

/- Contracts of the reference's less, Check, Great (printed by gen_rchk.py). -/
namespace Go.Proofs.YtohdpidlilhnjaaGreatDoor
open Go.RowKit Go.Maps Num

/-- a balance comes before another one -/
def lessQ (x y : Ln) : Bool := decide (cmpKy (key x) (key y) < 0)
theorem cmpS_neg (a b : List UInt8) : cmpS a b < 0 ↔ a < b := by
  unfold cmpS
  split
  · rename_i h; exact ⟨fun _ => h, fun _ => by omega⟩
  · rename_i h
    split
    · exact ⟨fun h' => by omega, fun h' => absurd h' h⟩
    · exact ⟨fun h' => by omega, fun h' => absurd h' h⟩
theorem lessQ_iff (a c m a2 c2 m2 : List UInt8) : lessQ (a, c, m) (a2, c2, m2) = (Op.bytesLess a a2 || (a == a2 && Op.bytesLess c c2)) := by
  unfold lessQ
  have e : cmpKy (key (a, c, m)) (key (a2, c2, m2)) = if cmpS a a2 ≠ 0 then cmpS a a2 else cmpS c c2 := rfl
  rw [e, less_lt, less_lt, Bool.eq_iff_iff, decide_eq_true_iff, Bool.or_eq_true, Bool.and_eq_true, decide_eq_true_iff, decide_eq_true_iff, beq_iff_eq]
  split
  · rename_i h
    rw [cmpS_neg]
    exact ⟨.inl, fun h' => h'.elim id fun h2 => absurd (cmpS_zero.2 h2.1) h⟩
  · rename_i h
    have h := cmpS_zero.1 (Classical.not_not.1 h)
    subst h
    rw [cmpS_neg]
    exact ⟨fun h' => .inr ⟨rfl, h'⟩, fun h' => h'.elim (fun h2 => absurd h2 (List.lt_irrefl _)) fun h2 => h2.2⟩
set_option maxRecDepth 100000 in
set_option maxHeartbeats 1000000 in
theorem less_any (a c m a2 c2 m2 : List UInt8) (w : World) : Calls Tryz.prog 60 #[.agg #[.string ⟨a.toArray⟩, .string ⟨c.toArray⟩, .string ⟨m.toArray⟩], .agg #[.string ⟨a2.toArray⟩, .string ⟨c2.toArray⟩, .string ⟨m2.toArray⟩]] w fun e w' => e = .returned (.bool (lessQ (a, c, m) (a2, c2, m2))) ∧ Below w.heap.size w w' := by
  have hbx := Lib.hid (show Below w.heap.size w ((w.alloc (.cells #[.string ⟨a.toArray⟩, .string ⟨c.toArray⟩, .string ⟨m.toArray⟩] 33)).alloc (.cells #[.string ⟨a2.toArray⟩, .string ⟨c2.toArray⟩, .string ⟨m2.toArray⟩] 33)) from ((Below.refl _ w).alloc (Nat.le_refl _) _).alloc (by simp) _)
  have hl := lessQ_iff a c m a2 c2 m2
  generalize lessQ (a, c, m) (a2, c2, m2) = r at *
  cases h1 : Op.bytesLess a a2
  · rw [h1] at hl
    cases h2 : (a == a2)
    · have hv := Lib.hid (show r = false by rw [hl, h2]; rfl)
      clear hl
      go_enter Tryz.func60, Tryz.ntmps60
      go_wp2_with fail
      go_ret
      exact ⟨by rw [hv.out]; rfl, hbx.out⟩
    · cases h3 : Op.bytesLess c c2
      · have hv := Lib.hid (show r = false by rw [hl, h2, h3]; rfl)
        clear hl
        go_enter Tryz.func60, Tryz.ntmps60
        go_wp2_with fail
        go_ret
        exact ⟨by rw [hv.out]; rfl, hbx.out⟩
      · have hv := Lib.hid (show r = true by rw [hl, h2, h3]; rfl)
        clear hl
        go_enter Tryz.func60, Tryz.ntmps60
        go_wp2_with fail
        go_ret
        exact ⟨by rw [hv.out]; rfl, hbx.out⟩
  · have hv := Lib.hid (show r = true by rw [hl, h1]; rfl)
    clear hl
    go_enter Tryz.func60, Tryz.ntmps60
    go_wp2_with fail
    go_ret
    exact ⟨by rw [hv.out]; rfl, hbx.out⟩
theorem ordB_less (p x : Ln) : ordB (some (key p)) (key x) = !lessQ p x := by
  unfold lessQ
  show decide (0 ≤ cmpKy (key p) (key x)) = _
  rw [← decide_not, decide_eq_decide]
  omega
theorem lineI_am {a cu m : List UInt8} (h : chkI m ≠ 0) : lineI (a, cu, m) ≠ 0 := by
  unfold lineI
  split
  · split
    · exact h
    · decide
  · decide
theorem lineI_cu {a cu m : List UInt8} (h : curB cu = false) : lineI (a, cu, m) ≠ 0 := by
  unfold lineI
  split
  · split
    · rename_i h1; simp only at h1; rw [h] at h1; cases h1
    · decide
  · decide
set_option maxRecDepth 100000 in
set_option maxHeartbeats 8000000 in
theorem rCheckB_any (A : Option Addr) (n c : Nat) (l : List Ln) (w : World) (hl : rowB.Rds w A n c l) (hs : ∀ x ∈ l, x.1.length ≤ 100000 ∧ x.2.1.length ≤ 100000 ∧ x.2.2.length ≤ 100000) (hn : n ≤ 100000) :
    Calls Tryz.prog 15 #[.slice A n c] w (BoolPost (listB l) w) := by
  have ll := Lib.hid hl.len
  have L1 := Lib.hid hl
  have HS := Lib.hid hs
  have hv := Lib.hid (show listB l = decide (chkLs none l = 0) from rfl)
  have HP := Lib.hid (fun W (h : Below w.heap.size w W) => (show BoolPost (listB l) w (.returned (.bool (listB l))) W from ⟨rfl, h⟩))
  clear hl hs
  generalize BoolPost (listB l) w = Post at *
  generalize listB l = r at *
  have R0 := Lib.hid (show LisR w l 0 w from ⟨by rw [List.drop_zero]; rfl, Below.refl _ _⟩)
  go_enter Tryz.func15, Tryz.ntmps15
  go_wp2_with fail
  go_loopw [3] (fun i wr => ∃ k : Nat, k ≤ n ∧ i = .int .i64 (k : Int) ∧ Hid (LisR w l k wr)) (fun i _ => n - (intOf i).toNat)
  case atStart => exact ⟨0, by omega, rfl, R0⟩
  case round =>
    clear R0
    obtain ⟨k, hk, rfl, hR⟩ := hrel
    have hch := Lib.hid hR.out.1
    have HB := Lib.hid hR.out.2
    clear hR
    by_cases hlt : k < n
    · have hkl : k < l.length := by rw [ll.out]; exact hlt
      obtain ⟨b1, o1, rfl, hb1, _⟩ := L1.out.at_ (by omega)
      have c0 : ∀ p : Bel wr, p.W.cell? ⟨b1, o1 + k * 3, none⟩ = some (.string ⟨(l.getD k ln0).1.toArray⟩) := fun p => (L1.out.below (below_next HB.out p.h ⟨rfl, rfl, rfl, rfl⟩)).cell rowB_ok ln0 k 0 _ hlt rfl
      have c1 : ∀ p : Bel wr, p.W.cell? ⟨b1, o1 + k * 3 + 1, none⟩ = some (.string ⟨(l.getD k ln0).2.1.toArray⟩) := fun p => (L1.out.below (below_next HB.out p.h ⟨rfl, rfl, rfl, rfl⟩)).cell rowB_ok ln0 k 1 _ hlt rfl
      have c2 : ∀ p : Bel wr, p.W.cell? ⟨b1, o1 + k * 3 + 2, none⟩ = some (.string ⟨(l.getD k ln0).2.2.toArray⟩) := fun p => (L1.out.below (below_next HB.out p.h ⟨rfl, rfl, rfl, rfl⟩)).cell rowB_ok ln0 k 2 _ hlt rfl
      have hsx := Lib.hid (HS.out _ (lnAt_mem l k hkl))
      have hki : (k : Int) < (n : Int) := by omega
      have hdr := drop_ln l k hkl
      have hch2 := hch.out
      rw [hdr, chkLs_cons] at hch2
      have HC2 := Lib.hid hch2
      have hpk := Lib.hid (show prevAt l (k + 1) = some (key (l.getD k ln0)) from rfl)
      clear hdr hch2 hch
      generalize hxe : l.getD k ln0 = x at *
      obtain ⟨a, cu, m⟩ := x
      simp only at c0 c1 c2 hsx
      have H57 := Lib.hid (fun W => rCheck_any a W (by have := hsx.out.1; omega))
      have H58 := Lib.hid (fun W => (rcur_any ⟨cu.toArray⟩ W (by show cu.toArray.size ≤ maxLen; rw [List.size_toArray]; unfold maxLen; have := hsx.out.2.1; omega)).mono fun e w' h => (show e = .returned (.bool (curB cu)) ∧ Below W.heap.size W w' from ⟨h.1, by rw [← h.2]; exact Below.refl _ _⟩))
      have H59 := Lib.hid (fun W => (rchk_any m W hsx.out.2.2).mono fun e w' h => (show e = .returned (.int .i64 (chkI m)) ∧ Below W.heap.size W w' from ⟨h.1, by rw [← h.2]; exact Below.refl _ _⟩))
      go_upto_region 4 with fail
      cases hcb : codeB a
      · have hr := Lib.hid (show r = false by
          rw [hv.out, HC2.out, if_pos (lineI_acc hcb)]
          exact decide_eq_false (lineI_acc hcb))
        rw [show chkA a = 3 by unfold chkA; rw [hcb]; rfl] at H57
        clear hcb
        refine wp_region_quiet_bel (by kernel_rfl) (by kernel_rfl) ?_
        repeat (go_big_quiet_step (first
          | (go_at_call 57; with_reducible refine Calls.bel_of (H57.out _))
          | (go_at_call 58; with_reducible refine Calls.bel_of (H58.out _))
          | (go_at_call 59; with_reducible refine Calls.bel_of (H59.out _))))
        refine wpQuiet_nil ?_
        intro wq hw'
        obtain ⟨⟨wz, hq⟩, hw2⟩ := hw'
        have hw3 : wq = wz := hw2
        subst hw3
        clear hw2
        have HBq := Lib.hid (below_next HB.out hq ⟨rfl, rfl, rfl, rfl⟩)
        clear hq
        have hv1 := Lib.hid (HP.out wq HBq.out)
        rw [hr.out] at hv1
        go_wp2_with fail
        exact hv1.out
      rw [show chkA a = 0 by unfold chkA; rw [hcb]; rfl] at H57
      cases hcu : curB cu
      · have hr := Lib.hid (show r = false by
          rw [hv.out, HC2.out, if_pos (lineI_cu hcu)]
          exact decide_eq_false (lineI_cu hcu))
        rw [hcu] at H58
        clear hcu hcb
        refine wp_region_quiet_bel (by kernel_rfl) (by kernel_rfl) ?_
        repeat (go_big_quiet_step (first
          | (go_at_call 57; with_reducible refine Calls.bel_of (H57.out _))
          | (go_at_call 58; with_reducible refine Calls.bel_of (H58.out _))
          | (go_at_call 59; with_reducible refine Calls.bel_of (H59.out _))))
        refine wpQuiet_nil ?_
        intro wq hw'
        obtain ⟨⟨wz, hq⟩, hw2⟩ := hw'
        have hw3 : wq = wz := hw2
        subst hw3
        clear hw2
        have HBq := Lib.hid (below_next HB.out hq ⟨rfl, rfl, rfl, rfl⟩)
        clear hq
        have hv1 := Lib.hid (HP.out wq HBq.out)
        rw [hr.out] at hv1
        go_wp2_with fail
        exact hv1.out
      rw [hcu] at H58
      by_cases hci : chkI m = 0
      case neg =>
        have hr := Lib.hid (show r = false by
          rw [hv.out, HC2.out, if_pos (lineI_am hci)]
          exact decide_eq_false (lineI_am hci))
        have hne : (chkI m != 0) = true := by rw [bne_iff_ne]; exact hci
        generalize chkI m = v at *
        clear hcu hcb hci
        refine wp_region_quiet_bel (by kernel_rfl) (by kernel_rfl) ?_
        repeat (go_big_quiet_step (first
          | (go_at_call 57; with_reducible refine Calls.bel_of (H57.out _))
          | (go_at_call 58; with_reducible refine Calls.bel_of (H58.out _))
          | (go_at_call 59; with_reducible refine Calls.bel_of (H59.out _))))
        refine wpQuiet_nil ?_
        intro wq hw'
        obtain ⟨⟨wz, hq⟩, hw2⟩ := hw'
        have hw3 : wq = wz := hw2
        subst hw3
        clear hw2
        have HBq := Lib.hid (below_next HB.out hq ⟨rfl, rfl, rfl, rfl⟩)
        clear hq
        have hv1 := Lib.hid (HP.out wq HBq.out)
        rw [hr.out] at hv1
        go_wp2_with fail
        exact hv1.out
      have hli := lineI_parts hcu hci hcb
      rw [hci] at H59
      clear hcu hcb hci
      rcases m with _ | ⟨m0, mr⟩
      · have hr := Lib.hid (show r = false by
          rw [hv.out, HC2.out, if_neg (by rw [hli]; decide), if_pos rfl]
          rfl)
        clear hli
        refine wp_region_quiet_bel (by kernel_rfl) (by kernel_rfl) ?_
        repeat (go_big_quiet_step (first
          | (go_at_call 57; with_reducible refine Calls.bel_of (H57.out _))
          | (go_at_call 58; with_reducible refine Calls.bel_of (H58.out _))
          | (go_at_call 59; with_reducible refine Calls.bel_of (H59.out _))))
        refine wpQuiet_nil ?_
        intro wq hw'
        obtain ⟨⟨wz, hq⟩, hw2⟩ := hw'
        have hw3 : wq = wz := hw2
        subst hw3
        clear hw2
        have HBq := Lib.hid (below_next HB.out hq ⟨rfl, rfl, rfl, rfl⟩)
        clear hq
        have hv1 := Lib.hid (HP.out wq HBq.out)
        rw [hr.out] at hv1
        go_wp2_with fail
        exact hv1.out
      have HC3 := Lib.hid (show chkLs none l = if ordB (prevAt l k) (key (a, cu, m0 :: mr)) then 8 else chkLs (some (key (a, cu, m0 :: mr))) (l.drop (k + 1)) by
        rw [HC2.out, if_neg (by rw [hli]; decide), if_neg (by simp)])
      clear HC2 hli
      by_cases hk0 : k = 0
      · have hch2 := HC3.out
        rw [show ordB (prevAt l k) (key (a, cu, m0 :: mr)) = false by rw [hk0]; rfl, if_neg (by decide)] at hch2
        have HCH := Lib.hid hch2
        have hk0i : ¬ (0 : Int) < (k : Int) := by omega
        have hk0n : ¬ 0 < k := by omega
        clear hk0 hch2 HC3
        refine wp_region_quiet_bel (by kernel_rfl) (by kernel_rfl) ?_
        repeat (go_big_quiet_step (first
          | (go_at_call 57; with_reducible refine Calls.bel_of (H57.out _))
          | (go_at_call 58; with_reducible refine Calls.bel_of (H58.out _))
          | (go_at_call 59; with_reducible refine Calls.bel_of (H59.out _))))
        refine wpQuiet_nil ?_
        intro wq hw'
        obtain ⟨⟨wz, hq⟩, hw2⟩ := hw'
        have hw3 : wq = wz := hw2
        subst hw3
        clear hw2
        have HBq := Lib.hid (below_next HB.out hq ⟨rfl, rfl, rfl, rfl⟩)
        clear hq
        have RR := Lib.hid (show LisR w l (k + 1) wq from ⟨by rw [hpk.out]; exact HCH.out, HBq.out⟩)
        clear hpk
        go_wp2_with fail
        exact ⟨⟨k + 1, by omega, by go_num, RR⟩, by simp [intOf]; omega⟩
      obtain ⟨j, hj⟩ : ∃ j, k = j + 1 := ⟨k - 1, by omega⟩
      have hjn : j < n := by omega
      have d0 : ∀ p : Bel wr, p.W.cell? ⟨b1, o1 + j * 3, none⟩ = some (.string ⟨(l.getD j ln0).1.toArray⟩) := fun p => (L1.out.below (below_next HB.out p.h ⟨rfl, rfl, rfl, rfl⟩)).cell rowB_ok ln0 j 0 _ hjn rfl
      have d1 : ∀ p : Bel wr, p.W.cell? ⟨b1, o1 + j * 3 + 1, none⟩ = some (.string ⟨(l.getD j ln0).2.1.toArray⟩) := fun p => (L1.out.below (below_next HB.out p.h ⟨rfl, rfl, rfl, rfl⟩)).cell rowB_ok ln0 j 1 _ hjn rfl
      have d2 : ∀ p : Bel wr, p.W.cell? ⟨b1, o1 + j * 3 + 2, none⟩ = some (.string ⟨(l.getD j ln0).2.2.toArray⟩) := fun p => (L1.out.below (below_next HB.out p.h ⟨rfl, rfl, rfl, rfl⟩)).cell rowB_ok ln0 j 2 _ hjn rfl
      have hpv : prevAt l k = some (key (l.getD j ln0)) := by rw [hj]; rfl
      have hch2 := HC3.out
      rw [hpv, ordB_less] at hch2
      have hw : IntKind.i64.wrap ((k : Int) - 1) = (j : Int) := (IntWalk.i64_in _ (by omega)).trans (by omega)
      have hji : (j : Int) < (n : Int) := by omega
      have hk0i : (0 : Int) < (k : Int) := by omega
      have hk0n : 0 < k := by omega
      clear hpv hj hk0 HC3
      generalize l.getD j ln0 = y at *
      obtain ⟨ya, yc, ym⟩ := y
      simp only at d0 d1 d2
      have H60 := Lib.hid (fun W => less_any ya yc ym a cu (m0 :: mr) W)
      generalize lessQ (ya, yc, ym) (a, cu, m0 :: mr) = ls at *
      cases ls
      · rw [Bool.not_false, if_pos rfl] at hch2
        have hr := Lib.hid (show r = false by rw [hv.out, hch2]; rfl)
        clear hch2
        refine wp_region_quiet_bel (by kernel_rfl) (by kernel_rfl) ?_
        repeat (go_big_quiet_step (first
          | (go_at_call 57; with_reducible refine Calls.bel_of (H57.out _))
          | (go_at_call 58; with_reducible refine Calls.bel_of (H58.out _))
          | (go_at_call 59; with_reducible refine Calls.bel_of (H59.out _))
          | (go_at_call 60; with_reducible refine Calls.bel_of (H60.out _))))
        refine wpQuiet_nil ?_
        intro wq hw'
        obtain ⟨⟨wz, hq⟩, hw2⟩ := hw'
        have hw3 : wq = wz := hw2
        subst hw3
        clear hw2
        have HBq := Lib.hid (below_next HB.out hq ⟨rfl, rfl, rfl, rfl⟩)
        clear hq
        have hv1 := Lib.hid (HP.out wq HBq.out)
        rw [hr.out] at hv1
        go_wp2_with fail
        exact hv1.out
      · rw [Bool.not_true, if_neg (by decide)] at hch2
        have HCH := Lib.hid hch2
        clear hch2
        refine wp_region_quiet_bel (by kernel_rfl) (by kernel_rfl) ?_
        repeat (go_big_quiet_step (first
          | (go_at_call 57; with_reducible refine Calls.bel_of (H57.out _))
          | (go_at_call 58; with_reducible refine Calls.bel_of (H58.out _))
          | (go_at_call 59; with_reducible refine Calls.bel_of (H59.out _))
          | (go_at_call 60; with_reducible refine Calls.bel_of (H60.out _))))
        refine wpQuiet_nil ?_
        intro wq hw'
        obtain ⟨⟨wz, hq⟩, hw2⟩ := hw'
        have hw3 : wq = wz := hw2
        subst hw3
        clear hw2
        have HBq := Lib.hid (below_next HB.out hq ⟨rfl, rfl, rfl, rfl⟩)
        clear hq
        have RR := Lib.hid (show LisR w l (k + 1) wq from ⟨by rw [hpk.out]; exact HCH.out, HBq.out⟩)
        clear hpk
        go_wp2_with fail
        exact ⟨⟨k + 1, by omega, by go_num, RR⟩, by simp [intOf]; omega⟩
    · have hkn : k = n := by omega
      subst hkn
      have hki : ¬ (k : Int) < (k : Int) := by omega
      have hr := Lib.hid (show r = true by
        rw [hv.out, hch.out, List.drop_of_length_le (by rw [ll.out]; exact Nat.le_refl _)]
        rfl)
      have hv1 := Lib.hid (HP.out wr HB.out)
      rw [hr.out] at hv1
      go_wp2_with fail
      exact hv1.out
end Go.Proofs.YtohdpidlilhnjaaGreatDoor

/- Contracts of the reference's Great, the law's total, ContainsFunc and Contains at balances (printed by gen_cont.py). -/
namespace Go.Proofs.YtohdpidlilhnjaaGreatDoor
open Go.RowKit Go.Maps Num

/-- larger than the statements examine -/
def grLB (l : List Ln) : Bool := l.any lnG || decide (16 < l.length)
set_option maxRecDepth 100000 in
set_option maxHeartbeats 4000000 in
theorem rGreatB_any (A : Option Addr) (n c : Nat) (l : List Ln) (w : World) (hl : rowB.Rds w A n c l) : Calls Tryz.prog 27 #[.slice A n c] w (BoolPost (grLB l) w) := by
  have ll := Lib.hid hl.len
  have L1 := Lib.hid hl
  have HP := Lib.hid (fun W b (h : grLB l = b) (hb : Below w.heap.size w W) => (show BoolPost (grLB l) w (.returned (.bool b)) W from ⟨by rw [h], hb⟩))
  have HG := Lib.hid (show grLB l = (l.any lnG || decide (16 < n)) by rw [← hl.len]; rfl)
  have htop : n ≤ maxLen := Nat.le_trans hl.cap hl.top
  unfold maxLen at htop
  generalize BoolPost (grLB l) w = Post at *
  generalize grLB l = r at *
  clear hl
  go_enter Tryz.func27, Tryz.ntmps27
  go_wp2_with fail
  go_loopw [3] (fun i wr => ∃ k : Nat, k ≤ n ∧ i = .int .i64 (k : Int) ∧ Hid (∀ x ∈ l.take k, lnG x = false) ∧ Hid (Below w.heap.size w wr)) (fun i _ => n - (intOf i).toNat)
  case atStart => exact ⟨0, by omega, rfl, Lib.hid (by simp), Lib.hid (Below.refl _ _)⟩
  case round =>
    obtain ⟨k, hk, rfl, HE, HB⟩ := hrel
    by_cases hlt : k < n
    · have hkl : k < l.length := by rw [ll.out]; exact hlt
      obtain ⟨b1, o1, rfl, hb1, _⟩ := L1.out.at_ (by omega)
      have p0 := (L1.out.below HB.out).cell rowB_ok ln0 k 0 _ hlt rfl
      have p1 := (L1.out.below HB.out).cell rowB_ok ln0 k 1 _ hlt rfl
      have p2 := (L1.out.below HB.out).cell rowB_ok ln0 k 2 _ hlt rfl
      have hki : (k : Int) < (n : Int) := by omega
      have HT := Lib.hid (fun h => HG.out.trans (by rw [any_take hkl h, Bool.true_or]))
      have HTK := Lib.hid (take_ln l k hkl)
      clear hkl
      generalize l.getD k ln0 = y at *
      obtain ⟨ya, yc, ym⟩ := y
      simp only [Nat.add_zero] at p0 p1 p2
      have LC := Lib.hid (fun W => rlong_all ym W)
      unfold RetP at LC
      have HY := Lib.hid (show lnG (ya, yc, ym) = (decide (60 < ya.length) || decide (60 < yc.length) || decide (13 < ym.length)) from rfl)
      obtain ⟨gy, hgy⟩ : ∃ gy, lnG (ya, yc, ym) = gy := ⟨_, rfl⟩
      rw [hgy] at HT HY
      have HYG := Lib.hid hgy
      clear hgy
      by_cases g1 : 60 < ya.length
      · have u1 : decide (60 < (ya.length : Int)) = true := by rw [decide_eq_true_iff]; omega
        have hv := Lib.hid (HT.out (by rw [HY.out, decide_eq_true g1]; rfl))
        clear g1
        go_wp2_with fail
        exact HP.out _ _ hv.out HB.out
      have u1 : decide (60 < (ya.length : Int)) = false := by rw [decide_eq_false_iff_not]; omega
      by_cases g2 : 60 < yc.length
      · have u2 : decide (60 < (yc.length : Int)) = true := by rw [decide_eq_true_iff]; omega
        have hv := Lib.hid (HT.out (by rw [HY.out, decide_eq_false g1, decide_eq_true g2]; rfl))
        clear g1 g2
        go_wp2_with fail
        exact HP.out _ _ hv.out HB.out
      have u2 : decide (60 < (yc.length : Int)) = false := by rw [decide_eq_false_iff_not]; omega
      have HY2 := Lib.hid (show gy = decide (13 < ym.length) by rw [HY.out, decide_eq_false g1, decide_eq_false g2]; rfl)
      clear HY g1 g2
      generalize decide (13 < ym.length) = lg at *
      go_wp2_with fail
      refine (LC.out _).mono ?_
      rintro e w' ⟨rfl, rfl⟩
      cases lg
      · have HE2 := Lib.hid (show ∀ x ∈ l.take (k + 1), lnG x = false from fun x hx => by
          rw [HTK.out] at hx
          rcases List.mem_append.1 hx with h | h
          · exact HE.out x h
          · rw [List.mem_singleton.1 h]; exact HYG.out.trans HY2.out)
        go_wp2_with fail
        exact ⟨⟨k + 1, by omega, by go_num, HE2, HB⟩, by simp [intOf]; omega⟩
      · have hv := Lib.hid (HT.out HY2.out)
        go_wp2_with fail
        exact HP.out _ _ hv.out HB.out
    · have hkn : k = n := by omega
      subst hkn
      have hki : ¬ (k : Int) < (k : Int) := by omega
      have e := HE.out
      rw [List.take_of_length_le (by rw [ll.out]; exact Nat.le_refl _)] at e
      have e16 : decide (16 < (k : Int)) = decide (16 < k) := by rw [decide_eq_decide]; omega
      have hv := Lib.hid (show r = decide (16 < k) by rw [HG.out, any_none e, Bool.false_or])
      clear e HE
      generalize decide (16 < k) = b16 at *
      go_wp2_with fail
      exact HP.out _ _ hv.out HB.out
theorem curT_sbd (l : List Ln) (h : ∀ x ∈ l, Sml x) (cu : List UInt8) : (curT l cu).natAbs ≤ l.length * big := by
  induction l with
  | nil => simp [curT]
  | cons x r ih =>
    have h1 := ih fun y hy => h y (by simp [hy])
    have h2 := tot_bd [x] (fun y hy => h y (by simp at hy; simp [hy])) (key x)
    rw [tot_cons, if_pos rfl, tot_nil] at h2
    simp only [List.length_cons, List.length_nil] at h2
    rw [curT_cons, List.length_cons, Nat.add_mul]
    split <;> omega
theorem curT_take (l : List Ln) (k : Nat) (h : k < l.length) (cu : List UInt8) : curT (l.take (k + 1)) cu = curT (l.take k) cu + if (l.getD k ln0).2.1 = cu then val (l.getD k ln0).2.2 else 0 := by
  rw [take_ln l k h, curT_snoc]
structure TotR (w : World) (l : List Ln) (cu : List UInt8) (k : Nat) (v : Value) (W : World) : Prop where
  v : v = .string ⟨(txt (curT (l.take k) cu)).toArray⟩
  bel : Below w.heap.size w W
set_option maxRecDepth 100000 in
set_option maxHeartbeats 4000000 in
theorem total_any (A : Option Addr) (n c : Nat) (l : List Ln) (cu : List UInt8) (w : World) (hl : rowB.Rds w A n c l) (hs : ∀ x ∈ l, Sml x) (hn : n ≤ 10000) (ht : Tab w) :
    Calls Tryz.prog 17 #[.slice A n c, .string ⟨cu.toArray⟩] w (StrPost (txt (curT l cu)) w) := by
  have ll := Lib.hid hl.len
  have L1 := Lib.hid hl
  have HT := Lib.hid ht
  have HS := Lib.hid hs
  have HBD := Lib.hid (show ∀ k, (txt (curT (l.take k) cu)).length ≤ 110 from fun k => bd_txt4 (curT_sbd _ (take_sml hs k) cu) (by rw [List.length_take, hl.len]; omega))
  have HP := Lib.hid (fun W s (h : txt (curT l cu) = s) (hb : Below w.heap.size w W) => (show StrPost (txt (curT l cu)) w (.returned (.string ⟨s.toArray⟩)) W from ⟨by rw [h], hb⟩))
  have HC := Lib.hid (fun k h => curT_take l k h cu)
  have HE := Lib.hid (show ∀ k, k = n → txt (curT l cu) = txt (curT (l.take k) cu) from fun k h => by rw [List.take_of_length_le (by rw [hl.len, h]; exact Nat.le_refl _)])
  clear hl hs ht
  generalize StrPost (txt (curT l cu)) w = Post at *
  generalize txt (curT l cu) = r at *
  have R0 := Lib.hid (show TotR w l cu 0 (.string ⟨#[]⟩) w from ⟨by rw [List.take_zero]; show _ = Value.string ⟨(txt 0).toArray⟩; rw [txt_zero], Below.refl _ _⟩)
  go_enter Tryz.func17, Tryz.ntmps17
  go_wp2_with fail
  go_loopw [10, 5] (fun i v wr => ∃ k : Nat, k ≤ n ∧ i = .int .i64 (k : Int) ∧ Hid (TotR w l cu k v wr)) (fun i _ _ => n - (intOf i).toNat)
  case atStart => exact ⟨0, by omega, rfl, R0⟩
  case round =>
    clear R0
    obtain ⟨k, hk, rfl, hR⟩ := hrel
    have hu := hR.out.v
    subst hu
    have HB := Lib.hid hR.out.bel
    clear hR
    by_cases hlt : k < n
    · have hkl : k < l.length := by rw [ll.out]; exact hlt
      obtain ⟨b1, o1, rfl, hb1, _⟩ := L1.out.at_ (by omega)
      have p0 := (L1.out.below HB.out).cell rowB_ok ln0 k 0 _ hlt rfl
      have p1 := (L1.out.below HB.out).cell rowB_ok ln0 k 1 _ hlt rfl
      have p2 := (L1.out.below HB.out).cell rowB_ok ln0 k 2 _ hlt rfl
      have hki : (k : Int) < (n : Int) := by omega
      have hct := Lib.hid (HC.out k hkl)
      have hsx := Lib.hid (HS.out _ (lnAt_mem l k hkl))
      have hbd := Lib.hid (HBD.out k)
      generalize l.getD k ln0 = x at *
      obtain ⟨a, cx, m⟩ := x
      simp only [Nat.add_zero] at p0 p1 p2
      have HB2 := Lib.hid (HB.out.alloc HB.out.size (.cells #[.string ⟨a.toArray⟩, .string ⟨cx.toArray⟩, .string ⟨m.toArray⟩] 33))
      by_cases hcu : cx = cu
      · subst hcu
        have HAD := Lib.hid (show Calls Tryz.prog 21 #[.string ⟨(txt (curT (l.take k) cx)).toArray⟩, .string ⟨m.toArray⟩] (wr.alloc (.cells #[.string ⟨a.toArray⟩, .string ⟨cx.toArray⟩, .string ⟨m.toArray⟩] 33)) (StrPost (txt (val (txt (curT (l.take k) cx)) + val m)) (wr.alloc (.cells #[.string ⟨a.toArray⟩, .string ⟨cx.toArray⟩, .string ⟨m.toArray⟩] 33))) from
          Add_any ⟨(txt (curT (l.take k) cx)).toArray⟩ ⟨m.toArray⟩ _ (by show (txt (curT (l.take k) cx)).toArray.size ≤ 120; rw [List.size_toArray]; have := hbd.out; omega) (by show m.toArray.size ≤ 120; rw [List.size_toArray]; have := hsx.out.2.2; simp only at this; omega) (HT.out.below HB2.out))
        have HV := Lib.hid (show txt (curT (l.take (k + 1)) cx) = txt (val (txt (curT (l.take k) cx)) + val m) by rw [hct.out, if_pos rfl, val_txt])
        clear hct hbd
        generalize txt (curT (l.take k) cx) = ru at *
        generalize txt (val ru + val m) = ru2 at *
        go_wp2_with fail
        refine HAD.out.mono ?_
        rintro e w3 ⟨rfl, hb⟩
        have RR := Lib.hid (show TotR w l cx (k + 1) (.string ⟨ru2.toArray⟩) w3 from ⟨by rw [HV.out], below_next HB2.out hb ⟨rfl, rfl, rfl, rfl⟩⟩)
        clear hb HAD
        go_wp2_with fail
        exact ⟨⟨k + 1, by omega, by go_num, RR⟩, by simp [intOf]; omega⟩
      · have t1 : (cx == cu) = false := beq_eq_false_iff_ne.2 hcu
        have RR := Lib.hid (show TotR w l cu (k + 1) (.string ⟨(txt (curT (l.take k) cu)).toArray⟩) (wr.alloc (.cells #[.string ⟨a.toArray⟩, .string ⟨cx.toArray⟩, .string ⟨m.toArray⟩] 33)) from ⟨by rw [hct.out, if_neg hcu, Int.add_zero], HB2.out⟩)
        clear hct hbd
        generalize txt (curT (l.take k) cu) = ru at *
        go_wp2_with fail
        exact ⟨⟨k + 1, by omega, by go_num, RR⟩, by simp [intOf]; omega⟩
    · have hkn : k = n := by omega
      have hv := Lib.hid (HE.out k hkn)
      subst hkn
      have hki : ¬ (k : Int) < (k : Int) := by omega
      generalize txt (curT (l.take k) cu) = ru at *
      go_wp2_with fail
      exact HP.out _ _ hv.out HB.out
theorem anyB_snoc (P : Ln → Bool) (l : List Ln) (k : Nat) (h : k < l.length) : (l.take (k + 1)).any P = ((l.take k).any P || P (l.getD k ln0)) := by
  rw [take_ln l k h, List.any_append]; simp

set_option maxRecDepth 100000 in
set_option maxHeartbeats 4000000 in
theorem idx19 (bp : Nat) (P : Ln → Bool) (A : Option Addr) (n c : Nat) (l : List Ln) (w : World) (hl : rowB.Rds w A n c l) (hn : n ≤ 100000)
    (hc : ∀ W x, Below w.heap.size w W → x ∈ l → Calls Tryz.prog 19 #[.agg #[.string ⟨x.1.toArray⟩, .string ⟨x.2.1.toArray⟩, .string ⟨x.2.2.toArray⟩], .pointer (some ⟨bp, 0, none⟩)] W (BoolPost (P x) W)) :
    Calls Tryz.prog 61 #[.slice A n c, .func (.func 19) #[] #[.pointer (some ⟨bp, 0, none⟩)]] w (IdxP (l.any P) w) := by
  have ll := Lib.hid hl.len
  have L1 := Lib.hid hl
  have HC := Lib.hid hc
  have HS := Lib.hid (anyB_snoc P l)
  have HH := Lib.hid (show ∀ k, k < l.length → P (l.getD k ln0) = true → l.any P = true from fun k hk h => List.any_eq_true.2 ⟨_, lnAt_mem l k hk, h⟩)
  have HP := Lib.hid (show ∀ i W, decide (0 ≤ i) = l.any P → Below w.heap.size w W → IdxP (l.any P) w (.returned (.int .i64 i)) W from fun i W h1 h2 => ⟨i, rfl, h1, h2⟩)
  clear hl hc
  generalize IdxP (l.any P) w = Post at *
  go_enter Tryz.func61, Tryz.ntmps61
  go_wp2_with fail
  have R0 := Lib.hid (show (l.take 0).any P = false ∧ Below w.heap.size w w from ⟨by simp, Below.refl _ _⟩)
  go_loopw [8, 5] (fun i _ wr => ∃ k : Nat, k ≤ n ∧ i = .int .i64 (k : Int) ∧ Hid ((l.take k).any P = false ∧ Below w.heap.size w wr)) (fun i _ _ => n - (intOf i).toNat)
  case atStart => exact ⟨0, by omega, rfl, R0⟩
  case round =>
    obtain ⟨k, hk, rfl, hR⟩ := hrel
    have HE := Lib.hid hR.out.1
    have HB := Lib.hid hR.out.2
    clear hR R0
    by_cases hlt : k < n
    · have hkl : k < l.length := by rw [ll.out]; exact hlt
      have hs1 := Lib.hid (HS.out k hkl)
      have hh1 := Lib.hid (HH.out k hkl)
      obtain ⟨b1, o1, rfl, hb1, _⟩ := L1.out.at_ (by omega)
      have q0 := (L1.out.below HB.out).cell rowB_ok ln0 k 0 _ hlt rfl
      have q1 := (L1.out.below HB.out).cell rowB_ok ln0 k 1 _ hlt rfl
      have q2 := (L1.out.below HB.out).cell rowB_ok ln0 k 2 _ hlt rfl
      have CL := Lib.hid (HC.out wr _ HB.out (lnAt_mem l k hkl))
      have hki : (k : Int) < (n : Int) := by omega
      have hk0 : (0 : Int) ≤ (k : Int) := by omega
      generalize P (l.getD k ln0) = bd at *
      generalize l.getD k ln0 = x at *
      obtain ⟨a, cu, m⟩ := x
      simp only [Nat.add_zero] at q0 q1 q2 CL
      clear hkl
      go_wp2_with fail
      refine CL.out.mono ?_
      rintro e w1 ⟨rfl, hb⟩
      have HB2 := Lib.hid (below_next HB.out hb ⟨rfl, rfl, rfl, rfl⟩)
      clear hb CL
      cases bd
      · have HE2 := Lib.hid (show (l.take (k + 1)).any P = false by rw [hs1.out, HE.out]; rfl)
        go_wp2_with fail
        go_roundw
        case rel => exact ⟨k + 1, by omega, by go_num, Lib.hid ⟨HE2.out, HB2.out⟩⟩
        case measure => simp [intOf]; omega
      · have hv := Lib.hid (HP.out (k : Int) w1 (by rw [hh1.out rfl]; exact decide_eq_true hk0) HB2.out)
        go_wp2_with fail
        exact hv.out
    · have hki : decide ((k : Int) < (n : Int)) = false := by rw [decide_eq_false_iff_not]; omega
      have hv := Lib.hid (HP.out (-1) wr (by
        have e := HE.out
        rw [List.take_of_length_le (by rw [ll.out]; omega)] at e
        rw [e]; rfl) HB.out)
      go_wp2_with fail
      exact hv.out
set_option maxRecDepth 100000 in
theorem cont19 (bp : Nat) (P : Ln → Bool) (A : Option Addr) (n c : Nat) (l : List Ln) (w : World) (hl : rowB.Rds w A n c l) (hn : n ≤ 100000)
    (hc : ∀ W x, Below w.heap.size w W → x ∈ l → Calls Tryz.prog 19 #[.agg #[.string ⟨x.1.toArray⟩, .string ⟨x.2.1.toArray⟩, .string ⟨x.2.2.toArray⟩], .pointer (some ⟨bp, 0, none⟩)] W (BoolPost (P x) W)) :
    Calls Tryz.prog 18 #[.slice A n c, .func (.func 19) #[] #[.pointer (some ⟨bp, 0, none⟩)]] w (BoolPost (l.any P) w) := by
  have HI := Lib.hid (idx19 bp P A n c l w hl hn hc)
  clear hl hc
  go_enter Tryz.func18, Tryz.ntmps18
  go_wp2_with fail
  refine HI.out.mono ?_
  rintro e w1 ⟨i, rfl, hi, hb⟩
  have HI2 := Lib.hid hi
  have HB := Lib.hid hb
  clear hi hb HI
  go_wp2_with fail
  go_ret
  exact ⟨by rw [HI2.out]; rfl, HB.out⟩

set_option maxRecDepth 100000 in
set_option maxHeartbeats 4000000 in
theorem idx25 (bp : Nat) (P : Ln → Bool) (A : Option Addr) (n c : Nat) (l : List Ln) (w : World) (hl : rowB.Rds w A n c l) (hn : n ≤ 100000)
    (hc : ∀ W x, Below w.heap.size w W → x ∈ l → Calls Tryz.prog 25 #[.agg #[.string ⟨x.1.toArray⟩, .string ⟨x.2.1.toArray⟩, .string ⟨x.2.2.toArray⟩], .pointer (some ⟨bp, 0, none⟩)] W (BoolPost (P x) W)) :
    Calls Tryz.prog 61 #[.slice A n c, .func (.func 25) #[] #[.pointer (some ⟨bp, 0, none⟩)]] w (IdxP (l.any P) w) := by
  have ll := Lib.hid hl.len
  have L1 := Lib.hid hl
  have HC := Lib.hid hc
  have HS := Lib.hid (anyB_snoc P l)
  have HH := Lib.hid (show ∀ k, k < l.length → P (l.getD k ln0) = true → l.any P = true from fun k hk h => List.any_eq_true.2 ⟨_, lnAt_mem l k hk, h⟩)
  have HP := Lib.hid (show ∀ i W, decide (0 ≤ i) = l.any P → Below w.heap.size w W → IdxP (l.any P) w (.returned (.int .i64 i)) W from fun i W h1 h2 => ⟨i, rfl, h1, h2⟩)
  clear hl hc
  generalize IdxP (l.any P) w = Post at *
  go_enter Tryz.func61, Tryz.ntmps61
  go_wp2_with fail
  have R0 := Lib.hid (show (l.take 0).any P = false ∧ Below w.heap.size w w from ⟨by simp, Below.refl _ _⟩)
  go_loopw [8, 5] (fun i _ wr => ∃ k : Nat, k ≤ n ∧ i = .int .i64 (k : Int) ∧ Hid ((l.take k).any P = false ∧ Below w.heap.size w wr)) (fun i _ _ => n - (intOf i).toNat)
  case atStart => exact ⟨0, by omega, rfl, R0⟩
  case round =>
    obtain ⟨k, hk, rfl, hR⟩ := hrel
    have HE := Lib.hid hR.out.1
    have HB := Lib.hid hR.out.2
    clear hR R0
    by_cases hlt : k < n
    · have hkl : k < l.length := by rw [ll.out]; exact hlt
      have hs1 := Lib.hid (HS.out k hkl)
      have hh1 := Lib.hid (HH.out k hkl)
      obtain ⟨b1, o1, rfl, hb1, _⟩ := L1.out.at_ (by omega)
      have q0 := (L1.out.below HB.out).cell rowB_ok ln0 k 0 _ hlt rfl
      have q1 := (L1.out.below HB.out).cell rowB_ok ln0 k 1 _ hlt rfl
      have q2 := (L1.out.below HB.out).cell rowB_ok ln0 k 2 _ hlt rfl
      have CL := Lib.hid (HC.out wr _ HB.out (lnAt_mem l k hkl))
      have hki : (k : Int) < (n : Int) := by omega
      have hk0 : (0 : Int) ≤ (k : Int) := by omega
      generalize P (l.getD k ln0) = bd at *
      generalize l.getD k ln0 = x at *
      obtain ⟨a, cu, m⟩ := x
      simp only [Nat.add_zero] at q0 q1 q2 CL
      clear hkl
      go_wp2_with fail
      refine CL.out.mono ?_
      rintro e w1 ⟨rfl, hb⟩
      have HB2 := Lib.hid (below_next HB.out hb ⟨rfl, rfl, rfl, rfl⟩)
      clear hb CL
      cases bd
      · have HE2 := Lib.hid (show (l.take (k + 1)).any P = false by rw [hs1.out, HE.out]; rfl)
        go_wp2_with fail
        go_roundw
        case rel => exact ⟨k + 1, by omega, by go_num, Lib.hid ⟨HE2.out, HB2.out⟩⟩
        case measure => simp [intOf]; omega
      · have hv := Lib.hid (HP.out (k : Int) w1 (by rw [hh1.out rfl]; exact decide_eq_true hk0) HB2.out)
        go_wp2_with fail
        exact hv.out
    · have hki : decide ((k : Int) < (n : Int)) = false := by rw [decide_eq_false_iff_not]; omega
      have hv := Lib.hid (HP.out (-1) wr (by
        have e := HE.out
        rw [List.take_of_length_le (by rw [ll.out]; omega)] at e
        rw [e]; rfl) HB.out)
      go_wp2_with fail
      exact hv.out
set_option maxRecDepth 100000 in
theorem cont25 (bp : Nat) (P : Ln → Bool) (A : Option Addr) (n c : Nat) (l : List Ln) (w : World) (hl : rowB.Rds w A n c l) (hn : n ≤ 100000)
    (hc : ∀ W x, Below w.heap.size w W → x ∈ l → Calls Tryz.prog 25 #[.agg #[.string ⟨x.1.toArray⟩, .string ⟨x.2.1.toArray⟩, .string ⟨x.2.2.toArray⟩], .pointer (some ⟨bp, 0, none⟩)] W (BoolPost (P x) W)) :
    Calls Tryz.prog 18 #[.slice A n c, .func (.func 25) #[] #[.pointer (some ⟨bp, 0, none⟩)]] w (BoolPost (l.any P) w) := by
  have HI := Lib.hid (idx25 bp P A n c l w hl hn hc)
  clear hl hc
  go_enter Tryz.func18, Tryz.ntmps18
  go_wp2_with fail
  refine HI.out.mono ?_
  rintro e w1 ⟨i, rfl, hi, hb⟩
  have HI2 := Lib.hid hi
  have HB := Lib.hid hb
  clear hi hb HI
  go_wp2_with fail
  go_ret
  exact ⟨by rw [HI2.out]; rfl, HB.out⟩

set_option maxRecDepth 100000 in
theorem clo19_any (bp : Nat) (a cu m ka kc : List UInt8) (W : World) (h0 : W.cell? ⟨bp, 0, none⟩ = some (.string ⟨ka.toArray⟩)) (h1 : W.cell? ⟨bp, 1, none⟩ = some (.string ⟨kc.toArray⟩)) :
    Calls Tryz.prog 19 #[.agg #[.string ⟨a.toArray⟩, .string ⟨cu.toArray⟩, .string ⟨m.toArray⟩], .pointer (some ⟨bp, 0, none⟩)] W (BoolPost (decide ((a, cu) = (ka, kc))) W) := by
  have lb : bp < W.heap.size := block_lt_of_cell h0
  have hne : ¬ bp = W.heap.size := by omega
  have hb := Lib.hid (show Below W.heap.size W (W.alloc (.cells #[.string ⟨a.toArray⟩, .string ⟨cu.toArray⟩, .string ⟨m.toArray⟩] 33)) from (Below.refl _ W).alloc (Nat.le_refl _) _)
  generalize hr : decide ((a, cu) = (ka, kc)) = r
  by_cases e1 : a = ka
  · by_cases e2 : cu = kc
    · subst e1 e2
      have hv := Lib.hid (show r = true by rw [← hr]; exact decide_eq_true rfl)
      clear hr
      go_enter Tryz.func19, Tryz.ntmps19
      go_wp2_with fail
      go_ret
      exact ⟨by rw [hv.out]; rfl, hb.out⟩
    · subst e1
      have t2 : (cu == kc) = false := beq_eq_false_iff_ne.2 e2
      have hv := Lib.hid (show r = false by rw [← hr]; exact decide_eq_false (fun e => e2 (congrArg Prod.snd e)))
      clear e2 hr
      go_enter Tryz.func19, Tryz.ntmps19
      go_wp2_with fail
      go_ret
      exact ⟨by rw [hv.out]; rfl, hb.out⟩
  · have t1 : (a == ka) = false := beq_eq_false_iff_ne.2 e1
    have hv := Lib.hid (show r = false by rw [← hr]; exact decide_eq_false (fun e => e1 (congrArg Prod.fst e)))
    clear e1 hr
    go_enter Tryz.func19, Tryz.ntmps19
    go_wp2_with fail
    go_ret
    exact ⟨by rw [hv.out]; rfl, hb.out⟩
set_option maxRecDepth 100000 in
theorem clo25_any (bp : Nat) (a cu m ka : List UInt8) (W : World) (h0 : W.cell? ⟨bp, 0, none⟩ = some (.string ⟨ka.toArray⟩)) :
    Calls Tryz.prog 25 #[.agg #[.string ⟨a.toArray⟩, .string ⟨cu.toArray⟩, .string ⟨m.toArray⟩], .pointer (some ⟨bp, 0, none⟩)] W (BoolPost (decide (a ≠ ka) && undB a ka) W) := by
  have lb : bp < W.heap.size := block_lt_of_cell h0
  have hne : ¬ bp = W.heap.size := by omega
  have hb := Lib.hid (show Below W.heap.size W (W.alloc (.cells #[.string ⟨a.toArray⟩, .string ⟨cu.toArray⟩, .string ⟨m.toArray⟩] 33)) from (Below.refl _ W).alloc (Nat.le_refl _) _)
  generalize hr : (decide (a ≠ ka) && undB a ka) = r
  by_cases e1 : a = ka
  · subst e1
    have hv := Lib.hid (show r = false by rw [← hr]; simp)
    clear hr
    go_enter Tryz.func25, Tryz.ntmps25
    go_wp2_with fail
    go_ret
    exact ⟨by rw [hv.out]; rfl, hb.out⟩
  · have t1 : (a == ka) = false := beq_eq_false_iff_ne.2 e1
    have t2 : (a != ka) = true := by rw [bne, t1]; rfl
    have hv := Lib.hid (show r = undB a ka by rw [← hr, decide_eq_true e1, Bool.true_and])
    have hu := Lib.hid (fun W => Under_any a ka W)
    clear e1 hr
    generalize undB a ka = u at *
    go_enter Tryz.func25, Tryz.ntmps25
    go_wp2_with fail
    refine (hu.out _).mono ?_
    rintro e w1 ⟨rfl, rfl⟩
    go_wp2_with fail
    go_ret
    exact ⟨by rw [hv.out]; rfl, hb.out⟩
set_option maxRecDepth 100000 in
set_option maxHeartbeats 4000000 in
theorem idxE_any (A : Option Addr) (n c : Nat) (l : List Ln) (a cu m : List UInt8) (w : World) (hl : rowB.Rds w A n c l) (hn : n ≤ 100000) :
    Calls Tryz.prog 76 #[.slice A n c, .agg #[.string ⟨a.toArray⟩, .string ⟨cu.toArray⟩, .string ⟨m.toArray⟩]] w (IdxP (l.any fun x => decide (x = (a, cu, m))) w) := by
  have ll := Lib.hid hl.len
  have B0 := Lib.hid (show Below w.heap.size w (w.alloc (.cells #[.string ⟨a.toArray⟩, .string ⟨cu.toArray⟩, .string ⟨m.toArray⟩] 33)) from (Below.refl _ w).alloc (Nat.le_refl _) _)
  have X0 := Lib.hid (cells3 (heap_alloc_new w (.cells #[.string ⟨a.toArray⟩, .string ⟨cu.toArray⟩, .string ⟨m.toArray⟩] 33))).1
  have L1 := Lib.hid (hl.below B0.out)
  have HS := Lib.hid (anyB_snoc (fun x => decide (x = (a, cu, m))) l)
  have HH := Lib.hid (show ∀ k, k < l.length → l.getD k ln0 = (a, cu, m) → (l.any fun x => decide (x = (a, cu, m))) = true from fun k hk h => List.any_eq_true.2 ⟨_, lnAt_mem l k hk, decide_eq_true h⟩)
  have HP := Lib.hid (show ∀ i W, decide (0 ≤ i) = (l.any fun x => decide (x = (a, cu, m))) → Below w.heap.size w W → IdxP (l.any fun x => decide (x = (a, cu, m))) w (.returned (.int .i64 i)) W from fun i W h1 h2 => ⟨i, rfl, h1, h2⟩)
  clear hl
  generalize IdxP (l.any fun x => decide (x = (a, cu, m))) w = Post at *
  go_enter Tryz.func76, Tryz.ntmps76
  go_wp2_with fail
  generalize w.alloc (.cells #[.string ⟨a.toArray⟩, .string ⟨cu.toArray⟩, .string ⟨m.toArray⟩] 33) = w0 at *
  generalize w.heap.size = bx at *
  have R0 := Lib.hid (show ((l.take 0).any fun x => decide (x = (a, cu, m))) = false ∧ Below w0.heap.size w0 w0 from ⟨by simp, Below.refl _ _⟩)
  go_loopw [8, 5] (fun i _ wr => ∃ k : Nat, k ≤ n ∧ i = .int .i64 (k : Int) ∧ Hid (((l.take k).any fun x => decide (x = (a, cu, m))) = false ∧ Below w0.heap.size w0 wr)) (fun i _ _ => n - (intOf i).toNat)
  case atStart => exact ⟨0, by omega, rfl, R0⟩
  case round =>
    obtain ⟨k, hk, rfl, hR⟩ := hrel
    have HE := Lib.hid hR.out.1
    have HB := Lib.hid hR.out.2
    clear hR R0
    have lx := block_lt_of_cell X0.out.1
    have x0 := (HB.out.cell (p := ⟨bx, 0, none⟩) lx).trans X0.out.1
    have x1 := (HB.out.cell (p := ⟨bx, 1, none⟩) lx).trans X0.out.2.1
    have x2 := (HB.out.cell (p := ⟨bx, 2, none⟩) lx).trans X0.out.2.2
    have HBw := Lib.hid (show Below bx w wr from B0.out.trans (HB.out.mono (by have := B0.out.size; first | omega | exact Nat.le_of_lt lx)))
    by_cases hlt : k < n
    · have hkl : k < l.length := by rw [ll.out]; exact hlt
      have hs1 := Lib.hid (HS.out k hkl)
      have hh1 := Lib.hid (HH.out k hkl)
      obtain ⟨b1, o1, rfl, hb1, _⟩ := L1.out.at_ (by omega)
      have q0 := (L1.out.below HB.out).cell rowB_ok ln0 k 0 _ hlt rfl
      have q1 := (L1.out.below HB.out).cell rowB_ok ln0 k 1 _ hlt rfl
      have q2 := (L1.out.below HB.out).cell rowB_ok ln0 k 2 _ hlt rfl
      have hki : (k : Int) < (n : Int) := by omega
      have hk0 : (0 : Int) ≤ (k : Int) := by omega
      generalize l.getD k ln0 = x at *
      obtain ⟨a', cu', m'⟩ := x
      simp only [Nat.add_zero] at q0 q1 q2
      clear hkl
      by_cases hxy : (a', cu', m') = (a, cu, m)
      · have hv := Lib.hid (fun W hb => HP.out (k : Int) W (by rw [hh1.out hxy]; exact decide_eq_true hk0) hb)
        simp only [Prod.mk.injEq] at hxy
        obtain ⟨rfl, rfl, rfl⟩ := hxy
        clear hs1 hh1
        go_wp2_with fail
        go_quiet (fail)
        have hv2 := Lib.hid (hv.out _ (below_dr HBw.out nq))
        go_wp2_with fail
        exact hv2.out
      · have HE2 := Lib.hid (show ((l.take (k + 1)).any fun x => decide (x = (a, cu, m))) = false by rw [hs1.out, HE.out, decide_eq_false hxy]; rfl)
        clear hs1 hh1
        by_cases h0 : a' = a
        case neg =>
          have e0 : (a' == a) = false := beq_eq_false_iff_ne.2 h0
          have f0 : (a == a') = false := beq_eq_false_iff_ne.2 (Ne.symm h0)
          clear hxy h0
          go_wp2_with fail
          go_quiet (fail)
          have HB2 := Lib.hid (below_dr HB.out nq)
          go_wp2_with fail
          go_roundw
          case rel => exact ⟨k + 1, by omega, by go_num, Lib.hid ⟨HE2.out, HB2.out⟩⟩
          case measure => simp [intOf]; omega
        subst h0
        by_cases h1 : cu' = cu
        case neg =>
          have e0 : (cu' == cu) = false := beq_eq_false_iff_ne.2 h1
          have f0 : (cu == cu') = false := beq_eq_false_iff_ne.2 (Ne.symm h1)
          clear hxy h1
          go_wp2_with fail
          go_quiet (fail)
          have HB2 := Lib.hid (below_dr HB.out nq)
          go_wp2_with fail
          go_roundw
          case rel => exact ⟨k + 1, by omega, by go_num, Lib.hid ⟨HE2.out, HB2.out⟩⟩
          case measure => simp [intOf]; omega
        subst h1
        have e0 : (m' == m) = false := beq_eq_false_iff_ne.2 (fun e => hxy (by rw [e]))
        have f0 : (m == m') = false := beq_eq_false_iff_ne.2 (fun e => hxy (by rw [e]))
        clear hxy
        go_wp2_with fail
        go_quiet (fail)
        have HB2 := Lib.hid (below_dr HB.out nq)
        go_wp2_with fail
        go_roundw
        case rel => exact ⟨k + 1, by omega, by go_num, Lib.hid ⟨HE2.out, HB2.out⟩⟩
        case measure => simp [intOf]; omega
    · have hki : decide ((k : Int) < (n : Int)) = false := by rw [decide_eq_false_iff_not]; omega
      have hv := Lib.hid (HP.out (-1) wr (by
        have e := HE.out
        rw [List.take_of_length_le (by rw [ll.out]; omega)] at e
        rw [e]; rfl) HBw.out)
      go_wp2_with fail
      exact hv.out
set_option maxRecDepth 100000 in
theorem contE_any (A : Option Addr) (n c : Nat) (l : List Ln) (a cu m : List UInt8) (w : World) (hl : rowB.Rds w A n c l) (hn : n ≤ 100000) :
    Calls Tryz.prog 26 #[.slice A n c, .agg #[.string ⟨a.toArray⟩, .string ⟨cu.toArray⟩, .string ⟨m.toArray⟩]] w (BoolPost (l.any fun x => decide (x = (a, cu, m))) w) := by
  have B0 := Lib.hid (show Below w.heap.size w (w.alloc (.cells #[.string ⟨a.toArray⟩, .string ⟨cu.toArray⟩, .string ⟨m.toArray⟩] 33)) from (Below.refl _ w).alloc (Nat.le_refl _) _)
  have HI := Lib.hid (idxE_any A n c l a cu m _ (hl.below B0.out) hn)
  clear hl
  generalize (l.any fun x => decide (x = (a, cu, m))) = r at *
  go_enter Tryz.func26, Tryz.ntmps26
  go_wp2_with fail
  refine HI.out.mono ?_
  rintro e w1 ⟨i, rfl, hi, hb⟩
  have HI2 := Lib.hid hi
  have HB := Lib.hid (below_next B0.out hb ⟨rfl, rfl, rfl, rfl⟩)
  clear hi hb HI
  go_wp2_with fail
  go_ret
  exact ⟨by rw [HI2.out]; rfl, HB.out⟩
end Go.Proofs.YtohdpidlilhnjaaGreatDoor
