/- The contract of Expand: the way through the loop. -/
import Derived.Test.YtklmgogppljolaaDoorExpL
namespace Go.Proofs.YtklmgogppljolaaDoor
open Go.RowKit Go.Shelf
attribute [local go_sem] Oper.semAt_some
set_option linter.unusedVariables false

def anyE (t one two : List UInt8) : Bool := (segs t).any fun x => (rep one two x).isEmpty
/-- what Expand returns behind its tests -/
def xS (t one two : List UInt8) : List UInt8 := if anyE t one two then [] else exS t one two
def xE (t one two : List UInt8) : Int := if anyE t one two then 9 else 0
theorem anyE_false {t one two : List UInt8} {ys : List Seg} (e : ys.map (·.1) = segs t) (h : ∀ x ∈ ys, rep one two x.1 ≠ []) : anyE t one two = false := by
  rw [anyE, ← e, List.any_eq_false]
  intro x hx
  obtain ⟨y, hy, rfl⟩ := List.mem_map.1 hx
  simpa using h y hy
theorem anyE_true {t one two : List UInt8} {pre : List Seg} (e : pre.map (·.1) <+: segs t) (h : ∃ x ∈ pre, rep one two x.1 = []) : anyE t one two = true := by
  obtain ⟨x, hx, he⟩ := h
  rw [anyE, List.any_eq_true]
  exact ⟨x.1, e.subset (List.mem_map.2 ⟨x, hx, rfl⟩), by simp [he]⟩
theorem rep_len {one two x : List UInt8} {M : Nat} (h1 : one.length ≤ M) (h2 : two.length ≤ M) (h3 : x.length ≤ M) : (rep one two x).length ≤ M := by
  unfold rep; split
  · exact h1
  · split
    · exact h2
    · exact h3
/-- behind an append of one string: the box, and what lies below -/
theorem appended {W w1 : World} {B : Nat} {v v' : Value} {k m : Nat} {xs ys : List Value} {tmp : Obj} (hv : Boxed W B 28 v) (hrow : W.ownsRow (B + 2) 9 1 v k xs) (hW : B + 2 ≤ W.heap.size)
    (hown' : w1.ownsRow (B + 2) 9 1 v' m ys) (hgrow : (W.alloc tmp).grownBy w1 v.ownBlock) :
    Boxed w1 B 28 v ∧ Boxed (w1.setCell ⟨B, 0, none⟩ v') B 28 v' ∧ (w1.setCell ⟨B, 0, none⟩ v').ownsRow (B + 2) 9 1 v' m ys ∧ KeepsOthers W (w1.setCell ⟨B, 0, none⟩ v') ∧ (∀ j, j < B + 2 → j ≠ B → (w1.setCell ⟨B, 0, none⟩ v').heap[j]? = W.heap[j]?) ∧ Below B W (w1.setCell ⟨B, 0, none⟩ v') := by
  obtain ⟨h1, h2, h3, h4, -⟩ := (hv.appended (n₀ := B + 2 - 2) (by decide) (show W.ownsRow (B + 2 - 2) 9 1 v k xs from ⟨hrow.1, hrow.2.imp id fun ⟨g, c, u, a, b, r⟩ => ⟨g, c, u, a, by omega, r⟩⟩) (by omega) (by omega) (show w1.ownsRow (B + 2 - 2) 9 1 v' m ys from ⟨hown'.1, hown'.2.imp id fun ⟨g, c, u, a, b, r⟩ => ⟨g, c, u, a, by omega, r⟩⟩) hgrow)
  have hblk : ∀ j, j < B + 2 → some j ≠ v.ownBlock := fun j hj e => by
    rcases hrow.2 with ⟨rfl, _⟩ | ⟨g, cap, cur, rfl, hb, _⟩
    · cases e
    · have : j = g := by simpa [Value.ownBlock] using e
      omega
  have hk : ∀ j, j < B + 2 → j ≠ B → (w1.setCell ⟨B, 0, none⟩ v').heap[j]? = W.heap[j]? := fun j hj hne =>
    (Below.heap_setCell _ _ _ j hne).trans ((hgrow.block j (by simp; omega) (hblk j hj)).trans (Below.heap_alloc _ _ j (by omega)))
  refine ⟨h1, h2, hown'.kept (grownBy_setCell' w1 B v') (.inr (h1.not_row (by decide) hown').symm), h4, hk, ?_⟩
  exact (((Below.refl B W).alloc (by omega) tmp).grown hgrow (by simp; omega) (fun k e => by
    rcases hrow.2 with ⟨rfl, _⟩ | ⟨g, cap, cur, rfl, hb, _⟩
    · cases e
    · have : g = k := by simpa [Value.ownBlock] using e
      omega)).setCell (p := ⟨B, 0, none⟩) (by simp) v'
/-- the strings that a slice owns are cells -/
theorem own_cells {W : World} {B : Nat} {v : Value} {ys : List ByteArray} (h : W.ownsRow B 9 1 v ys.length (ys.map Value.string)) (hne : ys ≠ []) :
    ∃ g cap, v = .slice (some ⟨g, 0, none⟩) ys.length cap ∧ g < W.heap.size ∧ ys.length ≤ cap ∧ ∀ (j : Nat) x, ys[j]? = some x → W.cell? ⟨g, 0 + j, none⟩ = some (.string x) := by
  rcases h.2 with ⟨_, h0⟩ | ⟨g, cap, cur, rfl, hb, hg, hc, _, hs, ht⟩
  · exact absurd (List.length_eq_zero_iff.1 h0) hne
  · refine ⟨g, cap, rfl, (Array.getElem?_eq_some_iff.1 hg).1, hc, fun j x hx => ?_⟩
    rw [Nat.zero_add, cell_of_row _ _ _ _ _ _ hg]
    have hj : (ys.map Value.string)[j]? = some (.string x) := by rw [List.getElem?_map, hx]; rfl
    rw [← ht, List.getElem?_take] at hj
    split at hj
    · simpa using hj
    · cases hj
set_option maxRecDepth 100000 in
set_option maxHeartbeats 16000000 in
theorem expand_in (t one two : List UInt8) (w : World) (ht : t.length < 4294967281) (g1 : one = [] ∨ (¬ one = [] ∧ nameB one = true)) (g2 : two = [] ∨ (¬ two = [] ∧ nameB two = true)) (hm : ML w) (hc : codeT t = true) :
    CallsIn Fence.wide 4 Tryd.prog 7 #[.string ⟨t.toArray⟩, .string ⟨one.toArray⟩, .string ⟨two.toArray⟩] w (RetSE (xS t one two) (xE t one two) w) := by
  have hnl : ∀ l : List UInt8, nameB l = true → l.length ≤ 16 := fun l h => by
    unfold nameB at h
    simp only [Bool.and_eq_true, decide_eq_true_iff] at h
    exact h.1.2
  have l1 : one.length ≤ 16 := by
    rcases g1 with rfl | ⟨_, h⟩
    · simp
    · exact hnl _ h
  have l2 : two.length ≤ 16 := by
    rcases g2 with rfl | ⟨_, h⟩
    · simp
    · exact hnl _ h
  have hseg6 : (segs t).length ≤ 6 := by
    unfold codeT at hc
    simp only [Bool.and_eq_true, decide_eq_true_iff] at hc
    exact hc.1
  have hf := Lib.hid (formed5 ⟨t.toArray⟩ ⟨one.toArray⟩ ⟨two.toArray⟩ w ht hm)
  have x1 := fun w => name_any ⟨one.toArray⟩ w (by unfold maxLen; show one.length ≤ _; omega)
  have x2 := fun w => name_any ⟨two.toArray⟩ w (by unfold maxLen; show two.length ≤ _; omega)
  have X := Lib.hid (And.intro x1 x2)
  have hwp := hm.lt
  obtain ⟨i0, hi, hz0, hz1, hz2⟩ := info_parts info9
  have HI := Lib.hid (And.intro hi (And.intro hz0 (And.intro hz1 hz2)))
  have HM := Lib.hid hm
  have HC := Lib.hid (show codeT (⟨t.toArray⟩ : ByteArray).data.toList = true from hc)
  have HXS := Lib.hid (show xS t one two = if anyE t one two then [] else exS t one two from rfl)
  have HXE := Lib.hid (show xE t one two = if anyE t one two then 9 else 0 from rfl)
  have HL := Lib.hid (And.intro l1 l2)
  clear x1 x2 hi hz0 hz1 hz2 hm hc hnl l1 l2
  rcases g1 with rfl | ⟨q1, n1⟩
  · rcases g2 with rfl | ⟨q2, n2⟩
    · refine callsIn_of_wp_marks Tryd.func7 rfl trivial ?_ rfl
      simp only [Tryd.ntmps7, List.size_toArray, List.length_cons, List.length_nil, Nat.reduceAdd, Nat.reduceSub, Array.replicate_succ, Array.replicate_zero, List.push_toArray, List.append_toArray, List.nil_append, List.cons_append]
      gi_wp2
      refine ⟨trivial, ?_⟩
      refine (callsIn_wide.2 (names_any _ _ _)).mono ?_
      rintro e w1 ⟨rfl, rfl⟩
      gi_wp2
      refine ⟨trivial, ?_⟩
      refine (callsIn_wide.2 hf.out).mono ?_
      rintro e w2 ⟨rfl, h5, hz, -⟩
      rw [HC.out]
      have hz5 : w.heap.size + 4 < w2.heap.size := by omega
      clear hz
      gi_wp2
      refine ⟨trivial, ?_⟩
      gi_wp2
      refine ⟨trivial, ?_⟩
      gi_wp2
      refine ⟨trivial, ?_⟩
      refine (callsIn_wide.2 (segments_any _ _)).mono ?_
      rintro e w9 ⟨rfl, rfl⟩
      gi_wp2
      obtain ⟨B, hBe⟩ : ∃ B, B = w2.heap.size := ⟨_, rfl⟩
      have bO := Boxed.new w2 28 (.slice none 0 0)
      have bS := Boxed.new (w2.alloc (.cells #[.slice none 0 0] 28)) 9 (.string ⟨t.toArray⟩)
      rw [World.size_alloc] at bS
      have hBl0 : Below B w2 ((w2.alloc (.cells #[.slice none 0 0] 28)).alloc (.cells #[.string ⟨t.toArray⟩] 9)) := by rw [hBe]; exact ((Below.refl _ w2).alloc (Nat.le_refl _) _).alloc (by simp) _
      have hE0 := h5.later B (by omega) (by omega) hBl0
      have hsz : ((w2.alloc (.cells #[.slice none 0 0] 28)).alloc (.cells #[.string ⟨t.toArray⟩] 9)).heap.size = B + 2 := by simp [hBe]
      have bO' := bO.alloc (.cells #[.string ⟨t.toArray⟩] 9)
      rw [← hBe] at bO' bS ⊢
      generalize (w2.alloc (.cells #[.slice none 0 0] 28)).alloc (.cells #[.string ⟨t.toArray⟩] 9) = W0 at *
      have hB5 : w.heap.size + 4 < B := by omega
      have HZ := Lib.hid hsz
      have hml : ML W0 := HM.out.below hE0.bel
      have hWB : B + 2 ≤ W0.heap.size := by omega
      clear hBe hsz bO h5 hz5 hBl0
      refine range_box rfl (by omega) (gf := 29) (lb := #[.pointer (some ⟨B + 1, 0, none⟩)]) rfl trivial (enters_of Tryd.func29 (by kernel_rfl) rfl) (B + 1) (by omega)
        (seg_stops (4 - 1) (B + 1) t W0 bS ht hml (by omega) (by omega)) (fun _ => rfl)
        (LI B W0 ([] : List UInt8) ([] : List UInt8)) (LX w.heap.size w ([] : List UInt8) ([] : List UInt8)) (LI.own HZ.out ([] : List UInt8) ([] : List UInt8)) (fun s A A' row hs hg hr => hs.kept rfl hg (fun r e => by have := (hr r e).1; omega))
        (LI.box HZ.out ([] : List UInt8) ([] : List UInt8)) (fun s A A' hs hg => hs.kept rfl hg (fun r e => by cases e; omega))
        ⟨by simp, ⟨_, bO', World.ownsRow_nil _ _ _ _⟩, Below.refl _ _⟩ ?a11 ?assign ?body ?done ?stop
      case assign =>
        intro lp x W K hK
        gi_wp2
        exact hK
      case body =>
        rintro lp pre x W ⟨hne, ⟨v, hv, hrow⟩, hBl⟩ hlt
        have hE := hE0.later B hB5 (by omega) hBl
        have hsW : B + 2 ≤ W.heap.size := Nat.le_trans hWB hBl.size
        have c8 := hE.rp.cell
        have c9 := hv.cell
        have c6 := hE.r6.cell
        have c7 := hE.r7.cell
        have f6 := hE.r6.frozen
        have f7 := hE.r7.frozen
        have hrep : CallsIn (Fence.wide.inRound lp) (4 - 1 - 1 - 1) Tryd.prog 28 #[.string ⟨x.1.toArray⟩, .pointer (some ⟨w.heap.size + 1 + 1, 0, none⟩), .pointer (some ⟨w.heap.size + 1 + 1 + 1, 0, none⟩)] W fun e w' => e = .returned (.tuple #[.string ⟨(rep ([] : List UInt8) ([] : List UInt8) x.1).toArray⟩, .bool (sgn x.1)]) ∧ W = w' :=
          CallsIn.inRound lp (callsIn_wide.2 (names1_any x.1 ⟨([] : List UInt8).toArray⟩ ⟨([] : List UInt8).toArray⟩ _ _ W hE.n1.cell hE.n2.cell))
        obtain ⟨R, hR⟩ : ∃ R, R = rep ([] : List UInt8) ([] : List UInt8) x.1 := ⟨_, rfl⟩
        rw [← hR] at hrep
        have HREP := Lib.hid hrep
        have HR := Lib.hid hR
        have HNE := Lib.hid hne
        clear hrep hR hne
        by_cases hRe : R = []
        · subst hRe
          gi_wp2_with (refine ⟨trivial, ?_⟩; refine HREP.out.mono ?_; rintro e W1 ⟨rfl, rfl⟩)
          exact ⟨((KeepsOthers.setCell _ _ _).trans (KeepsOthers.setCell _ _ _)).from _, ⟨x, by simp, HR.out.symm⟩, (hE.r6.set _).other (by omega) _, (hE.r7.other (by omega) _).set _, (hE.put ⟨#[]⟩ 9).2.2⟩
        · have q9 : (R == []) = false := by simp [hRe]
          obtain ⟨hi, hz0, hz1, hz2⟩ := HI.out
          gi_wp2_with (first
            | (refine ⟨trivial, ?_⟩; refine HREP.out.mono ?_; rintro e W1 ⟨rfl, rfl⟩)
            | (gi_at_builtin; refine wpListIn_append_own _ rfl _ _ 28 rfl (B + 2) 9 i0 (.string ⟨#[]⟩) 1 16 Tryd.underlying28 hi hz0 hz1 hz2 rfl (by decide) _ _ _ rfl (hrow.alloc _) ⟨W.heap.size, 0, none⟩ 1 1 [.string ⟨R.toArray⟩] rfl rfl (cell_one_new _ _ _) (by simp [Value.oneCell']) (by unfold maxLen; omega) (by omega) (by simp; omega) ?_; intro v' w1 hown' hgrow _; obtain ⟨g', cap', rfl⟩ := ownsRow_succ hown'; obtain ⟨hv1, hv2, hr2, hk2, hj2, hb2⟩ := appended hv hrow hsW hown' hgrow; have hc1 := hv1.cell; have hf1 := hv1.frozen))
          refine ⟨hk2.from _, ⟨hj2 _ (by omega) (by omega), hj2 _ (by omega) (by omega)⟩, ?_, ⟨_, hv2, ?_⟩, hBl.trans hb2⟩
          · intro y hy
            rcases List.mem_append.1 hy with h | h
            · exact HNE.out y h
            · have : y = x := by simpa using h
              rw [this, ← HR.out]; exact hRe
          · rw [List.length_append, List.map_append, List.map_singleton, ← HR.out]
            exact hr2
      case done =>
        rintro D ys W hD hys ⟨hne, ⟨v, hv, hrow⟩, hBl⟩ hK
        have hE := hE0.later B hB5 (by omega) hBl
        have hsW : B + 2 ≤ W.heap.size := Nat.le_trans hWB hBl.size
        have c9 := hv.cell
        have hany := anyE_false hys hne
        have hlen : ys.length = (segs t).length := by rw [← hys, List.length_map]
        have hys' : (segs t).map (rep ([] : List UInt8) ([] : List UInt8)) = ys.map fun x => rep ([] : List UInt8) ([] : List UInt8) x.1 := by rw [← hys, List.map_map]; rfl
        obtain ⟨zs, hzs⟩ : ∃ zs : List ByteArray, zs = ys.map fun x => ⟨(rep ([] : List UInt8) ([] : List UInt8) x.1).toArray⟩ := ⟨_, rfl⟩
        have hzl : zs.length = ys.length := by rw [hzs, List.length_map]
        have hrow' : W.ownsRow (B + 2) 9 1 v zs.length (zs.map Value.string) := by
          rw [hzl, hzs, List.map_map]; exact hrow
        have hjoin : Lib.join (zs.map (·.data.toList)) [46] = exS t ([] : List UInt8) ([] : List UInt8) := by
          rw [exS, hys', hzs, List.map_map]; rfl
        have hzne : zs ≠ [] := fun e => by
          have := segs_ne t
          rw [e] at hzl
          exact this (List.length_eq_zero_iff.1 (by rw [← hlen, ← hzl]; rfl))
        obtain ⟨g, cap, rfl, hg, hcap, hcells⟩ := own_cells hrow' hzne
        have hJ := Tryd.strings_Join g 0 cap zs ⟨#[46]⟩ W hcells hg (by omega) hcap (by
          have h3 := join_len [46] 4294967296 (zs.map (·.data.toList)) (fun z hz => by
            rw [hzs, List.map_map] at hz
            obtain ⟨y, hy, rfl⟩ := List.mem_map.1 hz
            have hy2 : y.1.length ≤ t.length := seg_len_le t y.1 (by rw [← hys]; exact List.mem_map.2 ⟨y, hy, rfl⟩)
            obtain ⟨l1, l2⟩ := HL.out
            exact rep_len (M := 4294967296) (by omega) (by omega) (by omega))
          rw [List.length_map] at h3
          have h4 : zs.length * (4294967296 + [46].length) ≤ 6 * 4294967297 := Nat.mul_le_mul (by omega) (by simp)
          exact Nat.le_trans h3 (by omega))
        rw [show (⟨#[46]⟩ : ByteArray).data.toList = [46] from rfl, hjoin] at hJ
        have HJ := Lib.hid hJ
        have HANY := Lib.hid hany
        have f6 := hE.r6.frozen
        clear hJ hany hjoin hys' hcells hrow' hrow hzne hys hne bO' bS hzl hlen hzs
        generalize zs.length = nz at *
        gi_wp2
        refine ⟨trivial, ?_⟩
        refine (callsIn_wide.2 HJ.out).mono ?_
        rintro e W3 ⟨rfl, hb3⟩
        have hE3 := hE.later W.heap.size (by omega) (Nat.le_refl _) hb3
        have hK3 : W3.heap[D]? = some (.deferred (some [])) := (hb3.block D (Array.getElem?_eq_some_iff.1 hK).1).trans hK
        have d6 := hE3.r6.cell
        have d7 := hE3.r7.cell
        have e6 := hE3.r6.frozen
        have e7 := hE3.r7.frozen
        obtain ⟨p6, p7, pb⟩ := hE3.put ⟨(exS t ([] : List UInt8) ([] : List UInt8)).toArray⟩ 0
        have hKs := ((KeepsOthers.setCell W3 ⟨w.heap.size, 0, none⟩ (.string ⟨(exS t ([] : List UInt8) ([] : List UInt8)).toArray⟩)).trans (KeepsOthers.setCell _ ⟨w.heap.size + 1, 0, none⟩ (.int .i64 0))).same D _ hK3 rfl
        clear c9 f6
        gi_wp2
        refine ⟨by simp, .inl ⟨_, _, rfl, run_takeDeferred hKs, ?_⟩⟩
        have q6 := cell_kept p6 (grownBy_putObj' _ D (.deferred none)) (fun r e => by cases e; exact ⟨_, hKs, rfl⟩)
        have q7 := cell_kept p7 (grownBy_putObj' _ D (.deferred none)) (fun r e => by cases e; exact ⟨_, hKs, rfl⟩)
        refine ⟨.tuple #[.string ⟨(exS t ([] : List UInt8) ([] : List UInt8)).toArray⟩, .int .i64 0], ?_, ?_, pb.trans (belowK_b (w := w) (Nat.le_refl _) _ D _ _ (by omega) hKs rfl rfl)⟩
        · simp [results, Tryd.f7, go_sem, q6, q7]
        · rw [HXS.out, HXE.out, HANY.out]; rfl
      case stop =>
        rintro D pre W hD hpre ⟨hex, r6, r7, hbl⟩ hK
        have HANY := Lib.hid (anyE_true hpre hex)
        have d6 := r6.cell
        have d7 := r7.cell
        clear hpre hex bO' bS
        gi_wp2
        refine ⟨by simp, .inl ⟨_, _, rfl, run_takeDeferred hK, ?_⟩⟩
        have q6 := cell_kept d6 (grownBy_putObj' _ D (.deferred none)) (fun r e => by cases e; exact ⟨_, hK, rfl⟩)
        have q7 := cell_kept d7 (grownBy_putObj' _ D (.deferred none)) (fun r e => by cases e; exact ⟨_, hK, rfl⟩)
        refine ⟨.tuple #[.string ⟨#[]⟩, .int .i64 9], ?_, ?_, hbl.trans (belowK_b (w := w) (Nat.le_refl _) _ D _ _ (by omega) hK rfl rfl)⟩
        · simp [results, Tryd.f7, go_sem, q6, q7]
        · rw [HXS.out, HXE.out, HANY.out]; rfl
    · have r2 : (two == []) = false := by simp [q2]
      refine callsIn_of_wp_marks Tryd.func7 rfl trivial ?_ rfl
      simp only [Tryd.ntmps7, List.size_toArray, List.length_cons, List.length_nil, Nat.reduceAdd, Nat.reduceSub, Array.replicate_succ, Array.replicate_zero, List.push_toArray, List.append_toArray, List.nil_append, List.cons_append]
      gi_wp2
      refine ⟨trivial, ?_⟩
      refine (callsIn_wide.2 (names_any _ _ _)).mono ?_
      rintro e w1 ⟨rfl, rfl⟩
      gi_wp2
      refine ⟨trivial, ?_⟩
      refine (callsIn_wide.2 hf.out).mono ?_
      rintro e w2 ⟨rfl, h5, hz, -⟩
      rw [HC.out]
      have hz5 : w.heap.size + 4 < w2.heap.size := by omega
      clear hz
      gi_wp2
      refine ⟨trivial, ?_⟩
      gi_wp2
      refine ⟨trivial, ?_⟩
      refine (callsIn_wide.2 (X.out.2 _)).mono ?_
      rintro e v3 ⟨rfl, hb3⟩
      rw [show nameB (ByteArray.mk two.toArray).data.toList = nameB two from rfl, n2]
      replace h5 := h5.later _ hz5 (Nat.le_refl _) hb3
      replace hz5 := Nat.lt_of_lt_of_le hz5 hb3.size
      clear hb3
      gi_wp2
      refine ⟨trivial, ?_⟩
      refine (callsIn_wide.2 (segments_any _ _)).mono ?_
      rintro e w9 ⟨rfl, rfl⟩
      gi_wp2
      obtain ⟨B, hBe⟩ : ∃ B, B = v3.heap.size := ⟨_, rfl⟩
      have bO := Boxed.new v3 28 (.slice none 0 0)
      have bS := Boxed.new (v3.alloc (.cells #[.slice none 0 0] 28)) 9 (.string ⟨t.toArray⟩)
      rw [World.size_alloc] at bS
      have hBl0 : Below B v3 ((v3.alloc (.cells #[.slice none 0 0] 28)).alloc (.cells #[.string ⟨t.toArray⟩] 9)) := by rw [hBe]; exact ((Below.refl _ v3).alloc (Nat.le_refl _) _).alloc (by simp) _
      have hE0 := h5.later B (by omega) (by omega) hBl0
      have hsz : ((v3.alloc (.cells #[.slice none 0 0] 28)).alloc (.cells #[.string ⟨t.toArray⟩] 9)).heap.size = B + 2 := by simp [hBe]
      have bO' := bO.alloc (.cells #[.string ⟨t.toArray⟩] 9)
      rw [← hBe] at bO' bS ⊢
      generalize (v3.alloc (.cells #[.slice none 0 0] 28)).alloc (.cells #[.string ⟨t.toArray⟩] 9) = W0 at *
      have hB5 : w.heap.size + 4 < B := by omega
      have HZ := Lib.hid hsz
      have hml : ML W0 := HM.out.below hE0.bel
      have hWB : B + 2 ≤ W0.heap.size := by omega
      clear hBe hsz bO h5 hz5 hBl0
      refine range_box rfl (by omega) (gf := 29) (lb := #[.pointer (some ⟨B + 1, 0, none⟩)]) rfl trivial (enters_of Tryd.func29 (by kernel_rfl) rfl) (B + 1) (by omega)
        (seg_stops (4 - 1) (B + 1) t W0 bS ht hml (by omega) (by omega)) (fun _ => rfl)
        (LI B W0 ([] : List UInt8) two) (LX w.heap.size w ([] : List UInt8) two) (LI.own HZ.out ([] : List UInt8) two) (fun s A A' row hs hg hr => hs.kept rfl hg (fun r e => by have := (hr r e).1; omega))
        (LI.box HZ.out ([] : List UInt8) two) (fun s A A' hs hg => hs.kept rfl hg (fun r e => by cases e; omega))
        ⟨by simp, ⟨_, bO', World.ownsRow_nil _ _ _ _⟩, Below.refl _ _⟩ ?a10 ?assign ?body ?done ?stop
      case assign =>
        intro lp x W K hK
        gi_wp2
        exact hK
      case body =>
        rintro lp pre x W ⟨hne, ⟨v, hv, hrow⟩, hBl⟩ hlt
        have hE := hE0.later B hB5 (by omega) hBl
        have hsW : B + 2 ≤ W.heap.size := Nat.le_trans hWB hBl.size
        have c8 := hE.rp.cell
        have c9 := hv.cell
        have c6 := hE.r6.cell
        have c7 := hE.r7.cell
        have f6 := hE.r6.frozen
        have f7 := hE.r7.frozen
        have hrep : CallsIn (Fence.wide.inRound lp) (4 - 1 - 1 - 1) Tryd.prog 28 #[.string ⟨x.1.toArray⟩, .pointer (some ⟨w.heap.size + 1 + 1, 0, none⟩), .pointer (some ⟨w.heap.size + 1 + 1 + 1, 0, none⟩)] W fun e w' => e = .returned (.tuple #[.string ⟨(rep ([] : List UInt8) two x.1).toArray⟩, .bool (sgn x.1)]) ∧ W = w' :=
          CallsIn.inRound lp (callsIn_wide.2 (names1_any x.1 ⟨([] : List UInt8).toArray⟩ ⟨two.toArray⟩ _ _ W hE.n1.cell hE.n2.cell))
        obtain ⟨R, hR⟩ : ∃ R, R = rep ([] : List UInt8) two x.1 := ⟨_, rfl⟩
        rw [← hR] at hrep
        have HREP := Lib.hid hrep
        have HR := Lib.hid hR
        have HNE := Lib.hid hne
        clear hrep hR hne
        by_cases hRe : R = []
        · subst hRe
          gi_wp2_with (refine ⟨trivial, ?_⟩; refine HREP.out.mono ?_; rintro e W1 ⟨rfl, rfl⟩)
          exact ⟨((KeepsOthers.setCell _ _ _).trans (KeepsOthers.setCell _ _ _)).from _, ⟨x, by simp, HR.out.symm⟩, (hE.r6.set _).other (by omega) _, (hE.r7.other (by omega) _).set _, (hE.put ⟨#[]⟩ 9).2.2⟩
        · have q9 : (R == []) = false := by simp [hRe]
          obtain ⟨hi, hz0, hz1, hz2⟩ := HI.out
          gi_wp2_with (first
            | (refine ⟨trivial, ?_⟩; refine HREP.out.mono ?_; rintro e W1 ⟨rfl, rfl⟩)
            | (gi_at_builtin; refine wpListIn_append_own _ rfl _ _ 28 rfl (B + 2) 9 i0 (.string ⟨#[]⟩) 1 16 Tryd.underlying28 hi hz0 hz1 hz2 rfl (by decide) _ _ _ rfl (hrow.alloc _) ⟨W.heap.size, 0, none⟩ 1 1 [.string ⟨R.toArray⟩] rfl rfl (cell_one_new _ _ _) (by simp [Value.oneCell']) (by unfold maxLen; omega) (by omega) (by simp; omega) ?_; intro v' w1 hown' hgrow _; obtain ⟨g', cap', rfl⟩ := ownsRow_succ hown'; obtain ⟨hv1, hv2, hr2, hk2, hj2, hb2⟩ := appended hv hrow hsW hown' hgrow; have hc1 := hv1.cell; have hf1 := hv1.frozen))
          refine ⟨hk2.from _, ⟨hj2 _ (by omega) (by omega), hj2 _ (by omega) (by omega)⟩, ?_, ⟨_, hv2, ?_⟩, hBl.trans hb2⟩
          · intro y hy
            rcases List.mem_append.1 hy with h | h
            · exact HNE.out y h
            · have : y = x := by simpa using h
              rw [this, ← HR.out]; exact hRe
          · rw [List.length_append, List.map_append, List.map_singleton, ← HR.out]
            exact hr2
      case done =>
        rintro D ys W hD hys ⟨hne, ⟨v, hv, hrow⟩, hBl⟩ hK
        have hE := hE0.later B hB5 (by omega) hBl
        have hsW : B + 2 ≤ W.heap.size := Nat.le_trans hWB hBl.size
        have c9 := hv.cell
        have hany := anyE_false hys hne
        have hlen : ys.length = (segs t).length := by rw [← hys, List.length_map]
        have hys' : (segs t).map (rep ([] : List UInt8) two) = ys.map fun x => rep ([] : List UInt8) two x.1 := by rw [← hys, List.map_map]; rfl
        obtain ⟨zs, hzs⟩ : ∃ zs : List ByteArray, zs = ys.map fun x => ⟨(rep ([] : List UInt8) two x.1).toArray⟩ := ⟨_, rfl⟩
        have hzl : zs.length = ys.length := by rw [hzs, List.length_map]
        have hrow' : W.ownsRow (B + 2) 9 1 v zs.length (zs.map Value.string) := by
          rw [hzl, hzs, List.map_map]; exact hrow
        have hjoin : Lib.join (zs.map (·.data.toList)) [46] = exS t ([] : List UInt8) two := by
          rw [exS, hys', hzs, List.map_map]; rfl
        have hzne : zs ≠ [] := fun e => by
          have := segs_ne t
          rw [e] at hzl
          exact this (List.length_eq_zero_iff.1 (by rw [← hlen, ← hzl]; rfl))
        obtain ⟨g, cap, rfl, hg, hcap, hcells⟩ := own_cells hrow' hzne
        have hJ := Tryd.strings_Join g 0 cap zs ⟨#[46]⟩ W hcells hg (by omega) hcap (by
          have h3 := join_len [46] 4294967296 (zs.map (·.data.toList)) (fun z hz => by
            rw [hzs, List.map_map] at hz
            obtain ⟨y, hy, rfl⟩ := List.mem_map.1 hz
            have hy2 : y.1.length ≤ t.length := seg_len_le t y.1 (by rw [← hys]; exact List.mem_map.2 ⟨y, hy, rfl⟩)
            obtain ⟨l1, l2⟩ := HL.out
            exact rep_len (M := 4294967296) (by omega) (by omega) (by omega))
          rw [List.length_map] at h3
          have h4 : zs.length * (4294967296 + [46].length) ≤ 6 * 4294967297 := Nat.mul_le_mul (by omega) (by simp)
          exact Nat.le_trans h3 (by omega))
        rw [show (⟨#[46]⟩ : ByteArray).data.toList = [46] from rfl, hjoin] at hJ
        have HJ := Lib.hid hJ
        have HANY := Lib.hid hany
        have f6 := hE.r6.frozen
        clear hJ hany hjoin hys' hcells hrow' hrow hzne hys hne bO' bS hzl hlen hzs
        generalize zs.length = nz at *
        gi_wp2
        refine ⟨trivial, ?_⟩
        refine (callsIn_wide.2 HJ.out).mono ?_
        rintro e W3 ⟨rfl, hb3⟩
        have hE3 := hE.later W.heap.size (by omega) (Nat.le_refl _) hb3
        have hK3 : W3.heap[D]? = some (.deferred (some [])) := (hb3.block D (Array.getElem?_eq_some_iff.1 hK).1).trans hK
        have d6 := hE3.r6.cell
        have d7 := hE3.r7.cell
        have e6 := hE3.r6.frozen
        have e7 := hE3.r7.frozen
        obtain ⟨p6, p7, pb⟩ := hE3.put ⟨(exS t ([] : List UInt8) two).toArray⟩ 0
        have hKs := ((KeepsOthers.setCell W3 ⟨w.heap.size, 0, none⟩ (.string ⟨(exS t ([] : List UInt8) two).toArray⟩)).trans (KeepsOthers.setCell _ ⟨w.heap.size + 1, 0, none⟩ (.int .i64 0))).same D _ hK3 rfl
        clear c9 f6
        gi_wp2
        refine ⟨by simp, .inl ⟨_, _, rfl, run_takeDeferred hKs, ?_⟩⟩
        have q6 := cell_kept p6 (grownBy_putObj' _ D (.deferred none)) (fun r e => by cases e; exact ⟨_, hKs, rfl⟩)
        have q7 := cell_kept p7 (grownBy_putObj' _ D (.deferred none)) (fun r e => by cases e; exact ⟨_, hKs, rfl⟩)
        refine ⟨.tuple #[.string ⟨(exS t ([] : List UInt8) two).toArray⟩, .int .i64 0], ?_, ?_, pb.trans (belowK_b (w := w) (Nat.le_refl _) _ D _ _ (by omega) hKs rfl rfl)⟩
        · simp [results, Tryd.f7, go_sem, q6, q7]
        · rw [HXS.out, HXE.out, HANY.out]; rfl
      case stop =>
        rintro D pre W hD hpre ⟨hex, r6, r7, hbl⟩ hK
        have HANY := Lib.hid (anyE_true hpre hex)
        have d6 := r6.cell
        have d7 := r7.cell
        clear hpre hex bO' bS
        gi_wp2
        refine ⟨by simp, .inl ⟨_, _, rfl, run_takeDeferred hK, ?_⟩⟩
        have q6 := cell_kept d6 (grownBy_putObj' _ D (.deferred none)) (fun r e => by cases e; exact ⟨_, hK, rfl⟩)
        have q7 := cell_kept d7 (grownBy_putObj' _ D (.deferred none)) (fun r e => by cases e; exact ⟨_, hK, rfl⟩)
        refine ⟨.tuple #[.string ⟨#[]⟩, .int .i64 9], ?_, ?_, hbl.trans (belowK_b (w := w) (Nat.le_refl _) _ D _ _ (by omega) hK rfl rfl)⟩
        · simp [results, Tryd.f7, go_sem, q6, q7]
        · rw [HXS.out, HXE.out, HANY.out]; rfl
  · have r1 : (one == []) = false := by simp [q1]
    rcases g2 with rfl | ⟨q2, n2⟩
    · refine callsIn_of_wp_marks Tryd.func7 rfl trivial ?_ rfl
      simp only [Tryd.ntmps7, List.size_toArray, List.length_cons, List.length_nil, Nat.reduceAdd, Nat.reduceSub, Array.replicate_succ, Array.replicate_zero, List.push_toArray, List.append_toArray, List.nil_append, List.cons_append]
      gi_wp2
      refine ⟨trivial, ?_⟩
      refine (callsIn_wide.2 (names_any _ _ _)).mono ?_
      rintro e w1 ⟨rfl, rfl⟩
      gi_wp2
      refine ⟨trivial, ?_⟩
      refine (callsIn_wide.2 hf.out).mono ?_
      rintro e w2 ⟨rfl, h5, hz, -⟩
      rw [HC.out]
      have hz5 : w.heap.size + 4 < w2.heap.size := by omega
      clear hz
      gi_wp2
      refine ⟨trivial, ?_⟩
      refine (callsIn_wide.2 (X.out.1 _)).mono ?_
      rintro e v3 ⟨rfl, hb3⟩
      rw [show nameB (ByteArray.mk one.toArray).data.toList = nameB one from rfl, n1]
      replace h5 := h5.later _ hz5 (Nat.le_refl _) hb3
      replace hz5 := Nat.lt_of_lt_of_le hz5 hb3.size
      clear hb3
      gi_wp2
      refine ⟨trivial, ?_⟩
      gi_wp2
      refine ⟨trivial, ?_⟩
      refine (callsIn_wide.2 (segments_any _ _)).mono ?_
      rintro e w9 ⟨rfl, rfl⟩
      gi_wp2
      obtain ⟨B, hBe⟩ : ∃ B, B = v3.heap.size := ⟨_, rfl⟩
      have bO := Boxed.new v3 28 (.slice none 0 0)
      have bS := Boxed.new (v3.alloc (.cells #[.slice none 0 0] 28)) 9 (.string ⟨t.toArray⟩)
      rw [World.size_alloc] at bS
      have hBl0 : Below B v3 ((v3.alloc (.cells #[.slice none 0 0] 28)).alloc (.cells #[.string ⟨t.toArray⟩] 9)) := by rw [hBe]; exact ((Below.refl _ v3).alloc (Nat.le_refl _) _).alloc (by simp) _
      have hE0 := h5.later B (by omega) (by omega) hBl0
      have hsz : ((v3.alloc (.cells #[.slice none 0 0] 28)).alloc (.cells #[.string ⟨t.toArray⟩] 9)).heap.size = B + 2 := by simp [hBe]
      have bO' := bO.alloc (.cells #[.string ⟨t.toArray⟩] 9)
      rw [← hBe] at bO' bS ⊢
      generalize (v3.alloc (.cells #[.slice none 0 0] 28)).alloc (.cells #[.string ⟨t.toArray⟩] 9) = W0 at *
      have hB5 : w.heap.size + 4 < B := by omega
      have HZ := Lib.hid hsz
      have hml : ML W0 := HM.out.below hE0.bel
      have hWB : B + 2 ≤ W0.heap.size := by omega
      clear hBe hsz bO h5 hz5 hBl0
      refine range_box rfl (by omega) (gf := 29) (lb := #[.pointer (some ⟨B + 1, 0, none⟩)]) rfl trivial (enters_of Tryd.func29 (by kernel_rfl) rfl) (B + 1) (by omega)
        (seg_stops (4 - 1) (B + 1) t W0 bS ht hml (by omega) (by omega)) (fun _ => rfl)
        (LI B W0 one ([] : List UInt8)) (LX w.heap.size w one ([] : List UInt8)) (LI.own HZ.out one ([] : List UInt8)) (fun s A A' row hs hg hr => hs.kept rfl hg (fun r e => by have := (hr r e).1; omega))
        (LI.box HZ.out one ([] : List UInt8)) (fun s A A' hs hg => hs.kept rfl hg (fun r e => by cases e; omega))
        ⟨by simp, ⟨_, bO', World.ownsRow_nil _ _ _ _⟩, Below.refl _ _⟩ ?a01 ?assign ?body ?done ?stop
      case assign =>
        intro lp x W K hK
        gi_wp2
        exact hK
      case body =>
        rintro lp pre x W ⟨hne, ⟨v, hv, hrow⟩, hBl⟩ hlt
        have hE := hE0.later B hB5 (by omega) hBl
        have hsW : B + 2 ≤ W.heap.size := Nat.le_trans hWB hBl.size
        have c8 := hE.rp.cell
        have c9 := hv.cell
        have c6 := hE.r6.cell
        have c7 := hE.r7.cell
        have f6 := hE.r6.frozen
        have f7 := hE.r7.frozen
        have hrep : CallsIn (Fence.wide.inRound lp) (4 - 1 - 1 - 1) Tryd.prog 28 #[.string ⟨x.1.toArray⟩, .pointer (some ⟨w.heap.size + 1 + 1, 0, none⟩), .pointer (some ⟨w.heap.size + 1 + 1 + 1, 0, none⟩)] W fun e w' => e = .returned (.tuple #[.string ⟨(rep one ([] : List UInt8) x.1).toArray⟩, .bool (sgn x.1)]) ∧ W = w' :=
          CallsIn.inRound lp (callsIn_wide.2 (names1_any x.1 ⟨one.toArray⟩ ⟨([] : List UInt8).toArray⟩ _ _ W hE.n1.cell hE.n2.cell))
        obtain ⟨R, hR⟩ : ∃ R, R = rep one ([] : List UInt8) x.1 := ⟨_, rfl⟩
        rw [← hR] at hrep
        have HREP := Lib.hid hrep
        have HR := Lib.hid hR
        have HNE := Lib.hid hne
        clear hrep hR hne
        by_cases hRe : R = []
        · subst hRe
          gi_wp2_with (refine ⟨trivial, ?_⟩; refine HREP.out.mono ?_; rintro e W1 ⟨rfl, rfl⟩)
          exact ⟨((KeepsOthers.setCell _ _ _).trans (KeepsOthers.setCell _ _ _)).from _, ⟨x, by simp, HR.out.symm⟩, (hE.r6.set _).other (by omega) _, (hE.r7.other (by omega) _).set _, (hE.put ⟨#[]⟩ 9).2.2⟩
        · have q9 : (R == []) = false := by simp [hRe]
          obtain ⟨hi, hz0, hz1, hz2⟩ := HI.out
          gi_wp2_with (first
            | (refine ⟨trivial, ?_⟩; refine HREP.out.mono ?_; rintro e W1 ⟨rfl, rfl⟩)
            | (gi_at_builtin; refine wpListIn_append_own _ rfl _ _ 28 rfl (B + 2) 9 i0 (.string ⟨#[]⟩) 1 16 Tryd.underlying28 hi hz0 hz1 hz2 rfl (by decide) _ _ _ rfl (hrow.alloc _) ⟨W.heap.size, 0, none⟩ 1 1 [.string ⟨R.toArray⟩] rfl rfl (cell_one_new _ _ _) (by simp [Value.oneCell']) (by unfold maxLen; omega) (by omega) (by simp; omega) ?_; intro v' w1 hown' hgrow _; obtain ⟨g', cap', rfl⟩ := ownsRow_succ hown'; obtain ⟨hv1, hv2, hr2, hk2, hj2, hb2⟩ := appended hv hrow hsW hown' hgrow; have hc1 := hv1.cell; have hf1 := hv1.frozen))
          refine ⟨hk2.from _, ⟨hj2 _ (by omega) (by omega), hj2 _ (by omega) (by omega)⟩, ?_, ⟨_, hv2, ?_⟩, hBl.trans hb2⟩
          · intro y hy
            rcases List.mem_append.1 hy with h | h
            · exact HNE.out y h
            · have : y = x := by simpa using h
              rw [this, ← HR.out]; exact hRe
          · rw [List.length_append, List.map_append, List.map_singleton, ← HR.out]
            exact hr2
      case done =>
        rintro D ys W hD hys ⟨hne, ⟨v, hv, hrow⟩, hBl⟩ hK
        have hE := hE0.later B hB5 (by omega) hBl
        have hsW : B + 2 ≤ W.heap.size := Nat.le_trans hWB hBl.size
        have c9 := hv.cell
        have hany := anyE_false hys hne
        have hlen : ys.length = (segs t).length := by rw [← hys, List.length_map]
        have hys' : (segs t).map (rep one ([] : List UInt8)) = ys.map fun x => rep one ([] : List UInt8) x.1 := by rw [← hys, List.map_map]; rfl
        obtain ⟨zs, hzs⟩ : ∃ zs : List ByteArray, zs = ys.map fun x => ⟨(rep one ([] : List UInt8) x.1).toArray⟩ := ⟨_, rfl⟩
        have hzl : zs.length = ys.length := by rw [hzs, List.length_map]
        have hrow' : W.ownsRow (B + 2) 9 1 v zs.length (zs.map Value.string) := by
          rw [hzl, hzs, List.map_map]; exact hrow
        have hjoin : Lib.join (zs.map (·.data.toList)) [46] = exS t one ([] : List UInt8) := by
          rw [exS, hys', hzs, List.map_map]; rfl
        have hzne : zs ≠ [] := fun e => by
          have := segs_ne t
          rw [e] at hzl
          exact this (List.length_eq_zero_iff.1 (by rw [← hlen, ← hzl]; rfl))
        obtain ⟨g, cap, rfl, hg, hcap, hcells⟩ := own_cells hrow' hzne
        have hJ := Tryd.strings_Join g 0 cap zs ⟨#[46]⟩ W hcells hg (by omega) hcap (by
          have h3 := join_len [46] 4294967296 (zs.map (·.data.toList)) (fun z hz => by
            rw [hzs, List.map_map] at hz
            obtain ⟨y, hy, rfl⟩ := List.mem_map.1 hz
            have hy2 : y.1.length ≤ t.length := seg_len_le t y.1 (by rw [← hys]; exact List.mem_map.2 ⟨y, hy, rfl⟩)
            obtain ⟨l1, l2⟩ := HL.out
            exact rep_len (M := 4294967296) (by omega) (by omega) (by omega))
          rw [List.length_map] at h3
          have h4 : zs.length * (4294967296 + [46].length) ≤ 6 * 4294967297 := Nat.mul_le_mul (by omega) (by simp)
          exact Nat.le_trans h3 (by omega))
        rw [show (⟨#[46]⟩ : ByteArray).data.toList = [46] from rfl, hjoin] at hJ
        have HJ := Lib.hid hJ
        have HANY := Lib.hid hany
        have f6 := hE.r6.frozen
        clear hJ hany hjoin hys' hcells hrow' hrow hzne hys hne bO' bS hzl hlen hzs
        generalize zs.length = nz at *
        gi_wp2
        refine ⟨trivial, ?_⟩
        refine (callsIn_wide.2 HJ.out).mono ?_
        rintro e W3 ⟨rfl, hb3⟩
        have hE3 := hE.later W.heap.size (by omega) (Nat.le_refl _) hb3
        have hK3 : W3.heap[D]? = some (.deferred (some [])) := (hb3.block D (Array.getElem?_eq_some_iff.1 hK).1).trans hK
        have d6 := hE3.r6.cell
        have d7 := hE3.r7.cell
        have e6 := hE3.r6.frozen
        have e7 := hE3.r7.frozen
        obtain ⟨p6, p7, pb⟩ := hE3.put ⟨(exS t one ([] : List UInt8)).toArray⟩ 0
        have hKs := ((KeepsOthers.setCell W3 ⟨w.heap.size, 0, none⟩ (.string ⟨(exS t one ([] : List UInt8)).toArray⟩)).trans (KeepsOthers.setCell _ ⟨w.heap.size + 1, 0, none⟩ (.int .i64 0))).same D _ hK3 rfl
        clear c9 f6
        gi_wp2
        refine ⟨by simp, .inl ⟨_, _, rfl, run_takeDeferred hKs, ?_⟩⟩
        have q6 := cell_kept p6 (grownBy_putObj' _ D (.deferred none)) (fun r e => by cases e; exact ⟨_, hKs, rfl⟩)
        have q7 := cell_kept p7 (grownBy_putObj' _ D (.deferred none)) (fun r e => by cases e; exact ⟨_, hKs, rfl⟩)
        refine ⟨.tuple #[.string ⟨(exS t one ([] : List UInt8)).toArray⟩, .int .i64 0], ?_, ?_, pb.trans (belowK_b (w := w) (Nat.le_refl _) _ D _ _ (by omega) hKs rfl rfl)⟩
        · simp [results, Tryd.f7, go_sem, q6, q7]
        · rw [HXS.out, HXE.out, HANY.out]; rfl
      case stop =>
        rintro D pre W hD hpre ⟨hex, r6, r7, hbl⟩ hK
        have HANY := Lib.hid (anyE_true hpre hex)
        have d6 := r6.cell
        have d7 := r7.cell
        clear hpre hex bO' bS
        gi_wp2
        refine ⟨by simp, .inl ⟨_, _, rfl, run_takeDeferred hK, ?_⟩⟩
        have q6 := cell_kept d6 (grownBy_putObj' _ D (.deferred none)) (fun r e => by cases e; exact ⟨_, hK, rfl⟩)
        have q7 := cell_kept d7 (grownBy_putObj' _ D (.deferred none)) (fun r e => by cases e; exact ⟨_, hK, rfl⟩)
        refine ⟨.tuple #[.string ⟨#[]⟩, .int .i64 9], ?_, ?_, hbl.trans (belowK_b (w := w) (Nat.le_refl _) _ D _ _ (by omega) hK rfl rfl)⟩
        · simp [results, Tryd.f7, go_sem, q6, q7]
        · rw [HXS.out, HXE.out, HANY.out]; rfl
    · have r2 : (two == []) = false := by simp [q2]
      refine callsIn_of_wp_marks Tryd.func7 rfl trivial ?_ rfl
      simp only [Tryd.ntmps7, List.size_toArray, List.length_cons, List.length_nil, Nat.reduceAdd, Nat.reduceSub, Array.replicate_succ, Array.replicate_zero, List.push_toArray, List.append_toArray, List.nil_append, List.cons_append]
      gi_wp2
      refine ⟨trivial, ?_⟩
      refine (callsIn_wide.2 (names_any _ _ _)).mono ?_
      rintro e w1 ⟨rfl, rfl⟩
      gi_wp2
      refine ⟨trivial, ?_⟩
      refine (callsIn_wide.2 hf.out).mono ?_
      rintro e w2 ⟨rfl, h5, hz, -⟩
      rw [HC.out]
      have hz5 : w.heap.size + 4 < w2.heap.size := by omega
      clear hz
      gi_wp2
      refine ⟨trivial, ?_⟩
      refine (callsIn_wide.2 (X.out.1 _)).mono ?_
      rintro e v3 ⟨rfl, hb3⟩
      rw [show nameB (ByteArray.mk one.toArray).data.toList = nameB one from rfl, n1]
      replace h5 := h5.later _ hz5 (Nat.le_refl _) hb3
      replace hz5 := Nat.lt_of_lt_of_le hz5 hb3.size
      clear hb3
      gi_wp2
      refine ⟨trivial, ?_⟩
      refine (callsIn_wide.2 (X.out.2 _)).mono ?_
      rintro e v4 ⟨rfl, hb3⟩
      rw [show nameB (ByteArray.mk two.toArray).data.toList = nameB two from rfl, n2]
      replace h5 := h5.later _ hz5 (Nat.le_refl _) hb3
      replace hz5 := Nat.lt_of_lt_of_le hz5 hb3.size
      clear hb3
      gi_wp2
      refine ⟨trivial, ?_⟩
      refine (callsIn_wide.2 (segments_any _ _)).mono ?_
      rintro e w9 ⟨rfl, rfl⟩
      gi_wp2
      obtain ⟨B, hBe⟩ : ∃ B, B = v4.heap.size := ⟨_, rfl⟩
      have bO := Boxed.new v4 28 (.slice none 0 0)
      have bS := Boxed.new (v4.alloc (.cells #[.slice none 0 0] 28)) 9 (.string ⟨t.toArray⟩)
      rw [World.size_alloc] at bS
      have hBl0 : Below B v4 ((v4.alloc (.cells #[.slice none 0 0] 28)).alloc (.cells #[.string ⟨t.toArray⟩] 9)) := by rw [hBe]; exact ((Below.refl _ v4).alloc (Nat.le_refl _) _).alloc (by simp) _
      have hE0 := h5.later B (by omega) (by omega) hBl0
      have hsz : ((v4.alloc (.cells #[.slice none 0 0] 28)).alloc (.cells #[.string ⟨t.toArray⟩] 9)).heap.size = B + 2 := by simp [hBe]
      have bO' := bO.alloc (.cells #[.string ⟨t.toArray⟩] 9)
      rw [← hBe] at bO' bS ⊢
      generalize (v4.alloc (.cells #[.slice none 0 0] 28)).alloc (.cells #[.string ⟨t.toArray⟩] 9) = W0 at *
      have hB5 : w.heap.size + 4 < B := by omega
      have HZ := Lib.hid hsz
      have hml : ML W0 := HM.out.below hE0.bel
      have hWB : B + 2 ≤ W0.heap.size := by omega
      clear hBe hsz bO h5 hz5 hBl0
      refine range_box rfl (by omega) (gf := 29) (lb := #[.pointer (some ⟨B + 1, 0, none⟩)]) rfl trivial (enters_of Tryd.func29 (by kernel_rfl) rfl) (B + 1) (by omega)
        (seg_stops (4 - 1) (B + 1) t W0 bS ht hml (by omega) (by omega)) (fun _ => rfl)
        (LI B W0 one two) (LX w.heap.size w one two) (LI.own HZ.out one two) (fun s A A' row hs hg hr => hs.kept rfl hg (fun r e => by have := (hr r e).1; omega))
        (LI.box HZ.out one two) (fun s A A' hs hg => hs.kept rfl hg (fun r e => by cases e; omega))
        ⟨by simp, ⟨_, bO', World.ownsRow_nil _ _ _ _⟩, Below.refl _ _⟩ ?a00 ?assign ?body ?done ?stop
      case assign =>
        intro lp x W K hK
        gi_wp2
        exact hK
      case body =>
        rintro lp pre x W ⟨hne, ⟨v, hv, hrow⟩, hBl⟩ hlt
        have hE := hE0.later B hB5 (by omega) hBl
        have hsW : B + 2 ≤ W.heap.size := Nat.le_trans hWB hBl.size
        have c8 := hE.rp.cell
        have c9 := hv.cell
        have c6 := hE.r6.cell
        have c7 := hE.r7.cell
        have f6 := hE.r6.frozen
        have f7 := hE.r7.frozen
        have hrep : CallsIn (Fence.wide.inRound lp) (4 - 1 - 1 - 1) Tryd.prog 28 #[.string ⟨x.1.toArray⟩, .pointer (some ⟨w.heap.size + 1 + 1, 0, none⟩), .pointer (some ⟨w.heap.size + 1 + 1 + 1, 0, none⟩)] W fun e w' => e = .returned (.tuple #[.string ⟨(rep one two x.1).toArray⟩, .bool (sgn x.1)]) ∧ W = w' :=
          CallsIn.inRound lp (callsIn_wide.2 (names1_any x.1 ⟨one.toArray⟩ ⟨two.toArray⟩ _ _ W hE.n1.cell hE.n2.cell))
        obtain ⟨R, hR⟩ : ∃ R, R = rep one two x.1 := ⟨_, rfl⟩
        rw [← hR] at hrep
        have HREP := Lib.hid hrep
        have HR := Lib.hid hR
        have HNE := Lib.hid hne
        clear hrep hR hne
        by_cases hRe : R = []
        · subst hRe
          gi_wp2_with (refine ⟨trivial, ?_⟩; refine HREP.out.mono ?_; rintro e W1 ⟨rfl, rfl⟩)
          exact ⟨((KeepsOthers.setCell _ _ _).trans (KeepsOthers.setCell _ _ _)).from _, ⟨x, by simp, HR.out.symm⟩, (hE.r6.set _).other (by omega) _, (hE.r7.other (by omega) _).set _, (hE.put ⟨#[]⟩ 9).2.2⟩
        · have q9 : (R == []) = false := by simp [hRe]
          obtain ⟨hi, hz0, hz1, hz2⟩ := HI.out
          gi_wp2_with (first
            | (refine ⟨trivial, ?_⟩; refine HREP.out.mono ?_; rintro e W1 ⟨rfl, rfl⟩)
            | (gi_at_builtin; refine wpListIn_append_own _ rfl _ _ 28 rfl (B + 2) 9 i0 (.string ⟨#[]⟩) 1 16 Tryd.underlying28 hi hz0 hz1 hz2 rfl (by decide) _ _ _ rfl (hrow.alloc _) ⟨W.heap.size, 0, none⟩ 1 1 [.string ⟨R.toArray⟩] rfl rfl (cell_one_new _ _ _) (by simp [Value.oneCell']) (by unfold maxLen; omega) (by omega) (by simp; omega) ?_; intro v' w1 hown' hgrow _; obtain ⟨g', cap', rfl⟩ := ownsRow_succ hown'; obtain ⟨hv1, hv2, hr2, hk2, hj2, hb2⟩ := appended hv hrow hsW hown' hgrow; have hc1 := hv1.cell; have hf1 := hv1.frozen))
          refine ⟨hk2.from _, ⟨hj2 _ (by omega) (by omega), hj2 _ (by omega) (by omega)⟩, ?_, ⟨_, hv2, ?_⟩, hBl.trans hb2⟩
          · intro y hy
            rcases List.mem_append.1 hy with h | h
            · exact HNE.out y h
            · have : y = x := by simpa using h
              rw [this, ← HR.out]; exact hRe
          · rw [List.length_append, List.map_append, List.map_singleton, ← HR.out]
            exact hr2
      case done =>
        rintro D ys W hD hys ⟨hne, ⟨v, hv, hrow⟩, hBl⟩ hK
        have hE := hE0.later B hB5 (by omega) hBl
        have hsW : B + 2 ≤ W.heap.size := Nat.le_trans hWB hBl.size
        have c9 := hv.cell
        have hany := anyE_false hys hne
        have hlen : ys.length = (segs t).length := by rw [← hys, List.length_map]
        have hys' : (segs t).map (rep one two) = ys.map fun x => rep one two x.1 := by rw [← hys, List.map_map]; rfl
        obtain ⟨zs, hzs⟩ : ∃ zs : List ByteArray, zs = ys.map fun x => ⟨(rep one two x.1).toArray⟩ := ⟨_, rfl⟩
        have hzl : zs.length = ys.length := by rw [hzs, List.length_map]
        have hrow' : W.ownsRow (B + 2) 9 1 v zs.length (zs.map Value.string) := by
          rw [hzl, hzs, List.map_map]; exact hrow
        have hjoin : Lib.join (zs.map (·.data.toList)) [46] = exS t one two := by
          rw [exS, hys', hzs, List.map_map]; rfl
        have hzne : zs ≠ [] := fun e => by
          have := segs_ne t
          rw [e] at hzl
          exact this (List.length_eq_zero_iff.1 (by rw [← hlen, ← hzl]; rfl))
        obtain ⟨g, cap, rfl, hg, hcap, hcells⟩ := own_cells hrow' hzne
        have hJ := Tryd.strings_Join g 0 cap zs ⟨#[46]⟩ W hcells hg (by omega) hcap (by
          have h3 := join_len [46] 4294967296 (zs.map (·.data.toList)) (fun z hz => by
            rw [hzs, List.map_map] at hz
            obtain ⟨y, hy, rfl⟩ := List.mem_map.1 hz
            have hy2 : y.1.length ≤ t.length := seg_len_le t y.1 (by rw [← hys]; exact List.mem_map.2 ⟨y, hy, rfl⟩)
            obtain ⟨l1, l2⟩ := HL.out
            exact rep_len (M := 4294967296) (by omega) (by omega) (by omega))
          rw [List.length_map] at h3
          have h4 : zs.length * (4294967296 + [46].length) ≤ 6 * 4294967297 := Nat.mul_le_mul (by omega) (by simp)
          exact Nat.le_trans h3 (by omega))
        rw [show (⟨#[46]⟩ : ByteArray).data.toList = [46] from rfl, hjoin] at hJ
        have HJ := Lib.hid hJ
        have HANY := Lib.hid hany
        have f6 := hE.r6.frozen
        clear hJ hany hjoin hys' hcells hrow' hrow hzne hys hne bO' bS hzl hlen hzs
        generalize zs.length = nz at *
        gi_wp2
        refine ⟨trivial, ?_⟩
        refine (callsIn_wide.2 HJ.out).mono ?_
        rintro e W3 ⟨rfl, hb3⟩
        have hE3 := hE.later W.heap.size (by omega) (Nat.le_refl _) hb3
        have hK3 : W3.heap[D]? = some (.deferred (some [])) := (hb3.block D (Array.getElem?_eq_some_iff.1 hK).1).trans hK
        have d6 := hE3.r6.cell
        have d7 := hE3.r7.cell
        have e6 := hE3.r6.frozen
        have e7 := hE3.r7.frozen
        obtain ⟨p6, p7, pb⟩ := hE3.put ⟨(exS t one two).toArray⟩ 0
        have hKs := ((KeepsOthers.setCell W3 ⟨w.heap.size, 0, none⟩ (.string ⟨(exS t one two).toArray⟩)).trans (KeepsOthers.setCell _ ⟨w.heap.size + 1, 0, none⟩ (.int .i64 0))).same D _ hK3 rfl
        clear c9 f6
        gi_wp2
        refine ⟨by simp, .inl ⟨_, _, rfl, run_takeDeferred hKs, ?_⟩⟩
        have q6 := cell_kept p6 (grownBy_putObj' _ D (.deferred none)) (fun r e => by cases e; exact ⟨_, hKs, rfl⟩)
        have q7 := cell_kept p7 (grownBy_putObj' _ D (.deferred none)) (fun r e => by cases e; exact ⟨_, hKs, rfl⟩)
        refine ⟨.tuple #[.string ⟨(exS t one two).toArray⟩, .int .i64 0], ?_, ?_, pb.trans (belowK_b (w := w) (Nat.le_refl _) _ D _ _ (by omega) hKs rfl rfl)⟩
        · simp [results, Tryd.f7, go_sem, q6, q7]
        · rw [HXS.out, HXE.out, HANY.out]; rfl
      case stop =>
        rintro D pre W hD hpre ⟨hex, r6, r7, hbl⟩ hK
        have HANY := Lib.hid (anyE_true hpre hex)
        have d6 := r6.cell
        have d7 := r7.cell
        clear hpre hex bO' bS
        gi_wp2
        refine ⟨by simp, .inl ⟨_, _, rfl, run_takeDeferred hK, ?_⟩⟩
        have q6 := cell_kept d6 (grownBy_putObj' _ D (.deferred none)) (fun r e => by cases e; exact ⟨_, hK, rfl⟩)
        have q7 := cell_kept d7 (grownBy_putObj' _ D (.deferred none)) (fun r e => by cases e; exact ⟨_, hK, rfl⟩)
        refine ⟨.tuple #[.string ⟨#[]⟩, .int .i64 9], ?_, ?_, hbl.trans (belowK_b (w := w) (Nat.le_refl _) _ D _ _ (by omega) hK rfl rfl)⟩
        · simp [results, Tryd.f7, go_sem, q6, q7]
        · rw [HXS.out, HXE.out, HANY.out]; rfl
end Go.Proofs.YtklmgogppljolaaDoor
