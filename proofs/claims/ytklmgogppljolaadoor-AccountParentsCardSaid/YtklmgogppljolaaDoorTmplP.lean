/- Templates and segments, plain. -/
import Derived.Test.YtklmgogppljolaaDoorPar
import Derived.Lib.SplitLaws
namespace Go.Proofs.YtklmgogppljolaaDoor
open Go.RowKit

theorem ba_of (s : ByteArray) : (⟨s.data.toList.toArray⟩ : ByteArray) = s := by cases s; rfl
theorem split_segs (m : Nat) : ∀ s : List UInt8, s.length ≤ m → (Lib.splitB ⟨#[46]⟩ 0 (Lib.countB ⟨s.toArray⟩ ⟨#[46]⟩) ⟨s.toArray⟩) = (segs s).map (fun x => ⟨x.toArray⟩) ∧ Lib.countB ⟨s.toArray⟩ ⟨#[46]⟩ + 1 = (segs s).length := by
  induction m with
  | zero =>
    intro s hs
    have e : s = [] := List.eq_nil_of_length_eq_zero (by omega)
    subst e
    have hi : Lib.indexB ⟨([] : List UInt8).toArray⟩ ⟨#[46]⟩ = -1 := by decide
    rw [Lib.countB_miss _ _ hi, Lib.splitB_miss _ _ _ _ hi]
    exact ⟨rfl, rfl⟩
  | succ m ih =>
    intro s hs
    rcases index_dot s with ⟨h1, h2⟩ | ⟨a, b, rfl, ha, h2⟩
    · have hi : Lib.indexB ⟨s.toArray⟩ ⟨#[46]⟩ = -1 := h2
      rw [Lib.countB_miss _ _ hi, Lib.splitB_miss _ _ _ _ hi, segs_none h1]
      exact ⟨rfl, rfl⟩
    · have hi : Lib.indexB ⟨(a ++ 46 :: b).toArray⟩ ⟨#[46]⟩ = (a.length : Int) := h2
      have e2 : (⟨(a ++ 46 :: b).toArray⟩ : ByteArray).extract (a.length + (⟨#[46]⟩ : ByteArray).size) (⟨(a ++ 46 :: b).toArray⟩ : ByteArray).size = ⟨b.toArray⟩ := by
        apply ByteArray.ext
        rw [ByteArray.data_extract]
        apply Array.toList_inj.1
        simp [ByteArray.size, Array.toList_extract, List.extract_eq_take_drop]
        exact List.take_of_length_le (by omega)
      have hc := Lib.countB_hit ⟨(a ++ 46 :: b).toArray⟩ ⟨#[46]⟩ a.length (by decide) hi
      rw [e2] at hc
      obtain ⟨i1, i2⟩ := ih b (by simp at hs; omega)
      rw [hc, Nat.add_comm 1, Lib.splitB_hit _ _ _ _ a.length hi, e2, i1, segs_split ha, Nat.add_zero, take_ext]
      exact ⟨rfl, by rw [List.length_cons, ← i2]⟩
theorem nameC_dot : nameC 46 = false := by decide
theorem name_no {x : List UInt8} (h : nameB x = true) : 46 ∉ x ∧ x ≠ [42] ∧ x ≠ [43] ∧ x ≠ [] ∧ x.length ≤ 16 := by
  simp only [nameB, Bool.and_eq_true, decide_eq_true_eq, List.all_eq_true] at h
  refine ⟨fun hh => ?_, fun e => ?_, fun e => ?_, fun e => ?_, h.1.2⟩
  · have := h.2 46 hh; rw [nameC_dot] at this; cases this
  · subst e; have := h.2 42 (by simp); revert this; decide
  · subst e; have := h.2 43 (by simp); revert this; decide
  · subst e; simp at h
theorem segs_join : ∀ (xs : List (List UInt8)), xs ≠ [] → (∀ x ∈ xs, 46 ∉ x) → segs (Lib.join xs [46]) = xs
  | [], h, _ => absurd rfl h
  | [x], _, h => by rw [Lib.join_one, segs_none (h x (by simp))]
  | x :: y :: r, _, h => by
    have ih := segs_join (y :: r) (by simp) (fun z hz => h z (List.mem_cons_of_mem _ hz))
    have e : Lib.join (x :: y :: r) [46] = x ++ 46 :: Lib.join (y :: r) [46] := by simp [Lib.join, List.intercalate]
    rw [e, segs_split (h x (by simp)), ih]
structure TInfo (t one two : List UInt8) : Prop where
  code : codeB t = true → exE t one two = 0 ∧ exR t one two = t ∧ exE t [] [] = 0 ∧ exR t [] [] = t
  no : codeB t = false → exE t one two ≠ 0 → exE t one two = 3 ∧ exR t one two = []
  yes : exE t one two = 0 → segs (exR t one two) = (segs t).map (rep one two) ∧ codeB (exR t one two) = true ∧ (exR t one two).length ≤ 1000 ∧ (segs t).length ≤ 6 ∧
    (exE t [] two = 9 ↔ [42] ∈ segs t) ∧ (exE t one [] = 9 ↔ [43] ∈ segs t)
theorem tc_of_code {t : List UInt8} (h : codeB t = true) : codeT t = true := by
  simp only [codeB, codeT, Bool.and_eq_true, decide_eq_true_eq, List.all_eq_true] at h ⊢
  refine ⟨h.1, fun x hx => ?_⟩
  simp only [tc, Bool.or_eq_true]
  exact .inr (h.2 x hx)
theorem rep_name {one two x : List UInt8} (h : nameB x = true) : rep one two x = x := by
  obtain ⟨_, h1, h2, _⟩ := name_no h
  rw [rep, if_neg h1, if_neg h2]
theorem code_names {t : List UInt8} (h : codeB t = true) : ∀ x ∈ segs t, nameB x = true := by
  simp only [codeB, Bool.and_eq_true, decide_eq_true_eq, List.all_eq_true] at h
  exact h.2
theorem ex_code {t : List UInt8} (h : codeB t = true) (one two : List UInt8) (hb : (badN one || badN two) = false) : exE t one two = 0 ∧ exR t one two = t := by
  have hm : (segs t).map (rep one two) = segs t := by
    conv => rhs; rw [← List.map_id (segs t)]
    exact List.map_congr_left fun x hx => rep_name (code_names h x hx)
  have ha : anyE t one two = false := by
    rw [anyE, List.any_eq_false]
    intro x hx
    rw [rep_name (code_names h x hx)]
    have := (name_no (code_names h x hx)).2.2.2.1
    simpa using this
  rw [exE, exR, if_pos (tc_of_code h), if_pos (tc_of_code h), hb, xE, xS, ha, exS, hm, join_segs]
  exact ⟨rfl, rfl⟩
theorem bad_name {x : List UInt8} (h : nameB x = true) : badN x = false := by simp [badN, h]
theorem bad_nil : badN [] = false := rfl
theorem join_le6 (xs : List (List UInt8)) (h6 : xs.length ≤ 6) (h : ∀ x ∈ xs, x.length ≤ 16) : (Lib.join xs [46]).length ≤ 1000 := by
  have : ∀ ys : List (List UInt8), (∀ x ∈ ys, x.length ≤ 16) → (Lib.join ys [46]).length ≤ 17 * ys.length := by
    intro ys
    induction ys with
    | nil => intro _; simp [Lib.join_nil]
    | cons y r ih =>
      intro hy
      cases r with
      | nil => rw [Lib.join_one]; have := hy y (by simp); simp; omega
      | cons z r =>
        have e : Lib.join (y :: z :: r) [46] = y ++ 46 :: Lib.join (z :: r) [46] := by simp [Lib.join, List.intercalate]
        have i1 := ih (fun x hx => hy x (List.mem_cons_of_mem _ hx))
        have i2 := hy y (by simp)
        rw [e, List.length_append, List.length_cons]
        simp only [List.length_cons] at i1 ⊢
        omega
  have := this xs h
  omega
theorem tinfo (t one two : List UInt8) (h1 : nameB one = true) (h2 : nameB two = true) : TInfo t one two := by
  have hb : (badN one || badN two) = false := by rw [bad_name h1, bad_name h2]; rfl
  have n1 := name_no h1
  have n2 := name_no h2
  have hrep : ∀ x, tc x = true → nameB (rep one two x) = true := fun x hx => by
    rw [rep]
    split
    · exact h1
    · split
      · exact h2
      · rename_i g1 g2
        simp only [tc, Bool.or_eq_true, decide_eq_true_eq] at hx
        rcases hx with (hx | hx) | hx
        · exact absurd hx g1
        · exact absurd hx g2
        · exact hx
  have hany : codeT t = true → anyE t one two = false := fun hc => by
    rw [anyE, List.any_eq_false]
    intro x hx
    simp only [codeT, Bool.and_eq_true, List.all_eq_true] at hc
    have := (name_no (hrep x (hc.2 x hx))).2.2.2.1
    simpa using this
  refine ⟨fun h => ?_, fun h he => ?_, fun he => ?_⟩
  · obtain ⟨a, b⟩ := ex_code h one two hb
    obtain ⟨c, d⟩ := ex_code h [] [] rfl
    exact ⟨a, b, c, d⟩
  · cases hc : codeT t
    · rw [exE, exR, hc]; exact ⟨rfl, rfl⟩
    · rw [exE, if_pos hc, hb, xE, hany hc] at he
      exact absurd rfl he
  · have hc : codeT t = true := by
      cases hc : codeT t
      · rw [exE, hc] at he; cases he
      · rfl
    have hR : exR t one two = Lib.join ((segs t).map (rep one two)) [46] := by rw [exR, if_pos hc, hb, xS, hany hc]; rfl
    have hc' := hc
    simp only [codeT, Bool.and_eq_true, decide_eq_true_eq, List.all_eq_true] at hc'
    have hall : ∀ x ∈ (segs t).map (rep one two), nameB x = true := fun x hx => by
      obtain ⟨y, hy, rfl⟩ := List.mem_map.1 hx
      exact hrep y (hc'.2 y hy)
    have hseg : segs (exR t one two) = (segs t).map (rep one two) := by
      rw [hR]
      exact segs_join _ (fun e => segs_ne t (List.map_eq_nil_iff.1 e)) (fun x hx => (name_no (hall x hx)).1)
    refine ⟨hseg, ?_, ?_, hc'.1, ?_, ?_⟩
    · simp only [codeB, Bool.and_eq_true, decide_eq_true_eq, List.all_eq_true]
      rw [hseg]
      exact ⟨by rw [List.length_map]; exact hc'.1, hall⟩
    · rw [hR]
      exact join_le6 _ (by rw [List.length_map]; exact hc'.1) (fun x hx => (name_no (hall x hx)).2.2.2.2)
    · have hb' : (badN [] || badN two) = false := by rw [bad_name h2]; rfl
      rw [exE, if_pos hc, hb', xE]
      have : anyE t [] two = true ↔ [42] ∈ segs t := by
        rw [anyE, List.any_eq_true]
        constructor
        · rintro ⟨x, hx, he⟩
          by_cases e : x = [42]
          · exact e ▸ hx
          · exfalso
            rw [rep, if_neg e] at he
            split at he
            · exact n2.2.2.2.1 (by simpa using he)
            · rename_i g2
              have := hc'.2 x hx
              simp only [tc, Bool.or_eq_true, decide_eq_true_eq] at this
              rcases this with (hx' | hx') | hx'
              · exact e hx'
              · exact g2 hx'
              · exact (name_no hx').2.2.2.1 (by simpa using he)
        · intro h
          exact ⟨[42], h, rfl⟩
      cases hh : anyE t [] two
      · rw [hh] at this; simpa using this
      · rw [hh] at this; simpa using this
    · have hb' : (badN one || badN []) = false := by rw [bad_name h1]; rfl
      rw [exE, if_pos hc, hb', xE]
      have : anyE t one [] = true ↔ [43] ∈ segs t := by
        rw [anyE, List.any_eq_true]
        constructor
        · rintro ⟨x, hx, he⟩
          by_cases e : x = [43]
          · exact e ▸ hx
          · exfalso
            rw [rep, if_neg e] at he
            split at he
            · exact n1.2.2.2.1 (by simpa using he)
            · rename_i g2
              have := hc'.2 x hx
              simp only [tc, Bool.or_eq_true, decide_eq_true_eq] at this
              rcases this with (hx' | hx') | hx'
              · exact g2 hx'
              · exact e hx'
              · exact (name_no hx').2.2.2.1 (by simpa using he)
        · intro h
          exact ⟨[43], h, by rw [rep, if_neg (by decide), if_pos rfl]; rfl⟩
      cases hh : anyE t one []
      · rw [hh] at this; simpa using this
      · rw [hh] at this; simpa using this
end Go.Proofs.YtklmgogppljolaaDoor
