/- Parents of codes, plain. -/
import Derived.Test.YtklmgogppljolaaDoorTmplP
namespace Go.Proofs.YtklmgogppljolaaDoor
open Go.RowKit

theorem und_iff (c p : List UInt8) : undB c p = true ↔ c = p ∨ ∃ r, c = p ++ 46 :: r := by
  unfold undB
  rw [Bool.and_eq_true, Bool.or_eq_true, decide_eq_true_iff, decide_eq_true_iff, List.isPrefixOf_iff_prefix]
  constructor
  · rintro ⟨⟨r, rfl⟩, h⟩
    rw [List.drop_left] at h
    cases r with
    | nil => exact .inl (by simp)
    | cons x r =>
      rcases h with h | h
      · cases h
      · exact .inr ⟨r, by rw [show x = 46 from h]⟩
  · rintro (rfl | ⟨r, rfl⟩)
    · exact ⟨List.prefix_refl _, .inl (by simp)⟩
    · exact ⟨⟨_, rfl⟩, .inr (by rw [List.drop_left]; rfl)⟩
/-- the code of the first j segments -/
def pre (S : List (List UInt8)) (j : Nat) : List UInt8 := Lib.join (S.take j) [46]
theorem join_app : ∀ (a b : List (List UInt8)), a ≠ [] → b ≠ [] → Lib.join (a ++ b) [46] = Lib.join a [46] ++ 46 :: Lib.join b [46]
  | [], _, h, _ => absurd rfl h
  | [x], b, _, hb => by
    cases b with
    | nil => exact absurd rfl hb
    | cons y r => simp [Lib.join, List.intercalate]
  | x :: y :: r, b, _, hb => by
    have ih := join_app (y :: r) b (by simp) hb
    have e1 : Lib.join (x :: y :: r) [46] = x ++ 46 :: Lib.join (y :: r) [46] := by simp [Lib.join, List.intercalate]
    have e2 : Lib.join (x :: ((y :: r) ++ b)) [46] = x ++ 46 :: Lib.join ((y :: r) ++ b) [46] := by simp [Lib.join, List.intercalate]
    rw [List.cons_append, e2, ih, e1]
    simp
structure Names (S : List (List UInt8)) : Prop where
  each : ∀ x ∈ S, nameB x = true
  le : S.length ≤ 6
  pos : 1 ≤ S.length
theorem names_of {c : List UInt8} (h : codeB c = true) : Names (segs c) ∧ pre (segs c) (segs c).length = c := by
  refine ⟨⟨code_names h, ?_, segs_pos c⟩, by rw [pre, List.take_length, join_segs]⟩
  simp only [codeB, Bool.and_eq_true, decide_eq_true_eq] at h
  exact h.1
theorem Names.segs {S : List (List UInt8)} (h : Names S) {j : Nat} (h1 : 1 ≤ j) : Go.Proofs.YtklmgogppljolaaDoor.segs (pre S j) = S.take j := by
  refine segs_join _ (fun e => ?_) (fun x hx => (name_no (h.each x (List.mem_of_mem_take hx))).1)
  have h5 := congrArg List.length e
  rw [List.length_take, List.length_nil] at h5
  have := h.pos
  omega
theorem Names.code {S : List (List UInt8)} (h : Names S) {j : Nat} (h1 : 1 ≤ j) : codeB (pre S j) = true := by
  simp only [codeB, Bool.and_eq_true, decide_eq_true_eq, List.all_eq_true]
  rw [h.segs h1]
  refine ⟨?_, fun x hx => h.each x (List.mem_of_mem_take hx)⟩
  rw [List.length_take]
  have := h.le
  omega
theorem Names.len {S : List (List UInt8)} (h : Names S) (j : Nat) : (pre S j).length ≤ 1000 := by
  refine join_le6 _ ?_ (fun x hx => (name_no (h.each x (List.mem_of_mem_take hx))).2.2.2.2)
  rw [List.length_take]; have := h.le; omega
theorem Names.parent {S : List (List UInt8)} (h : Names S) {j : Nat} (h1 : 1 ≤ j) (hj : j < S.length) : parS (pre S (j + 1)) = pre S j ∧ parB (pre S (j + 1)) = true := by
  have hl : (S.take (j + 1)).length = j + 1 := by rw [List.length_take]; omega
  have hb : parB (pre S (j + 1)) = true := by
    rw [parB, h.code (by omega), h.segs (by omega), hl]
    simp; omega
  refine ⟨?_, hb⟩
  rw [parB] at hb
  rw [parS, if_pos hb, h.segs (by omega), List.dropLast_eq_take, hl, List.take_take, Nat.min_eq_left (by omega)]
  rfl
theorem Names.top {S : List (List UInt8)} (h : Names S) : parS (pre S 1) = [] ∧ parB (pre S 1) = false := by
  have : parB (pre S 1) = false := by
    rw [parB, h.segs (by omega)]
    have : (S.take 1).length ≤ 1 := by rw [List.length_take]; omega
    simp; intro _; omega
  refine ⟨?_, this⟩
  rw [parB] at this
  rw [parS, if_neg (by rw [this]; decide)]
theorem Names.split {S : List (List UInt8)} (h : Names S) {j : Nat} (h1 : 1 ≤ j) (hj : j < S.length) (m : Nat) (hm : j < m) : ∃ r, pre S m = pre S j ++ 46 :: r := by
  refine ⟨Lib.join ((S.take m).drop j) [46], ?_⟩
  have e : S.take m = S.take j ++ (S.take m).drop j := by
    conv => lhs; rw [← List.take_append_drop j (S.take m)]
    rw [List.take_take, Nat.min_eq_left (by omega)]
  have hn1 : S.take j ≠ [] := fun e => by have h5 := congrArg List.length e; rw [List.length_take, List.length_nil] at h5; omega
  have hn2 : (S.take m).drop j ≠ [] := fun e => by have h5 := congrArg List.length e; rw [List.length_drop, List.length_take, List.length_nil] at h5; omega
  rw [pre, pre]
  conv => lhs; rw [e, join_app _ _ hn1 hn2]
theorem Names.under {S : List (List UInt8)} (h : Names S) {j : Nat} (h1 : 1 ≤ j) (hj : j < S.length) : undB (pre S (j + 1)) (pre S j) = true :=
  (und_iff _ _).2 (.inr (h.split h1 hj (j + 1) (by omega)))
/-- is the other one among the last d parents? -/
def amB (S : List (List UInt8)) (o : List UInt8) (d : Nat) : Bool := (List.range d).any fun q => decide (pre S (S.length - 1 - q) = o)
theorem am_succ (S : List (List UInt8)) (o : List UInt8) (d : Nat) : amB S o (d + 1) = (amB S o d || decide (pre S (S.length - 1 - d) = o)) := by
  simp [amB, List.range_succ, List.any_append]
theorem segs_app : ∀ (a b : List UInt8), segs (a ++ 46 :: b) = segs a ++ segs b
  | [], b => by rw [List.nil_append, segs_dot]; rfl
  | c :: r, b => by
    have ih := segs_app r b
    by_cases hc : c = 46
    · subst hc
      rw [List.cons_append, segs_dot, segs_dot, ih]; rfl
    · obtain ⟨y, t, e⟩ : ∃ x t, segs r = x :: t := by
        cases h' : segs r with
        | nil => exact absurd h' (segs_ne r)
        | cons x t => exact ⟨x, t, rfl⟩
      rw [e, List.cons_append] at ih
      rw [List.cons_append, segs_cons hc ih, segs_cons hc e]; rfl
theorem among {S : List (List UInt8)} (h : Names S) (o : List UInt8) (hne : o ≠ pre S S.length) : undB (pre S S.length) o = amB S o (S.length - 1) := by
  rw [Bool.eq_iff_iff, und_iff]
  have hp := h.pos
  constructor
  · rintro (e | ⟨r, e⟩)
    · exact absurd e.symm hne
    · have hs := congrArg segs e
      rw [h.segs hp, List.take_length, segs_app] at hs
      have ho := segs_pos o
      have hr := segs_pos r
      have hl : S.length = (segs o).length + (segs r).length := by rw [hs, List.length_append]
      simp only [amB, List.any_eq_true, List.mem_range, decide_eq_true_eq]
      refine ⟨S.length - 1 - (segs o).length, by omega, ?_⟩
      rw [show S.length - 1 - (S.length - 1 - (segs o).length) = (segs o).length by omega, pre]
      conv => lhs; rw [hs]
      rw [List.take_left, join_segs]
  · intro ha
    simp only [amB, List.any_eq_true, List.mem_range, decide_eq_true_eq] at ha
    obtain ⟨q, hq, rfl⟩ := ha
    exact .inr (h.split (by omega) (by omega) S.length (by omega))
end Go.Proofs.YtklmgogppljolaaDoor
