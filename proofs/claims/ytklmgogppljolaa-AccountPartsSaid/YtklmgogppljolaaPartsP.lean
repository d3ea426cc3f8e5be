/- Parts of charts, plain. -/
import Derived.Test.YtklmgogppljolaaFindP
namespace Go.Proofs.Ytklmgogppljolaa
open Go.RowKit

structure ChartP (l : List Acc) : Prop where
  small : l.length ≤ 256
  each : ∀ a ∈ l, codeB a.1 = true ∧ 1 ≤ a.2 ∧ a.2 ≤ 5
  pair : l.Pairwise (fun a b => a.1 < b.1 ∧ (undB b.1 a.1 = true → b.2 = a.2))
theorem at_get {l : List Acc} {k : Nat} (hk : k < l.length) : accAt l k = l[k] := by
  rw [accAt, List.getD_eq_getElem?_getD, List.getElem?_eq_getElem hk]; rfl
theorem chartP_of {l : List Acc} (h : Chart l) : ChartP l := by
  refine ⟨h.small, fun a ha => ?_, List.pairwise_iff_getElem.2 fun i j hi hj hij => ?_⟩
  · obtain ⟨k, hk, rfl⟩ := mem_at ha
    exact ⟨h.code k hk, h.kind k hk⟩
  · rw [← at_get hi, ← at_get hj]
    exact ⟨h.ord j i hij hj, h.cl j i hij hj⟩
theorem chk_of_P {l : List Acc} (h : ChartP l) : chkL l = 0 := by
  have hp := List.pairwise_iff_getElem.1 h.pair
  refine chk_ok h.small fun j hj => ?_
  obtain ⟨h1, h2⟩ := h.each _ (at_mem hj)
  unfold errAt
  rw [if_neg (by rw [h1]; decide), if_neg (by omega), if_neg, if_neg]
  · have : clash l j j = false := by
      rw [clash, List.any_eq_false]
      intro i hi
      have hi := List.mem_range.1 hi
      have h3 := (hp i j (by omega) hj hi).2
      rw [← at_get hj, ← at_get (show i < l.length by omega)] at h3
      cases h4 : undB (accAt l j).1 (accAt l i).1
      · simp
      · rw [h3 h4]; simp
    rw [this]; decide
  · rintro ⟨h0, h3⟩
    rw [le_flip, bytesLess_eq] at h3
    have h4 := (hp (j - 1) j (by omega) hj (by omega)).1
    rw [← at_get hj, ← at_get (show j - 1 < l.length by omega)] at h4
    rw [decide_eq_true h4] at h3
    cases h3
theorem ChartP.sub {l m : List Acc} (h : ChartP l) (hs : m.Sublist l) : ChartP m :=
  ⟨Nat.le_trans hs.length_le h.small, fun a ha => h.each a (hs.subset ha), h.pair.sublist hs⟩
theorem turned_bad {l : List Acc} (h2 : 2 ≤ l.length) (h : ChartP l) : chkL l.reverse ≠ 0 := by
  intro he
  have hp := (chartP_of (chart_of he)).pair
  rw [List.pairwise_reverse] at hp
  match l, h2 with
  | x :: y :: r, _ =>
    have h3 := (List.pairwise_cons.1 h.pair).1 y (by simp)
    have h4 := (List.pairwise_cons.1 hp).1 y (by simp)
    exact List.lt_asymm h3.1 h4.1
theorem more_bad {l m : List Acc} {k : Nat} (hk : k < l.length) {q : Int} (hq : q ≠ (accAt l k).2) (hp : m.Perm (l ++ [((accAt l k).1 ++ [46, 122, 122, 122], q)])) : chkL m ≠ 0 := by
  intro he
  have hc := chart_of he
  obtain ⟨i, hi, ei⟩ := mem_at (l := m) (hp.mem_iff.2 (List.mem_append_left _ (at_mem hk)))
  obtain ⟨j, hj, ej⟩ := mem_at (l := m) (a := ((accAt l k).1 ++ [46, 122, 122, 122], q)) (hp.mem_iff.2 (by simp))
  have := kinds_eq hc hj hi (by rw [ei, ej, und_iff]; exact .inr ⟨[122, 122, 122], rfl⟩)
  rw [ei, ej] at this
  exact hq this
theorem sub_snoc {m l : List Acc} {k : Nat} (h : m.Sublist (l.take k)) (hk : k < l.length) : (m ++ [accAt l k]).Sublist (l.take (k + 1)) ∧ m.Sublist (l.take (k + 1)) := by
  rw [List.take_succ_eq_append_getElem hk, at_get hk]
  exact ⟨h.append (List.Sublist.refl _), h.trans (List.sublist_append_left _ _)⟩
end Go.Proofs.Ytklmgogppljolaa
