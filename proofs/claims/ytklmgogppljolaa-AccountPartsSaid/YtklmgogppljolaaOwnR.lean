/- Rows of the call's own, as the kit's sort speaks of them. -/
import Derived.Shelf.SlSortCmp.WholeK
import Derived.Laws.AppendOwn
import Derived.Below
namespace Go.Proofs.Ytklmgogppljolaa
open Go.RowKit Go.Sort Go.Lib

theorem flat_len {α : Type} (enc : α → List Value) (k : Nat) (hk : ∀ x, (enc x).length = k) (l : List α) : (l.flatMap enc).length = l.length * k := by
  induction l with
  | nil => simp
  | cons a l ih => rw [List.flatMap_cons, List.length_append, ih, hk, List.length_cons, Nat.add_mul]; omega
theorem flat_get {α : Type} [Inhabited α] (enc : α → List Value) (k : Nat) (hk : ∀ x, (enc x).length = k) : ∀ (l : List α) (t : Nat), t < l.length * k → (l.flatMap enc)[t]? = some ((enc (l[t / k]!))[t % k]!)
  | [], t, h => by simp at h
  | a :: l, t, h => by
    have hk0 : 0 < k := by
      rcases Nat.eq_zero_or_pos k with h0 | h0
      · rw [h0] at h; simp at h
      · exact h0
    rw [List.flatMap_cons]
    by_cases ht : t < k
    · rw [List.getElem?_append_left (by rw [hk]; exact ht), Nat.div_eq_of_lt ht, Nat.mod_eq_of_lt ht]
      simp only [List.getElem!_cons_zero]
      rw [List.getElem?_eq_getElem (by rw [hk]; exact ht), getElem!_pos (enc a) t (by rw [hk]; exact ht)]
    · obtain ⟨s, rfl⟩ : ∃ s, t = s + k := ⟨t - k, by omega⟩
      rw [List.getElem?_append_right (by rw [hk]; omega), hk, Nat.add_sub_cancel, Nat.add_div_right _ hk0, Nat.add_mod_right]
      simp only [List.getElem!_cons_succ]
      refine flat_get enc k hk l s ?_
      rw [List.length_cons, Nat.add_mul] at h
      omega
theorem flat_eq {α : Type} [Inhabited α] (enc : α → List Value) (k : Nat) (hk : ∀ x, (enc x).length = k) (l : List α) : flatK enc k l.toArray = (l.flatMap enc).toArray := by
  refine ext_get! (by rw [size_flatK]; simp only [List.size_toArray, flat_len enc k hk]) fun t ht => ?_
  rw [size_flatK] at ht
  simp only [List.size_toArray] at ht
  rw [get_flatK enc k _ t (by simpa using ht)]
  have h := flat_get enc k hk l t ht
  have h2 : t < (l.flatMap enc).length := by rw [flat_len enc k hk]; exact ht
  rw [List.getElem?_eq_getElem h2] at h
  rw [getElem!_pos (l.flatMap enc).toArray t (by simpa using h2)]
  simp only [List.getElem_toArray]
  rw [Option.some.inj h]
  simp
theorem own_holds {α : Type} [Inhabited α] (enc : α → List Value) (k : Nat) (hk : ∀ x, (enc x).length = k) {w : World} {B e : Nat} {v : Value} {l : List α} (h : w.ownsRow B e k v l.length (l.flatMap enc)) (hne : 0 < l.length) :
    ∃ g cap, v = .slice (some ⟨g, 0, none⟩) l.length cap ∧ B ≤ g ∧ g < w.heap.size ∧ HoldsK enc k w g 0 l.toArray := by
  rcases h.2 with ⟨_, h0⟩ | ⟨g, cap, cur, hv, hB, hg, hc, hm, hsz, htake⟩
  · omega
  · refine ⟨g, cap, hv, hB, ?_, fun j hj => ?_⟩
    · rcases Nat.lt_or_ge g w.heap.size with h' | h'
      · exact h'
      · rw [Array.getElem?_eq_none h'] at hg; cases hg
    · rw [size_flatK] at hj
      simp only [List.size_toArray] at hj
      rw [cell_of_row _ _ _ _ _ _ hg, frozen_of_row _ _ _ _ _ hg, Nat.zero_add]
      refine ⟨?_, rfl⟩
      have h1 : cur[j]? = (l.flatMap enc)[j]? := by
        rw [← htake, List.getElem?_take, if_pos hj, Array.getElem?_toList]
      rw [h1, flat_get enc k hk l j hj, get_flatK enc k _ j (by simpa using hj)]
      simp
theorem own_put {α : Type} [Inhabited α] (enc : α → List Value) (k : Nat) (hk : ∀ x, (enc x).length = k) {w : World} {B e : Nat} {g n cap : Nat} {l m : List α} (h : w.ownsRow B e k (.slice (some ⟨g, 0, none⟩) l.length cap) l.length (l.flatMap enc)) (hl : m.length = l.length) (hne : 0 < l.length) (os : Array Obj) :
    (grow (putRowK enc k (Sort.ahead w n) g 0 m.toArray) os).ownsRow B e k (.slice (some ⟨g, 0, none⟩) l.length cap) m.length (m.flatMap enc) ∧ Below B w (grow (putRowK enc k (Sort.ahead w n) g 0 m.toArray) os) := by
  rcases h.2 with ⟨_, h0⟩ | ⟨g', cap', cur, hv, hB, hg, hc, hm, hsz, htake⟩
  · omega
  injection hv with hv1 hv2 hv3
  injection hv1 with hv1
  injection hv1 with hv1
  subst hv1 hv3
  have hlt : g < w.heap.size := by
    rcases Nat.lt_or_ge g w.heap.size with h' | h'
    · exact h'
    · rw [Array.getElem?_eq_none h'] at hg; cases hg
  have hbl : ∀ i, i < w.heap.size → i ≠ g → (grow (putRowK enc k (Sort.ahead w n) g 0 m.toArray) os).heap[i]? = w.heap[i]? := fun i hi hne => by
    simp only [grow]
    rw [Array.getElem?_append_left (by simpa [putRowK, Sort.ahead] using hi)]
    simp [putRowK, putRow, mapBlock, Sort.ahead, Array.getElem?_modify, hne.symm]
  have hrow : (grow (putRowK enc k (Sort.ahead w n) g 0 m.toArray) os).heap[g]? = some (.cells (putCells id 0 (flatK enc k m.toArray) cur) e (0, 0)) := by
    simp only [grow]
    rw [Array.getElem?_append_left (by simpa [putRowK, Sort.ahead] using hlt)]
    simp [putRowK, putRow, mapBlock, Sort.ahead, Array.getElem?_modify, hg, onCells]
  have hml : (m.flatMap enc).length = m.length * k := flat_len enc k hk m
  refine ⟨⟨hml, .inr ⟨g, cap, _, by rw [hl], hB, hrow, by omega, hm, by simp [putCells, hsz], ?_⟩⟩, ?_⟩
  · rw [flat_eq enc k hk]
    apply List.ext_getElem?
    intro i
    rw [List.getElem?_take]
    by_cases hi : i < m.length * k
    · have hi2 : i < cap * k := Nat.lt_of_lt_of_le hi (Nat.mul_le_mul_right k (by omega))
      rw [if_pos hi, Array.getElem?_toList]
      simp only [putCells, Array.getElem?_mapIdx, List.size_toArray]
      rw [Array.getElem?_eq_getElem (by omega), Option.map_some, if_pos ⟨Nat.zero_le _, by omega⟩, Nat.sub_zero, getElem!_pos _ i (by simpa using (by omega : i < (m.flatMap enc).length)), List.getElem?_eq_getElem (by omega)]
      simp
    · rw [if_neg hi, List.getElem?_eq_none (by omega)]
  · exact ⟨rfl, rfl, rfl, by simp [grow, putRowK, Sort.ahead], fun i hi => hbl i (by omega) (by omega)⟩
end Go.Proofs.Ytklmgogppljolaa
