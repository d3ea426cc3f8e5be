/- Arguments that are slices of accounts, opened. -/
import Derived.Test.YtklmgogppljolaaArgs
import Derived.Test.YtklmgogppljolaaFind
import Derived.Deep.SlicePairs
namespace Go.Proofs.Ytklmgogppljolaa
open Go.RowKit Go.WideShapes Go.ChangeShapes Go.ChangeAt Go.Deep
theorem cells9 : Try.prog.cellsOf 9 = 1 := by kernel_rfl
theorem cells3 : Try.prog.cellsOf 3 = 1 := by kernel_rfl
theorem cells26 : Try.prog.cellsOf 26 = 2 := by kernel_rfl
theorem arg_accs {H : Type} {enc : TypeId × Value → H} {W : World} {r : Reach} {b0 : Nat} {v : Value} {d : DataW H} {p : List MemPlace} (hok : Value.okWide Try.prog W r b0 22 v)
    (h : DataW.Trod enc Try.prog W 0 (fun _ => true) true 22 v d p) : ∃ A n c l, v = .slice A n c ∧ Accs W A n c l ∧ ∀ a ∈ l, a.1.length ≤ 9223372036854775807 := by
  obtain ⟨a0, len, cap, rfl⟩ := okWide_slice Try.underlying22 hok
  obtain ⟨fuel, hf⟩ := h
  rcases open_slice_pairs Try.underlying22 Try.underlying26 cells26 rfl rfl cells9 cells3 hf with ⟨hcs, _⟩ | ⟨a, len', cap', m, nn, V0, V1, D0, D1, P0, P1, hcs, _, hl, hm, hmeq, hx, hall⟩
  · simp only [Value.cells, List.cons.injEq, Value.slice.injEq] at hcs
    obtain ⟨⟨rfl, rfl, rfl⟩, _⟩ := hcs
    exact ⟨none, 0, 0, [], rfl, ⟨rfl, by omega, by omega, fun hh => by omega⟩, by simp⟩
  · simp only [Value.cells, List.cons.injEq, Value.slice.injEq] at hcs
    obtain ⟨⟨rfl, rfl, rfl⟩, _⟩ := hcs
    simp only [if_true] at hmeq
    subst hmeq
    have key : ∀ i, i < m → ∃ x : Acc, W.cell? (a.add (i * 2)) = some (.string ⟨x.1.toArray⟩) ∧ W.cell? (a.add (i * 2 + 1)) = some (.int .i64 x.2) ∧ x.1.length ≤ 9223372036854775807 := fun i hi => by
      obtain ⟨h0, h1, t0, t1⟩ := hall i hi
      obtain ⟨s, e0, x0, hs⟩ := DataW.trod_string Try.underlying9 t0
      obtain ⟨k, e1, x1, _⟩ := DataW.trod_int Try.underlying3 t1
      simp only [List.cons.injEq, and_true] at e0 e1
      rw [e0] at h0
      rw [e1] at h1
      refine ⟨(s.data.toList, k), h0, h1, ?_⟩
      show s.data.toList.length ≤ _
      rw [Array.length_toList]
      exact hs
    obtain ⟨q, hq⟩ := choose_lt key
    refine ⟨some a, len, m, (List.range len).map q, rfl, ⟨by simp, hl, by unfold maxLen at hm; omega, fun h0 => ?_⟩, fun x hx => ?_⟩
    · obtain ⟨b, off, spot⟩ := a
      have hspot : spot = none := by simpa [Addr.add] using World.cell?_spot (hq 0 (by omega)).1
      subst hspot
      refine ⟨b, off, rfl, block_lt_of_cell (hq 0 (by omega)).1, fun k hk => ?_⟩
      obtain ⟨h1, h2, _⟩ := hq k (by omega)
      rw [add_plain] at h1 h2
      rw [List.getD_eq_getElem?_getD, List.getElem?_map, List.getElem?_range hk]
      exact ⟨h1, by rw [Nat.add_assoc]; exact h2⟩
    · obtain ⟨k, hk, rfl⟩ := List.mem_map.1 hx
      exact (hq k (by have := List.mem_range.1 hk; omega)).2.2
end Go.Proofs.Ytklmgogppljolaa
