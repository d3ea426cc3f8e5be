/- Arguments that are slices of strings, opened. -/
import Derived.Test.YtlgpdmejnabinaaFrame
import Derived.Test.YtlgpdmejnabinaaGreat
namespace Go.Proofs.Ytlgpdmejnabinaa
open Go.RowKit Go.WideShapes Go.ChangeShapes Go.ChangeAt
theorem cells9 : Try.prog.cellsOf 9 = 1 := by kernel_rfl
theorem laid : laidOutB Try.prog = true := by kernel_rfl
theorem own : ownKnob Try.prog.godebug = none := by kernel_rfl
theorem arg_strs {H : Type} {enc : TypeId × Value → H} {W : World} {r : Reach} {b0 : Nat} {v : Value} {d : DataW H} {p : List MemPlace} (hok : Value.okWide Try.prog W r b0 27 v)
    (h : DataW.Trod enc Try.prog W 0 (fun _ => true) true 27 v d p) : ∃ A n c l, v = .slice A n c ∧ Strs W A n c l ∧ ∀ s ∈ l, s.size ≤ 9223372036854775807 := by
  obtain ⟨a0, len, cap, rfl⟩ := okWide_slice Try.underlying27 hok
  obtain ⟨fuel, hf⟩ := h
  rcases open_strings Try.underlying27 Try.underlying9 cells9 hf with ⟨hcs, _⟩ | ⟨a, len', cap', ss, hcs, _, hl, hm, hz, _, hcell, hws⟩
  · simp only [Value.cells, List.cons.injEq, Value.slice.injEq] at hcs
    obtain ⟨⟨rfl, rfl, rfl⟩, _⟩ := hcs
    exact ⟨none, 0, 0, [], rfl, ⟨rfl, by omega, by omega, fun hh => by omega⟩, by simp⟩
  · simp only [Value.cells, List.cons.injEq, Value.slice.injEq] at hcs
    obtain ⟨⟨rfl, rfl, rfl⟩, _⟩ := hcs
    simp only [if_true] at hz
    refine ⟨some a, len, cap, ss.take len, rfl, ⟨by simp; omega, hl, by unfold maxLen at hm; omega, fun h0 => ?_⟩, fun s hs => hws s (List.mem_of_mem_take hs)⟩
    obtain ⟨b, off, spot⟩ := a
    have hspot : spot = none := by simpa [Addr.add] using World.cell?_spot (hcell 0 (by omega))
    subst hspot
    refine ⟨b, off, rfl, block_lt_of_cell (hcell 0 (by omega)), fun k hk => ?_⟩
    have := hcell k (by omega)
    rw [add_plain] at this
    rw [this, List.getD_eq_getElem?_getD, List.getD_eq_getElem?_getD, List.getElem?_take, if_pos hk]
end Go.Proofs.Ytlgpdmejnabinaa
