/- Contract of slices.Equal at slices of strings. -/
import Derived.Test.YtlgpdmejnabinaaChain
namespace Go.Proofs.Ytlgpdmejnabinaa
open Go.RowKit
theorem below_drewN' {B : Nat} {a w : World} (h : Below B a w) (n : Nat) : Below B a (w.drewN n) := ⟨h.os, h.tape, h.output, h.size, h.block⟩
theorem equal_any (A B : Option Addr) (n c m d : Nat) (l r : List ByteArray) (w : World) (h : Strs w A n c l) (k : Strs w B m d r) :
    Calls Try.prog 21 #[.slice A n c, .slice B m d] w fun e w' => e = .returned (.bool (decide (l = r))) ∧ Below w.heap.size w w' := by
  by_cases hnm : n = m
  · subst hnm
    rcases Nat.eq_zero_or_pos n with h0 | h0
    · subst h0
      refine (Try.slices_Equal_string_empty A B c 0 d w (by omega)).mono ?_
      rintro e w' ⟨rfl, rfl⟩
      have e1 : l = [] := List.eq_nil_of_length_eq_zero h.len
      have e2 : r = [] := List.eq_nil_of_length_eq_zero k.len
      subst e1 e2
      exact ⟨rfl, Below.refl _ _⟩
    · obtain ⟨b, o, rfl, _, hc⟩ := h.at_ h0
      obtain ⟨b', o', rfl, _, hc'⟩ := k.at_ h0
      refine (Try.slices_Equal_string b o n c b' o' n d l r w (by rw [h.len]; omega) (by rw [k.len]; omega) h.top k.top (fun j hj => hc j (by rw [← h.len]; exact hj)) (fun j hj => hc' j (by rw [← k.len]; exact hj))).mono ?_
      rintro e w' ⟨rfl, q, rfl⟩
      refine ⟨?_, below_drewN' (Below.refl _ _) q⟩
      rw [List.take_of_length_le (by rw [h.len]; omega), List.take_of_length_le (by rw [k.len]; omega)]
  · refine (Try.slices_Equal_string_lens A B n c m d w hnm).mono ?_
    rintro e w' ⟨rfl, rfl⟩
    refine ⟨?_, Below.refl _ _⟩
    have : ¬ l = r := fun e => hnm (by rw [← h.len, ← k.len, e])
    simp [this]
end Go.Proofs.Ytlgpdmejnabinaa
