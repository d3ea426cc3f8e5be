/- The walk of DigestSums. -/
import Derived.Test.YtlgpdmejnabinaaMany
namespace Go.Proofs.Ytlgpdmejnabinaa
open Go.RowKit

theorem strs1 (w : World) (s : ByteArray) : Strs (w.alloc (.cells #[.string s] 9)) (some ⟨w.heap.size, 0, none⟩) 1 1 [s] :=
  ⟨rfl, Nat.le_refl _, by omega, fun _ => ⟨w.heap.size, 0, rfl, by simp, fun k hk => by
    obtain rfl : k = 0 := by omega
    rw [cell_of_row _ _ _ _ _ _ (heap_alloc_new w _)]; rfl⟩⟩
theorem below_alloc1 (w : World) (o : Obj) : Below w.heap.size w (w.alloc o) := (Below.refl _ _).alloc (Nat.le_refl _) _
theorem hex_dig (s : ByteArray) (w : World) (hs : s.size ≤ 1000000) : Calls Try.prog 13 #[.string s] w fun e w' => e = .returned (.string ⟨(hexL s.data.toList).toArray⟩) ∧ Below w.heap.size w w' := hex_any s w hs
/-- what is left when both chains have been made -/
structure Sized (l : List ByteArray) : Prop where
  le : ∀ x ∈ l, x.size ≤ 1000000
theorem not_great (l : List ByteArray) (h : greatB l = false) : l.length ≤ 12 ∧ ∀ x ∈ l, x.size ≤ 200 := by
  simp only [greatB, Bool.or_eq_false_iff, decide_eq_false_iff_not, List.any_eq_false] at h
  refine ⟨by omega, fun x hx => ?_⟩
  have := h.2 x hx
  simp only [big, decide_eq_true_eq] at this
  omega
theorem not_many (l : List ByteArray) (limit : Nat) (h : manyB l limit = false) (_h12 : 12 ≤ limit) : (∀ x ∈ l, x.size ≤ 200) ∧ (l.length ≤ 12 ∨ limit < l.length) := by
  simp only [manyB, Bool.and_eq_false_iff, Bool.or_eq_false_iff, decide_eq_false_iff_not, List.any_eq_false] at h
  rcases h with h | ⟨⟨h1, h2⟩, h3⟩
  · have := not_great l h
    exact ⟨this.2, .inl this.1⟩
  · refine ⟨fun x hx => ?_, .inr (by omega)⟩
    have := h3 x hx
    have h0 : x.toList.isEmpty = true := by simpa [filled] using this
    rw [← decide_eq_emptyBytes x] at h0
    have hz : x = ByteArray.empty := of_decide_eq_true h0
    rw [hz]
    exact Nat.zero_le _
set_option maxHeartbeats 2000000 in
set_option maxRecDepth 100000 in
/-- the last statement, whatever the two chains are: they are alike -/
theorem sums_tail (s : ByteArray) (A : Option Addr) (n c : Nat) (l : List ByteArray) (w : World) (hs : s.size ≤ 9223372036854775807) (h : Strs w A n c l) (hl : ∀ x ∈ l, x.size ≤ 9223372036854775807) :
    Calls Try.prog 4 #[.string s, .slice A n c] w fun e w' => e = .returned (.bool true) ∧ Below w.heap.size w w' := by
  have hb1 : Below w.heap.size w (w.alloc (.cells #[.string s] 9)) := below_alloc1 _ _
  have h1 := h.below hb1
  cases hg : greatB [s]
  · cases hm : manyB l 10000
    · obtain ⟨hx200, hcase⟩ := not_many l 10000 hm (by omega)
      have hs200 : s.size ≤ 200 := (not_great [s] hg).2 s (by simp)
      have hch : ∃ (O : List ByteArray) (code : Int), (∀ W : World, Strs W A n c l → Calls Try.prog 17 #[.string s, .slice A n c] W (RetS O code W)) ∧ (∀ W : World, Strs W A n c l → Calls Try.prog 18 #[.string s, .slice A n c] W (RetS O code W)) := by
        have hn := h.len
        rcases hcase with hc | hc
        · exact ⟨_, _, fun W hW => chain_any s A n c l W hW (by omega) (fun x hx => Nat.le_trans (hx200 x hx) (by omega)) (by omega), fun W hW => refChain_any s A n c l W hW (by omega) (fun x hx => Nat.le_trans (hx200 x hx) (by omega)) (by omega)⟩
        · exact ⟨_, _, fun W _ => chain_many s A n c W (by omega) h.top, fun W _ => refChain_many s A n c W (by omega) h.top⟩
      obtain ⟨O, code, hch1, hch2⟩ := hch
      have H1 := Lib.hid hch1
      have H2 := Lib.hid hch2
      clear hch1 hch2
      go_enter Try.func4, Try.ntmps4
      go_wp2_with fail
      refine (great_any _ 1 1 [s] _ (strs1 w s) (by simpa using hs)).mono ?_
      rintro e w1 ⟨rfl, rfl⟩
      rw [hg]
      go_wp2_with fail
      refine (many_any A n c l _ h1 hl 10000 (by omega)).mono ?_
      rintro e w1 ⟨rfl, rfl⟩
      rw [hm]
      go_wp2_with fail
      refine (H1.out _ h1).mono ?_
      rintro e w2 ⟨v2, rfl, ho2, hb2⟩
      have b2 : Below w.heap.size w w2 := hb1.trans (hb2.mono (by simp))
      go_wp2_with fail
      refine (H2.out _ (h.below b2)).mono ?_
      rintro e w3 ⟨v3, rfl, ho3, hb3⟩
      have b3 : Below w.heap.size w w3 := b2.trans (hb3.mono b2.size)
      have ho23 := ho2.below hb3
      clear ho2 hb2 hb3
      go_wp2_with fail
      refine (sum_dig s _ (by omega)).mono ?_
      rintro e w4 ⟨rfl, hb4⟩
      have ho24 := ho23.below hb4
      have ho34 := ho3.below hb4
      have b4 : Below w.heap.size w w4 := b3.trans (hb4.mono b3.size)
      clear ho23 ho3 hb4
      go_wp2_with fail
      refine (refSum_dig s _ (by omega)).mono ?_
      rintro e w5 ⟨rfl, hb5⟩
      have ho25 := ho24.below hb5
      have ho35 := ho34.below hb5
      have b5 : Below w.heap.size w w5 := b4.trans (hb5.mono b4.size)
      clear ho24 ho34 hb5
      go_wp2_with fail
      refine (hex_any s _ (by omega)).mono ?_
      rintro e w6 ⟨rfl, hb6⟩
      have ho26 := ho25.below hb6
      have ho36 := ho35.below hb6
      have b6 : Below w.heap.size w w6 := b5.trans (hb6.mono b5.size)
      clear ho25 ho35 hb6
      go_wp2_with fail
      refine (refHex_any s _ (by omega)).mono ?_
      rintro e w7 ⟨rfl, hb7⟩
      have ho27 := ho26.below hb7
      have ho37 := ho36.below hb7
      have b7 : Below w.heap.size w w7 := b6.trans (hb7.mono b6.size)
      clear ho26 ho36 hb7
      obtain ⟨A2, c2, rfl, hs2⟩ := ho27.strs
      obtain ⟨A3, c3, rfl, hs3⟩ := ho37.strs
      go_wp2_with fail
      refine (equal_any A2 A3 _ c2 _ c3 O O _ hs2 hs3).mono ?_
      rintro e w8 ⟨rfl, hb8⟩
      have b8 : Below w.heap.size w w8 := b7.trans (hb8.mono b7.size)
      rw [decide_eq_true (rfl : O = O)]
      go_wp2_with fail
      refine (awake_any _).mono ?_
      rintro e w9 ⟨rfl, hb9⟩
      go_wp2_with fail
      go_ret
      exact ⟨rfl, b8.trans (hb9.mono b8.size)⟩
    · go_enter Try.func4, Try.ntmps4
      go_wp2_with fail
      refine (great_any _ 1 1 [s] _ (strs1 w s) (by simpa using hs)).mono ?_
      rintro e w1 ⟨rfl, rfl⟩
      rw [hg]
      go_wp2_with fail
      refine (many_any A n c l _ h1 hl 10000 (by omega)).mono ?_
      rintro e w1 ⟨rfl, rfl⟩
      rw [hm]
      go_wp2_with fail
      refine (awake_any _).mono ?_
      rintro e w2 ⟨rfl, hb2⟩
      go_wp2_with fail
      go_ret
      exact ⟨rfl, hb1.trans (hb2.mono (by simp))⟩
  · go_enter Try.func4, Try.ntmps4
    go_wp2_with fail
    refine (great_any _ 1 1 [s] _ (strs1 w s) (by simpa using hs)).mono ?_
    rintro e w1 ⟨rfl, rfl⟩
    rw [hg]
    go_wp2_with fail
    refine (awake_any _).mono ?_
    rintro e w2 ⟨rfl, hb2⟩
    go_wp2_with fail
    go_ret
    exact ⟨rfl, hb1.trans (hb2.mono (by simp))⟩
end Go.Proofs.Ytlgpdmejnabinaa
