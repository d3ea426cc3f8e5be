/- The walk of DigestRoots. -/
import Derived.Test.YtlgpdmejnabinaaRoot
namespace Go.Proofs.Ytlgpdmejnabinaa
open Go.RowKit

theorem half_any (n : Nat) (w : World) (hn : n ≤ 1000000) : Calls Try.prog 23 #[.int .i64 (n : Int)] w fun e w' => e = .returned (.int .i64 (cutN n : Int)) ∧ w' = w := by
  go_enter Try.func23, Try.ntmps23
  go_wp2_with fail
  go_loop [3] (fun i => ∃ f k : Nat, n ≤ f + k ∧ 1 ≤ k ∧ k ≤ n + 1 ∧ Hid (cutLoop f k n = cutN n) ∧ i = .int .i64 (k : Int)) (fun i => n + 1 - (intOf i).toNat)
  case atStart => exact ⟨n, 1, by omega, by omega, by omega, rfl, rfl⟩
  case round =>
    obtain ⟨f, k, h1, h2, h3, hc, rfl⟩ := hrel
    by_cases hlt : 2 * k < n
    · go_wp2_with fail
      go_round
      case rel =>
        refine ⟨f - 1, 2 * k, by omega, by omega, by omega, ?_, by go_num⟩
        show cutLoop (f - 1) (2 * k) n = cutN n
        have := hc.out
        rw [show f = (f - 1) + 1 by omega, cutLoop, if_pos hlt] at this
        exact this
      case measure => simp [intOf]; omega
    · go_wp2_with fail
      go_ret
      have := hc.out
      rw [cutLoop_stop _ _ _ hlt] at this
      exact ⟨by rw [← this]; rfl, rfl⟩
theorem not_great (l : List ByteArray) (h : greatB l = false) : l.length ≤ 12 ∧ ∀ x ∈ l, x.size ≤ 200 := by
  simp only [greatB, Bool.or_eq_false_iff, decide_eq_false_iff_not, List.any_eq_false] at h
  refine ⟨by omega, fun x hx => ?_⟩
  have := h.2 x hx
  simp only [big, decide_eq_true_eq] at this
  omega
set_option maxHeartbeats 2000000 in
set_option maxRecDepth 100000 in
theorem roots_law (A : Option Addr) (n c : Nat) (l : List ByteArray) (w : World) (h : Strs w A n c l) (hl : ∀ x ∈ l, x.size ≤ 9223372036854775807) :
    Calls Try.prog 5 #[.slice A n c] w fun e w' => e = .returned (.bool true) ∧ Below w.heap.size w w' := by
  cases hg : greatB l
  · obtain ⟨h12, h200⟩ := not_great l hg
    have hlen := Lib.hid h.len
    have hn12 : n ≤ 12 := by rw [← h.len]; exact h12
    have z : ∀ x ∈ l, x.size ≤ 1000000 := fun x hx => Nat.le_trans (h200 x hx) (by omega)
    have Z := Lib.hid (And.intro z h200)
    clear z h200 h12
    rcases Nat.lt_or_ge n 2 with h2 | h2
    · rcases Nat.eq_zero_or_pos n with h0 | h0
      · subst h0
        go_enter Try.func5, Try.ntmps5
        go_wp2_with fail
        refine (great_any A 0 c l _ h hl).mono ?_
        rintro e w1 ⟨rfl, rfl⟩
        rw [hg]
        go_wp2_with fail
        refine (Root_any A 0 c l _ (by omega) h Z.out.1).mono ?_
        rintro e w2 ⟨rfl, hb2⟩
        rw [rootB_none l hlen.out]
        go_wp2_with fail
        refine (sum_dig ⟨#[]⟩ _ (by decide)).mono ?_
        rintro e w3 ⟨rfl, hb3⟩
        go_wp2_with fail
        refine (awake_any _).mono ?_
        rintro e w4 ⟨rfl, hb4⟩
        go_wp2_with fail
        go_ret
        have b3 := hb2.trans (hb3.mono hb2.size)
        exact ⟨rfl, b3.trans (hb4.mono b3.size)⟩
      · obtain rfl : n = 1 := by omega
        obtain ⟨b, o, rfl, hb, hcell⟩ := h.at_ (by omega)
        clear hcell
        go_enter Try.func5, Try.ntmps5
        go_wp2_with fail
        refine (great_any _ 1 c l _ h hl).mono ?_
        rintro e w1 ⟨rfl, rfl⟩
        rw [hg]
        go_wp2_with fail
        refine (Root_any _ 1 c l _ (by omega) h Z.out.1).mono ?_
        rintro e w2 ⟨rfl, hb2⟩
        obtain ⟨b', o', e0, _, hcell⟩ := (h.below hb2).at_ (by omega)
        cases e0
        have hc := hcell 0 (by omega)
        simp only [Nat.add_zero] at hc
        have hsz := Z.out.1 _ (getD_mem l 0 (by rw [hlen.out]; omega))
        rw [rootB_one l hlen.out]
        generalize l.getD 0 ByteArray.empty = x at *
        clear hcell
        go_wp2_with fail
        refine (sum_dig _ _ (by simp only [append_size]; have : (⟨#[0]⟩ : ByteArray).size = 1 := rfl; omega)).mono ?_
        rintro e w3 ⟨rfl, hb3⟩
        go_wp2_with fail
        refine (awake_any _).mono ?_
        rintro e w4 ⟨rfl, hb4⟩
        go_wp2_with fail
        go_ret
        have b3 := hb2.trans (hb3.mono hb2.size)
        exact ⟨rfl, b3.trans (hb4.mono b3.size)⟩
    · obtain ⟨b, o, rfl, hb, hcell⟩ := h.at_ (by omega)
      clear hcell
      have d0 : ((n : Int) == 0) = false := beq_eq_false_iff_ne.2 (by omega)
      have d1 : ((n : Int) == 1) = false := beq_eq_false_iff_ne.2 (by omega)
      have hk1 := cutN_pos n h2
      have hk2 := cutN_lt n h2
      have hcap := h.cap
      go_enter Try.func5, Try.ntmps5
      go_wp2_with fail
      refine (great_any _ n c l _ h hl).mono ?_
      rintro e w1 ⟨rfl, rfl⟩
      rw [hg]
      go_wp2_with fail
      refine (Root_any _ n c l _ (by omega) h Z.out.1).mono ?_
      rintro e w2 ⟨rfl, hb2⟩
      go_wp2_with fail
      refine (half_any n _ (by omega)).mono ?_
      rintro e w2 ⟨rfl, rfl⟩
      obtain ⟨k, hk⟩ : ∃ k, k = cutN n := ⟨_, rfl⟩
      rw [← hk] at hk1 hk2 ⊢
      have HK := Lib.hid hk
      clear hk
      have b1 : (k : Int) ≤ (c : Int) := by omega
      have b2 : (k : Int) ≤ (n : Int) := by omega
      have hne : c ≠ k := by omega
      go_wp2_with fail
      refine (Root_any _ k c (l.take k) _ (by omega) ((h.below hb2).take k (by omega)) (fun x hx => Z.out.1 x (List.mem_of_mem_take hx))).mono ?_
      rintro e w3 ⟨rfl, hb3⟩
      have bw3 := hb2.trans (hb3.mono hb2.size)
      go_wp2_with fail
      refine (Root_any _ (n - k) (c - k) (l.drop k) _ (by omega) ((h.below bw3).drop k (by omega)) (fun x hx => Z.out.1 x (List.mem_of_mem_drop hx))).mono ?_
      rintro e w4 ⟨rfl, hb4⟩
      have bw4 := bw3.trans (hb4.mono bw3.size)
      have hroot : rootB l = nodeB (rootB (l.take k)) (rootB (l.drop k)) := by rw [rootB_two l (by rw [hlen.out]; omega), hlen.out, ← HK.out]
      have hs1 := rootB_size (l.take k)
      have hs2 := rootB_size (l.drop k)
      rw [hroot]
      clear hroot
      unfold nodeB
      generalize rootB (l.take k) = R1 at *
      generalize rootB (l.drop k) = R2 at *
      have hs1' : R1.size ≤ 32 := by omega
      have hs2' : R2.size ≤ 32 := by omega
      clear hs1 hs2
      go_wp2_with fail
      refine (sum_dig _ _ (by simp only [append_size]; have : (⟨#[1]⟩ : ByteArray).size = 1 := rfl; omega)).mono ?_
      rintro e w5 ⟨rfl, hb5⟩
      have bw5 := bw4.trans (hb5.mono bw4.size)
      go_wp2_with fail
      refine (awake_any _).mono ?_
      rintro e w6 ⟨rfl, hb6⟩
      go_wp2_with fail
      go_ret
      exact ⟨rfl, bw5.trans (hb6.mono bw5.size)⟩
  · go_enter Try.func5, Try.ntmps5
    go_wp2_with fail
    refine (great_any A n c l _ h hl).mono ?_
    rintro e w1 ⟨rfl, rfl⟩
    rw [hg]
    go_wp2_with fail
    refine (awake_any _).mono ?_
    rintro e w2 ⟨rfl, hb2⟩
    go_wp2_with fail
    go_ret
    exact ⟨rfl, hb2⟩
end Go.Proofs.Ytlgpdmejnabinaa
