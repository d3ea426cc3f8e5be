/- The walk of DigestChecks. -/
import Derived.Test.YtlgpdmejnabinaaRefClimb
import Derived.Test.YtlgpdmejnabinaaRoots
namespace Go.Proofs.Ytlgpdmejnabinaa
open Go.RowKit

theorem strs2 (w : World) (s t : ByteArray) : Strs (w.alloc (.cells #[.string s, .string t] 9)) (some ⟨w.heap.size, 0, none⟩) 2 2 [s, t] :=
  ⟨rfl, Nat.le_refl _, by omega, fun _ => ⟨w.heap.size, 0, rfl, by simp, fun k hk => by
    rw [cell_of_row _ _ _ _ _ _ (heap_alloc_new w _)]
    rcases k with _ | _ | k
    · rfl
    · rfl
    · omega⟩⟩
theorem belowB (w : World) (o : Obj) : Below w.heap.size w (w.alloc o) := (Below.refl _ _).alloc (Nat.le_refl _) _
set_option maxHeartbeats 2000000 in
set_option maxRecDepth 100000 in
theorem checks_law (root s : ByteArray) (i n : Int) (A : Option Addr) (np c : Nat) (p : List ByteArray) (w : World) (hr : root.size ≤ 9223372036854775807) (hs : s.size ≤ 9223372036854775807)
    (_wi : (Lit.int .i64 i).wf = true) (_wn : (Lit.int .i64 n).wf = true) (h : Strs w A np c p) (hp : ∀ x ∈ p, x.size ≤ 9223372036854775807) :
    Calls Try.prog 6 #[.string root, .string s, .int .i64 i, .int .i64 n, .slice A np c] w fun e w' => e = .returned (.bool true) ∧ Below w.heap.size w w' := by
  have hb1 : Below w.heap.size w (w.alloc (.cells #[.string root, .string s] 9)) := belowB _ _
  have h1 := h.below hb1
  have hrs : ∀ x ∈ [root, s], x.size ≤ 9223372036854775807 := by
    intro x hx
    simp only [List.mem_cons, List.not_mem_nil, or_false] at hx
    rcases hx with rfl | rfl
    · exact hr
    · exact hs
  cases hg : greatB [root, s]
  · cases hgp : greatB p
    · obtain ⟨_, h200⟩ := not_great [root, s] hg
      obtain ⟨hp12, hp200⟩ := not_great p hgp
      have hs200 := h200 s (by simp)
      have hlen := h.len
      have hpair : ∃ r : Bool × Int, (∀ W : World, Strs W A np c p → Calls Try.prog 24 #[.string root, .string s, .int .i64 i, .int .i64 n, .slice A np c] W (RetBC r W)) ∧ (∀ W : World, Strs W A np c p → Calls Try.prog 25 #[.string root, .string s, .int .i64 i, .int .i64 n, .slice A np c] W (RetBC r W)) := by
        by_cases hn : 1024 < n
        · exact ⟨_, fun W _ => verify_big root s i n A np c W hn, fun W _ => refVerify_big root s i n A np c W hn⟩
        · by_cases hi : i < 0
          · exact ⟨_, fun W _ => verify_neg root s i n A np c W (by omega) hi, fun W _ => refVerify_neg root s i n A np c W (by omega) hi⟩
          · by_cases hin : n ≤ i
            · exact ⟨_, fun W _ => verify_out root s i n A np c W (by omega) (by omega) hin, fun W _ => refVerify_out root s i n A np c W (by omega) (by omega) hin⟩
            · obtain ⟨i', rfl⟩ := Int.eq_ofNat_of_zero_le (show 0 ≤ i by omega)
              obtain ⟨n', rfl⟩ := Int.eq_ofNat_of_zero_le (show 0 ≤ n by omega)
              have z : ∀ x ∈ p, x.size ≤ 1000000 := fun x hx => Nat.le_trans (hp200 x hx) (by omega)
              exact ⟨_, fun W hW => verify_in root s i' n' A np c p W (by omega) (by omega) (by omega) (by omega) hW z, fun W hW => refVerify_in root s i' n' A np c p W (by omega) (by omega) (by omega) (by omega) hW z⟩
      obtain ⟨⟨r1, r2⟩, hv1, hv2⟩ := hpair
      have H1 := Lib.hid hv1
      have H2 := Lib.hid hv2
      clear hv1 hv2 h200 hp200 hlen
      have e1 : (r1 == r1) = true := by simp
      have e2 : (r2 == r2) = true := by simp
      go_enter Try.func6, Try.ntmps6
      go_wp2_with fail
      refine (great_any _ 2 2 [root, s] _ (strs2 w root s) hrs).mono ?_
      rintro e w1 ⟨rfl, rfl⟩
      rw [hg]
      go_wp2_with fail
      refine (great_any A np c p _ h1 hp).mono ?_
      rintro e w1 ⟨rfl, rfl⟩
      rw [hgp]
      go_wp2_with fail
      refine (H1.out _ h1).mono ?_
      rintro e w2 ⟨rfl, hb2⟩
      have b2 : Below w.heap.size w w2 := hb1.trans (hb2.mono (by simp))
      go_wp2_with fail
      refine (H2.out _ (h.below b2)).mono ?_
      rintro e w3 ⟨rfl, hb3⟩
      have b3 : Below w.heap.size w w3 := b2.trans (hb3.mono b2.size)
      go_wp2_with fail
      refine (awake_any _).mono ?_
      rintro e w4 ⟨rfl, hb4⟩
      go_wp2_with fail
      go_ret
      exact ⟨rfl, b3.trans (hb4.mono b3.size)⟩
    · go_enter Try.func6, Try.ntmps6
      go_wp2_with fail
      refine (great_any _ 2 2 [root, s] _ (strs2 w root s) hrs).mono ?_
      rintro e w1 ⟨rfl, rfl⟩
      rw [hg]
      go_wp2_with fail
      refine (great_any A np c p _ h1 hp).mono ?_
      rintro e w1 ⟨rfl, rfl⟩
      rw [hgp]
      go_wp2_with fail
      refine (awake_any _).mono ?_
      rintro e w4 ⟨rfl, hb4⟩
      go_wp2_with fail
      go_ret
      exact ⟨rfl, hb1.trans (hb4.mono (by simp))⟩
  · go_enter Try.func6, Try.ntmps6
    go_wp2_with fail
    refine (great_any _ 2 2 [root, s] _ (strs2 w root s) hrs).mono ?_
    rintro e w1 ⟨rfl, rfl⟩
    rw [hg]
    go_wp2_with fail
    refine (awake_any _).mono ?_
    rintro e w4 ⟨rfl, hb4⟩
    go_wp2_with fail
    go_ret
    exact ⟨rfl, hb1.trans (hb4.mono (by simp))⟩
end Go.Proofs.Ytlgpdmejnabinaa
