/- The walk of fold. -/
import Derived.Test.YtlgpdmejnabinaaGrowP
import Derived.Test.YtlgpdmejnabinaaPath
import Derived.Test.YtlgpdmejnabinaaClimb
import Derived.Test.YtlgpdmejnabinaaRoots
namespace Go.Proofs.Ytlgpdmejnabinaa
open Go.RowKit

set_option maxHeartbeats 4000000 in
set_option maxRecDepth 100000 in
theorem fold_any (m : Nat) : ∀ (A : Option Addr) (n c q : Nat) (L : List ByteArray) (w : World), n ≤ m → n ≤ 1000000 → q ≤ 1000000 → foldOk q L → Strs w A n c L → (∀ x ∈ L, x.size ≤ 1000000) →
    Calls Try.prog 29 #[.int .i64 (q : Int), .slice A n c] w (RetSB (foldB q L, true) w) := by
  induction m with
  | zero =>
    intro A n c q L w hm hn hq hok h hL
    match L, hok with
    | x :: r, _ => have := h.len; simp at this; omega
  | succ m ih =>
    intro A n c q L w hm hn hq hok h hL
    match L, hok with
    | [x], _ =>
      have hlen := h.len
      simp at hlen
      subst hlen
      obtain ⟨b, o, rfl, hbb, hcell⟩ := h.at_ (by omega)
      have hc := hcell 0 (by omega)
      simp at hc
      clear hcell ih hL h
      go_enter Try.func29, Try.ntmps29
      go_wp2_with fail
      go_ret2
      exact ⟨rfl, Below.refl _ _⟩
    | x :: y :: r, hok =>
      obtain ⟨h2, hok⟩ := hok
      have hlen := h.len
      have hcap := h.cap
      have hn2 : 2 ≤ n := by rw [← hlen]; simp
      obtain ⟨b, o, rfl, hbb, hcell⟩ := h.at_ (by omega)
      have hc := hcell 0 (by omega)
      simp at hc
      have hx := hL x (by simp)
      have hdr := h.drop 1 (by omega)
      have HD := Lib.hid hdr
      have HL := Lib.hid hL
      have HO := Lib.hid hok
      have IH := Lib.hid ih
      have HC := Lib.hid hc
      clear hcell ih h hdr hL hlen hok hc
      have hk1 := cutN_pos q h2
      have hk2 := cutN_lt q h2
      obtain ⟨k, hk⟩ : ∃ k, k = cutN q := ⟨_, rfl⟩
      have hhalf : ∀ W, Calls Try.prog 23 #[.int .i64 (q : Int)] W fun e w' => e = .returned (.int .i64 (k : Int)) ∧ w' = W := fun W => by rw [hk]; exact half_any q W (by omega)
      rw [← hk] at hk1 hk2 HO
      have HK := Lib.hid hk
      have HH := Lib.hid hhalf
      clear hk hhalf
      obtain ⟨qq, hqq⟩ : ∃ qq : Nat, qq = q - k := ⟨_, rfl⟩
      rw [← hqq] at HO
      have hw1 : IntKind.i64.wrap ((q : Int) - (k : Int)) = (qq : Int) := by rw [IntWalk.i64_in _ (by omega)]; omega
      obtain ⟨n1, hn1⟩ : ∃ n1, n = n1 + 1 := ⟨n - 1, by omega⟩
      obtain ⟨c1, hc1⟩ : ∃ c1, c = c1 + 1 := ⟨c - 1, by omega⟩
      subst hn1 hc1
      have d1 : ((n1 : Int) + 1 == 1) = false := beq_eq_false_iff_ne.2 (by omega)
      have d0 : ((n1 : Int) + 1 == 0) = false := beq_eq_false_iff_ne.2 (by omega)
      have d2 : decide ((q : Int) < 2) = false := by simp; omega
      have hcc : ¬ c1 = 0 := by omega
      have HQQ := Lib.hid hqq
      have i1 : (1 : Int) ≤ (n1 : Int) + 1 := by omega
      have i2 : (n1 : Int) + 1 ≤ (c1 : Int) + 1 := by omega
      have HI := Lib.hid (fun W (hW : Strs W (some ⟨b, o + 1, none⟩) n1 c1 (y :: r)) => IH.out (some ⟨b, o + 1, none⟩) n1 c1 qq (y :: r) W (by omega) (by omega) (by omega) HO.out hW (fun z hz => HL.out z (List.mem_cons_of_mem _ hz)))
      have HD' : Hid (Strs w (some ⟨b, o + 1, none⟩) n1 c1 (y :: r)) := Lib.hid HD.out
      have hsz := foldB_size qq (y :: r) (fun z hz => HL.out z (List.mem_cons_of_mem _ hz))
      obtain ⟨z, hz⟩ : ∃ z, foldB qq (y :: r) = z := ⟨_, rfl⟩
      rw [hz] at HI hsz
      have HZ := Lib.hid hz
      clear hz IH HD hqq
      go_enter Try.func29, Try.ntmps29
      go_wp2_with fail
      go_region_law (first
        | (go_simp; go_at_call 23; refine (HH.out _).mono ?_; rintro e w1 ⟨rfl, rfl⟩)
        | (go_simp; go_at_call 29; refine (HI.out _ (Strs.drew HD'.out)).mono ?_; rintro e w2 ⟨rfl, hb2'⟩; have hb2 := below_undrew hb2'))
      all_goals
        have hc2 : w2.cell? ⟨b, o, none⟩ = some (.string x) := by rw [hb2.cell (by simpa using hbb)]; exact HC.out
        go_wp2_with fail
        refine (sum_dig _ _ (by simp only [append_size]; have : (⟨#[1]⟩ : ByteArray).size = 1 := rfl; omega)).mono ?_
        rintro e w3 ⟨rfl, hb3⟩
        go_wp2_with fail
        go_ret2
        refine ⟨?_, hb2.trans (hb3.mono hb2.size)⟩
        rw [foldB, ← HK.out, ← HQQ.out, HZ.out]
        rfl
end Go.Proofs.Ytlgpdmejnabinaa
