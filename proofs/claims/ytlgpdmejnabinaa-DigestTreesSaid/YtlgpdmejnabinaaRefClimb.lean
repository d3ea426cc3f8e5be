/- Contract of the reference's climb, Verify. -/
import Derived.Test.YtlgpdmejnabinaaClimb
import Derived.Test.YtlgpdmejnabinaaMany
namespace Go.Proofs.Ytlgpdmejnabinaa
open Go.RowKit

theorem refHalf_any (n : Nat) (w : World) (hn : n ≤ 1000000) : Calls Try.prog 60 #[.int .i64 (n : Int)] w fun e w' => e = .returned (.int .i64 (cutN n : Int)) ∧ w' = w := by
  go_enter Try.func60, Try.ntmps60
  go_wp2_with fail
  go_loop [3] (fun i => ∃ f k : Nat, n ≤ f + k ∧ 1 ≤ k ∧ k ≤ n + 1 ∧ Hid (cutLoop f k n = cutN n) ∧ i = .int .i64 (k : Int)) (fun i => n + 1 - (intOf i).toNat)
  case atStart => exact ⟨n, 1, by omega, by omega, by omega, rfl, rfl⟩
  case round =>
    obtain ⟨f, k, h1, h2, h3, hc, rfl⟩ := hrel
    by_cases hlt : 2 * k < n
    · go_wp2_with fail
      go_round
      case rel =>
        refine ⟨f - 1, 2 * k, by omega, by omega, by omega, ?_, by go_num⟩
        show cutLoop (f - 1) (2 * k) n = cutN n
        have := hc.out
        rw [show f = (f - 1) + 1 by omega, cutLoop, if_pos hlt] at this
        exact this
      case measure => simp [intOf]; omega
    · go_wp2_with fail
      go_ret
      have := hc.out
      rw [cutLoop_stop _ _ _ hlt] at this
      exact ⟨by rw [← this]; rfl, rfl⟩
set_option maxHeartbeats 2000000 in
set_option maxRecDepth 100000 in
theorem refClimb_any (m : Nat) : ∀ (s : ByteArray) (i n : Nat) (A : Option Addr) (np c : Nat) (p : List ByteArray) (w : World), np ≤ m → i < n → n ≤ 1024 → np ≤ 1000000 → s.size ≤ 1000000 → Strs w A np c p → (∀ x ∈ p, x.size ≤ 1000000) →
    Calls Try.prog 46 #[.string s, .int .i64 (i : Int), .int .i64 (n : Int), .slice A np c] w (RetSB (climbB (dig (⟨#[0]⟩ ++ s)) i n p) w) := by
  induction m with
  | zero =>
    intro s i n A np c p w hm hi hn hnp hs h hp
    obtain rfl : np = 0 := by omega
    by_cases hn1 : n = 1
    · subst hn1
      have hlen := Lib.hid h.len
      go_enter Try.func46, Try.ntmps46
      go_wp2_with fail
      refine (refSum_dig _ _ (by simp only [append_size]; have : (⟨#[0]⟩ : ByteArray).size = 1 := rfl; omega)).mono ?_
      rintro e w1 ⟨rfl, hb1⟩
      go_wp2_with fail
      go_ret2
      exact ⟨by rw [climbB_leaf, hlen.out]; rfl, hb1⟩
    · have hd1 : ((n : Int) == 1) = false := beq_eq_false_iff_ne.2 (by omega)
      have hlen := Lib.hid h.len
      go_enter Try.func46, Try.ntmps46
      go_wp2_with fail
      go_ret2
      exact ⟨by rw [climbB_none _ _ _ _ hn1 hlen.out]; rfl, Below.refl _ _⟩
  | succ m ih =>
    intro s i n A np c p w hm hi hn hnp hs h hp
    have IH := Lib.hid ih
    have HP := Lib.hid hp
    have hlen := Lib.hid h.len
    clear ih hp
    by_cases hn1 : n = 1
    · subst hn1
      have hdz : ((np : Int) == 0) = decide (np = 0) := by simp [Bool.beq_eq_decide_eq]
      go_enter Try.func46, Try.ntmps46
      go_wp2_with fail
      refine (refSum_dig _ _ (by simp only [append_size]; have : (⟨#[0]⟩ : ByteArray).size = 1 := rfl; omega)).mono ?_
      rintro e w1 ⟨rfl, hb1⟩
      go_wp2_with fail
      go_ret2
      exact ⟨by rw [climbB_leaf, hlen.out, ← hdz]; rfl, hb1⟩
    · have hd1 : ((n : Int) == 1) = false := beq_eq_false_iff_ne.2 (by omega)
      rcases Nat.eq_zero_or_pos np with h0 | h0
      · subst h0
        go_enter Try.func46, Try.ntmps46
        go_wp2_with fail
        go_ret2
        exact ⟨by rw [climbB_none _ _ _ _ hn1 hlen.out]; rfl, Below.refl _ _⟩
      · have hd0 : ((np : Int) == 0) = false := beq_eq_false_iff_ne.2 (by omega)
        obtain ⟨q, hq⟩ : ∃ q : Nat, np = q + 1 := ⟨np - 1, by omega⟩
        have hw1 : (np : Int) - 1 = (q : Int) := by omega
        have hcap := h.cap
        obtain ⟨b, o, rfl, hbb, hcell⟩ := h.at_ h0
        have hc0 := hcell q (by omega)
        have hys := HP.out _ (getD_mem p q (by rw [hlen.out]; omega))
        clear hcell
        generalize hy : p.getD q ByteArray.empty = y at *
        have HC0 := Lib.hid hc0
        have HYP := Lib.hid hy
        have t1 := h.take q (by omega)
        have z1 : ∀ x ∈ p.take q, x.size ≤ 1000000 := fun x hx => HP.out x (List.mem_of_mem_take hx)
        have T := Lib.hid (And.intro t1 z1)
        have hqi : (q : Int) < (np : Int) := by omega
        have hqc : (q : Int) ≤ (c : Int) := by omega
        have hk1 := cutN_pos n (by omega)
        have hk2 := cutN_lt n (by omega)
        have HQ := Lib.hid hq
        clear t1 z1 hq hy
        obtain ⟨k, hk⟩ : ∃ k, k = cutN n := ⟨_, rfl⟩
        have hcut : ∀ W, Calls Try.prog 60 #[.int .i64 (n : Int)] W fun e w' => e = .returned (.int .i64 (k : Int)) ∧ w' = W := fun W => by rw [hk]; exact refHalf_any n W (by omega)
        rw [← hk] at hk1 hk2
        have HK := Lib.hid hk
        have HCUT := Lib.hid hcut
        clear hk hcut
        have hqe : np = q + 1 := HQ.out
        by_cases hik : i < k
        · have hdk : decide ((i : Int) < (k : Int)) = true := by simp; omega
          have hqq : np ≤ q + 1 := by omega
          have hqq2 : q + 1 ≤ np := by omega
          clear hqe
          go_enter Try.func46, Try.ntmps46
          go_wp2_with fail
          refine (HCUT.out _).mono ?_
          rintro e w1 ⟨rfl, rfl⟩
          · skip
            have hr := climbB_size (dig (⟨#[0]⟩ ++ s)) i k (p.take q) (by rw [dig_size]; omega)
            go_wp2_with fail
            refine (IH.out s i k _ q c (p.take q) _ (by omega) (by omega) (by omega) (by omega) hs T.out.1 T.out.2).mono ?_
            rintro e w2 ⟨rfl, hb2⟩
            have hc2 : w2.cell? ⟨b, o + q, none⟩ = some (.string y) := by rw [hb2.cell (by simpa using hbb)]; exact HC0.out
            generalize hrr : climbB (dig (⟨#[0]⟩ ++ s)) i k (p.take q) = r at *
            have HY := Lib.hid hrr
            clear hrr
            go_wp2_with fail
            refine (refSum_dig _ _ ?hz).mono ?_
            case hz => simp only [append_size]; have : (⟨#[1]⟩ : ByteArray).size = 1 := rfl; omega
            rintro e w3 ⟨rfl, hb3⟩
            go_wp2_with fail
            go_ret2
            refine ⟨?_, hb2.trans (hb3.mono hb2.size)⟩
            rw [climbB_left (dig (⟨#[0]⟩ ++ s)) i n p hn1 (by rw [hlen.out]; omega) (by rw [← HK.out]; omega), hlen.out, ← HK.out, show np - 1 = q by omega, HYP.out, HY.out]
            rfl
        · have hdk : decide ((i : Int) < (k : Int)) = false := by simp; omega
          have hqq : np ≤ q + 1 := by omega
          have hqq2 : q + 1 ≤ np := by omega
          have hwi : (i : Int) - (k : Int) = ((i - k : Nat) : Int) := by omega
          have hwn : (n : Int) - (k : Int) = ((n - k : Nat) : Int) := by omega
          clear hqe
          go_enter Try.func46, Try.ntmps46
          go_wp2_with fail
          refine (HCUT.out _).mono ?_
          rintro e w1 ⟨rfl, rfl⟩
          · skip
            have hr := climbB_size (dig (⟨#[0]⟩ ++ s)) (i - k) (n - k) (p.take q) (by rw [dig_size]; omega)
            go_wp2_with fail
            refine (IH.out s (i - k) (n - k) _ q c (p.take q) _ (by omega) (by omega) (by omega) (by omega) hs T.out.1 T.out.2).mono ?_
            rintro e w2 ⟨rfl, hb2⟩
            have hc2 : w2.cell? ⟨b, o + q, none⟩ = some (.string y) := by rw [hb2.cell (by simpa using hbb)]; exact HC0.out
            generalize hrr : climbB (dig (⟨#[0]⟩ ++ s)) (i - k) (n - k) (p.take q) = r at *
            have HY := Lib.hid hrr
            clear hrr
            go_wp2_with fail
            refine (refSum_dig _ _ ?hz).mono ?_
            case hz => simp only [append_size]; have : (⟨#[1]⟩ : ByteArray).size = 1 := rfl; omega
            rintro e w3 ⟨rfl, hb3⟩
            go_wp2_with fail
            go_ret2
            refine ⟨?_, hb2.trans (hb3.mono hb2.size)⟩
            rw [climbB_right (dig (⟨#[0]⟩ ++ s)) i n p hn1 (by rw [hlen.out]; omega) (by rw [← HK.out]; omega), hlen.out, ← HK.out, show np - 1 = q by omega, HYP.out, HY.out]
            rfl
set_option maxRecDepth 100000 in
theorem refVerify_big (root s : ByteArray) (i n : Int) (A : Option Addr) (np c : Nat) (w : World) (hn : 1024 < n) :
    Calls Try.prog 25 #[.string root, .string s, .int .i64 i, .int .i64 n, .slice A np c] w (RetBC (false, 4) w) := by
  have hd : decide (1024 < n) = true := by simpa using hn
  go_enter Try.func25, Try.ntmps25
  go_wp2_with fail
  go_ret2
  exact ⟨rfl, Below.refl _ _⟩
set_option maxRecDepth 100000 in
theorem refVerify_neg (root s : ByteArray) (i n : Int) (A : Option Addr) (np c : Nat) (w : World) (hn : n ≤ 1024) (hi : i < 0) :
    Calls Try.prog 25 #[.string root, .string s, .int .i64 i, .int .i64 n, .slice A np c] w (RetBC (false, 2) w) := by
  have hd : decide (1024 < n) = false := by simp; omega
  have hd1 : decide (i < 0) = true := by simpa using hi
  go_enter Try.func25, Try.ntmps25
  go_wp2_with fail
  go_ret2
  exact ⟨rfl, Below.refl _ _⟩
set_option maxRecDepth 100000 in
theorem refVerify_out (root s : ByteArray) (i n : Int) (A : Option Addr) (np c : Nat) (w : World) (hn : n ≤ 1024) (hi : 0 ≤ i) (hin : n ≤ i) :
    Calls Try.prog 25 #[.string root, .string s, .int .i64 i, .int .i64 n, .slice A np c] w (RetBC (false, 2) w) := by
  have hd : decide (1024 < n) = false := by simp; omega
  have hd1 : decide (i < 0) = false := by simp; omega
  have hd2 : decide (n ≤ i) = true := by simpa using hin
  go_enter Try.func25, Try.ntmps25
  go_wp2_with fail
  go_ret2
  exact ⟨rfl, Below.refl _ _⟩
set_option maxRecDepth 100000 in
theorem refVerify_in (root s : ByteArray) (i n : Nat) (A : Option Addr) (np c : Nat) (p : List ByteArray) (w : World) (hn : n ≤ 1024) (hi : i < n) (hnp : np ≤ 1000000) (hs : s.size ≤ 999999) (h : Strs w A np c p) (hp : ∀ x ∈ p, x.size ≤ 1000000) :
    Calls Try.prog 25 #[.string root, .string s, .int .i64 (i : Int), .int .i64 (n : Int), .slice A np c] w (RetBC ((climbB (dig (⟨#[0]⟩ ++ s)) i n p).2 && ((climbB (dig (⟨#[0]⟩ ++ s)) i n p).1.toList == root.toList), 0) w) := by
  have hd : decide (1024 < (n : Int)) = false := by simp; omega
  have hd1 : decide ((i : Int) < 0) = false := by simp
  have hd2 : decide ((n : Int) ≤ (i : Int)) = false := by simp; omega
  go_enter Try.func25, Try.ntmps25
  go_wp2_with fail
  have hb1 : Below w.heap.size w w := Below.refl _ _
  refine (refClimb_any np s i n A np c p _ (Nat.le_refl _) hi hn hnp (by omega) h hp).mono ?_
  rintro e w2 ⟨rfl, hb2⟩
  generalize climbB (dig (⟨#[0]⟩ ++ s)) i n p = r at *
  obtain ⟨r1, r2⟩ := r
  cases r2
  · go_wp2_with fail
    go_ret2
    exact ⟨rfl, hb1.trans (hb2.mono hb1.size)⟩
  · go_wp2_with fail
    go_ret2
    exact ⟨rfl, hb1.trans (hb2.mono hb1.size)⟩
end Go.Proofs.Ytlgpdmejnabinaa
