/- Contract of digest.climb, Verify. -/
import Derived.Test.YtlgpdmejnabinaaRoot
namespace Go.Proofs.Ytlgpdmejnabinaa
open Go.RowKit

def climbF (leaf : ByteArray) : Nat → Nat → Nat → List ByteArray → ByteArray × Bool
  | 0, _, _, _ => (⟨#[]⟩, false)
  | f + 1, i, n, p =>
    if n = 1 then (leaf, decide (p.length = 0))
    else if p.length = 0 then (⟨#[]⟩, false)
    else if i < cutN n then (nodeB (climbF leaf f i (cutN n) (p.take (p.length - 1))).1 (p.getD (p.length - 1) ByteArray.empty), (climbF leaf f i (cutN n) (p.take (p.length - 1))).2)
    else (nodeB (p.getD (p.length - 1) ByteArray.empty) (climbF leaf f (i - cutN n) (n - cutN n) (p.take (p.length - 1))).1, (climbF leaf f (i - cutN n) (n - cutN n) (p.take (p.length - 1))).2)
/-- the root that a path leads to, and whether it has the right length -/
def climbB (leaf : ByteArray) (i n : Nat) (p : List ByteArray) : ByteArray × Bool := climbF leaf (p.length + 1) i n p
theorem climbB_leaf (leaf : ByteArray) (i : Nat) (p : List ByteArray) : climbB leaf i 1 p = (leaf, decide (p.length = 0)) := by rw [climbB, climbF, if_pos rfl]
theorem climbB_none (leaf : ByteArray) (i n : Nat) (p : List ByteArray) (hn : n ≠ 1) (hp : p.length = 0) : climbB leaf i n p = (⟨#[]⟩, false) := by rw [climbB, climbF, if_neg hn, if_pos hp]
theorem climbB_left (leaf : ByteArray) (i n : Nat) (p : List ByteArray) (hn : n ≠ 1) (hp : p.length ≠ 0) (hi : i < cutN n) :
    climbB leaf i n p = (nodeB (climbB leaf i (cutN n) (p.take (p.length - 1))).1 (p.getD (p.length - 1) ByteArray.empty), (climbB leaf i (cutN n) (p.take (p.length - 1))).2) := by
  have e : (p.take (p.length - 1)).length + 1 = p.length := by simp; omega
  rw [climbB, climbF, if_neg hn, if_neg hp, if_pos hi, climbB, e]
theorem climbB_right (leaf : ByteArray) (i n : Nat) (p : List ByteArray) (hn : n ≠ 1) (hp : p.length ≠ 0) (hi : ¬ i < cutN n) :
    climbB leaf i n p = (nodeB (p.getD (p.length - 1) ByteArray.empty) (climbB leaf (i - cutN n) (n - cutN n) (p.take (p.length - 1))).1, (climbB leaf (i - cutN n) (n - cutN n) (p.take (p.length - 1))).2) := by
  have e : (p.take (p.length - 1)).length + 1 = p.length := by simp; omega
  rw [climbB, climbF, if_neg hn, if_neg hp, if_neg hi, climbB, e]
theorem climbF_size (leaf : ByteArray) (f i n : Nat) (p : List ByteArray) (h : leaf.size ≤ 1000000) : (climbF leaf f i n p).1.size ≤ 1000000 := by
  cases f with
  | zero => exact Nat.zero_le _
  | succ f =>
    rw [climbF]
    split
    · exact h
    · split
      · exact Nat.zero_le _
      · split
        · show (dig _).size ≤ _; rw [dig_size]; omega
        · show (dig _).size ≤ _; rw [dig_size]; omega
theorem climbB_size (leaf : ByteArray) (i n : Nat) (p : List ByteArray) (h : leaf.size ≤ 1000000) : (climbB leaf i n p).1.size ≤ 1000000 := climbF_size _ _ _ _ _ h
def RetSB (r : ByteArray × Bool) (w : World) (e : Ending) (w' : World) : Prop := e = .returned (.tuple #[.string r.1, .bool r.2]) ∧ Below w.heap.size w w'
set_option maxHeartbeats 2000000 in
set_option maxRecDepth 100000 in
theorem climb_any (m : Nat) : ∀ (leaf : ByteArray) (i n : Nat) (A : Option Addr) (np c : Nat) (p : List ByteArray) (w : World), np ≤ m → i < n → n ≤ 1024 → np ≤ 1000000 → leaf.size ≤ 1000000 → Strs w A np c p → (∀ x ∈ p, x.size ≤ 1000000) →
    Calls Try.prog 45 #[.string leaf, .int .i64 (i : Int), .int .i64 (n : Int), .slice A np c] w (RetSB (climbB leaf i n p) w) := by
  induction m with
  | zero =>
    intro leaf i n A np c p w hm hi hn hnp hs h hp
    obtain rfl : np = 0 := by omega
    by_cases hn1 : n = 1
    · subst hn1
      have hlen := Lib.hid h.len
      go_enter Try.func45, Try.ntmps45
      go_wp2_with fail
      go_ret2
      exact ⟨by rw [climbB_leaf, hlen.out]; rfl, Below.refl _ _⟩
    · have hd1 : ((n : Int) == 1) = false := beq_eq_false_iff_ne.2 (by omega)
      have hlen := Lib.hid h.len
      go_enter Try.func45, Try.ntmps45
      go_wp2_with fail
      go_ret2
      exact ⟨by rw [climbB_none _ _ _ _ hn1 hlen.out]; rfl, Below.refl _ _⟩
  | succ m ih =>
    intro leaf i n A np c p w hm hi hn hnp hs h hp
    have IH := Lib.hid ih
    have HP := Lib.hid hp
    have hlen := Lib.hid h.len
    clear ih hp
    by_cases hn1 : n = 1
    · subst hn1
      have hdz : ((np : Int) == 0) = decide (np = 0) := by simp [Bool.beq_eq_decide_eq]
      go_enter Try.func45, Try.ntmps45
      go_wp2_with fail
      go_ret2
      exact ⟨by rw [climbB_leaf, hlen.out, ← hdz]; rfl, Below.refl _ _⟩
    · have hd1 : ((n : Int) == 1) = false := beq_eq_false_iff_ne.2 (by omega)
      rcases Nat.eq_zero_or_pos np with h0 | h0
      · subst h0
        go_enter Try.func45, Try.ntmps45
        go_wp2_with fail
        go_ret2
        exact ⟨by rw [climbB_none _ _ _ _ hn1 hlen.out]; rfl, Below.refl _ _⟩
      · have hd0 : ((np : Int) == 0) = false := beq_eq_false_iff_ne.2 (by omega)
        obtain ⟨q, hq⟩ : ∃ q : Nat, np = q + 1 := ⟨np - 1, by omega⟩
        have hw1 : (np : Int) - 1 = (q : Int) := by omega
        have hcap := h.cap
        obtain ⟨b, o, rfl, hbb, hcell⟩ := h.at_ h0
        have hc0 := hcell q (by omega)
        have hys := HP.out _ (getD_mem p q (by rw [hlen.out]; omega))
        clear hcell
        generalize hy : p.getD q ByteArray.empty = y at *
        have HC0 := Lib.hid hc0
        have HYP := Lib.hid hy
        have t1 := h.take q (by omega)
        have z1 : ∀ x ∈ p.take q, x.size ≤ 1000000 := fun x hx => HP.out x (List.mem_of_mem_take hx)
        have T := Lib.hid (And.intro t1 z1)
        have hqi : (q : Int) < (np : Int) := by omega
        have hqc : (q : Int) ≤ (c : Int) := by omega
        have hk1 := cutN_pos n (by omega)
        have hk2 := cutN_lt n (by omega)
        have HQ := Lib.hid hq
        clear t1 z1 hq hy hc0
        obtain ⟨k, hk⟩ : ∃ k, k = cutN n := ⟨_, rfl⟩
        have hcut : ∀ W, Calls Try.prog 58 #[.int .i64 (n : Int)] W fun e w' => e = .returned (.int .i64 (k : Int)) ∧ w' = W := fun W => by rw [hk]; exact cut_any n W (by omega)
        rw [← hk] at hk1 hk2
        have HK := Lib.hid hk
        have HCUT := Lib.hid hcut
        clear hk hcut
        have hqe : np = q + 1 := HQ.out
        by_cases hik : i < k
        · have hdk : decide ((i : Int) < (k : Int)) = true := by simp; omega
          have hqq : np ≤ q + 1 := by omega
          have hqq2 : q + 1 ≤ np := by omega
          clear hqe
          go_enter Try.func45, Try.ntmps45
          go_wp2_with fail
          refine (HCUT.out _).mono ?_
          rintro e w1 ⟨rfl, rfl⟩
          · skip
            have hr := climbB_size leaf i k (p.take q) hs
            go_wp2_with fail
            refine (IH.out leaf i k _ q c (p.take q) _ (by omega) (by omega) (by omega) (by omega) hs T.out.1 T.out.2).mono ?_
            rintro e w2 ⟨rfl, hb2⟩
            have hc2 : w2.cell? ⟨b, o + q, none⟩ = some (.string y) := by rw [hb2.cell (by simpa using hbb)]; exact HC0.out
            generalize hrr : climbB leaf i k (p.take q) = r at *
            have HY := Lib.hid hrr
            clear hrr
            go_wp2_with fail
            refine (node_any r.1 y _ (by omega) (by omega)).mono ?_
            rintro e w3 ⟨rfl, hb3⟩
            go_wp2_with fail
            go_ret2
            refine ⟨?_, hb2.trans (hb3.mono hb2.size)⟩
            rw [climbB_left leaf i n p hn1 (by rw [hlen.out]; omega) (by rw [← HK.out]; omega), hlen.out, ← HK.out, show np - 1 = q by omega, HYP.out, HY.out]
            rfl
        · have hdk : decide ((i : Int) < (k : Int)) = false := by simp; omega
          have hqq : np ≤ q + 1 := by omega
          have hqq2 : q + 1 ≤ np := by omega
          have hwi : (i : Int) - (k : Int) = ((i - k : Nat) : Int) := by omega
          have hwn : (n : Int) - (k : Int) = ((n - k : Nat) : Int) := by omega
          clear hqe
          go_enter Try.func45, Try.ntmps45
          go_wp2_with fail
          refine (HCUT.out _).mono ?_
          rintro e w1 ⟨rfl, rfl⟩
          · skip
            have hr := climbB_size leaf (i - k) (n - k) (p.take q) hs
            go_wp2_with fail
            refine (IH.out leaf (i - k) (n - k) _ q c (p.take q) _ (by omega) (by omega) (by omega) (by omega) hs T.out.1 T.out.2).mono ?_
            rintro e w2 ⟨rfl, hb2⟩
            have hc2 : w2.cell? ⟨b, o + q, none⟩ = some (.string y) := by rw [hb2.cell (by simpa using hbb)]; exact HC0.out
            generalize hrr : climbB leaf (i - k) (n - k) (p.take q) = r at *
            have HY := Lib.hid hrr
            clear hrr
            go_wp2_with fail
            refine (node_any y r.1 _ (by omega) (by omega)).mono ?_
            rintro e w3 ⟨rfl, hb3⟩
            go_wp2_with fail
            go_ret2
            refine ⟨?_, hb2.trans (hb3.mono hb2.size)⟩
            rw [climbB_right leaf i n p hn1 (by rw [hlen.out]; omega) (by rw [← HK.out]; omega), hlen.out, ← HK.out, show np - 1 = q by omega, HYP.out, HY.out]
            rfl
def RetBC (r : Bool × Int) (w : World) (e : Ending) (w' : World) : Prop := e = .returned (.tuple #[.bool r.1, .int .i64 r.2]) ∧ Below w.heap.size w w'
set_option maxRecDepth 100000 in
theorem verify_big (root s : ByteArray) (i n : Int) (A : Option Addr) (np c : Nat) (w : World) (hn : 1024 < n) :
    Calls Try.prog 24 #[.string root, .string s, .int .i64 i, .int .i64 n, .slice A np c] w (RetBC (false, 4) w) := by
  have hd : decide (1024 < n) = true := by simpa using hn
  go_enter Try.func24, Try.ntmps24
  go_wp2_with fail
  go_ret2
  exact ⟨rfl, Below.refl _ _⟩
set_option maxRecDepth 100000 in
theorem verify_neg (root s : ByteArray) (i n : Int) (A : Option Addr) (np c : Nat) (w : World) (hn : n ≤ 1024) (hi : i < 0) :
    Calls Try.prog 24 #[.string root, .string s, .int .i64 i, .int .i64 n, .slice A np c] w (RetBC (false, 2) w) := by
  have hd : decide (1024 < n) = false := by simp; omega
  have hd1 : decide (i < 0) = true := by simpa using hi
  go_enter Try.func24, Try.ntmps24
  go_wp2_with fail
  go_ret2
  exact ⟨rfl, Below.refl _ _⟩
set_option maxRecDepth 100000 in
theorem verify_out (root s : ByteArray) (i n : Int) (A : Option Addr) (np c : Nat) (w : World) (hn : n ≤ 1024) (hi : 0 ≤ i) (hin : n ≤ i) :
    Calls Try.prog 24 #[.string root, .string s, .int .i64 i, .int .i64 n, .slice A np c] w (RetBC (false, 2) w) := by
  have hd : decide (1024 < n) = false := by simp; omega
  have hd1 : decide (i < 0) = false := by simp; omega
  have hd2 : decide (n ≤ i) = true := by simpa using hin
  go_enter Try.func24, Try.ntmps24
  go_wp2_with fail
  go_ret2
  exact ⟨rfl, Below.refl _ _⟩
set_option maxRecDepth 100000 in
theorem verify_in (root s : ByteArray) (i n : Nat) (A : Option Addr) (np c : Nat) (p : List ByteArray) (w : World) (hn : n ≤ 1024) (hi : i < n) (hnp : np ≤ 1000000) (hs : s.size ≤ 999999) (h : Strs w A np c p) (hp : ∀ x ∈ p, x.size ≤ 1000000) :
    Calls Try.prog 24 #[.string root, .string s, .int .i64 (i : Int), .int .i64 (n : Int), .slice A np c] w (RetBC ((climbB (dig (⟨#[0]⟩ ++ s)) i n p).2 && ((climbB (dig (⟨#[0]⟩ ++ s)) i n p).1.toList == root.toList), 0) w) := by
  have hd : decide (1024 < (n : Int)) = false := by simp; omega
  have hd1 : decide ((i : Int) < 0) = false := by simp
  have hd2 : decide ((n : Int) ≤ (i : Int)) = false := by simp; omega
  go_enter Try.func24, Try.ntmps24
  go_wp2_with fail
  refine (sum_dig _ _ (by simp only [append_size]; have : (⟨#[0]⟩ : ByteArray).size = 1 := rfl; omega)).mono ?_
  rintro e w1 ⟨rfl, hb1⟩
  go_wp2_with fail
  refine (climb_any np _ i n A np c p _ (Nat.le_refl _) hi hn hnp (by rw [dig_size]; omega) (h.below hb1) hp).mono ?_
  rintro e w2 ⟨rfl, hb2⟩
  generalize climbB (dig (⟨#[0]⟩ ++ s)) i n p = r at *
  obtain ⟨r1, r2⟩ := r
  cases r2
  · go_wp2_with fail
    go_ret2
    exact ⟨rfl, hb1.trans (hb2.mono hb1.size)⟩
  · go_wp2_with fail
    go_ret2
    exact ⟨rfl, hb1.trans (hb2.mono hb1.size)⟩
end Go.Proofs.Ytlgpdmejnabinaa
