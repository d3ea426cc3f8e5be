/- The reference's tree. -/
import Derived.Test.YtlgpdmejnabinaaMany
import Derived.Test.YtlgpdmejnabinaaRefClimb
import Derived.Test.YtlgpdmejnabinaaPath
namespace Go.Proofs.Ytlgpdmejnabinaa
open Go.RowKit

set_option maxHeartbeats 1000000 in
set_option maxRecDepth 100000 in
theorem refRoot_any (m : Nat) : ∀ (A : Option Addr) (n c : Nat) (l : List ByteArray) (w : World), n ≤ m → n ≤ 1000000 → Strs w A n c l → (∀ x ∈ l, x.size ≤ 1000000) →
    Calls Try.prog 50 #[.slice A n c] w fun e w' => e = .returned (.string (rootB l)) ∧ Below w.heap.size w w' := by
  induction m with
  | zero =>
    intro A n c l w hm hn h hl
    obtain rfl : n = 0 := by omega
    go_enter Try.func50, Try.ntmps50
    go_wp2_with fail
    refine (refSum_dig ⟨#[]⟩ _ (by decide)).mono ?_
    rintro e w1 ⟨rfl, hb1⟩
    go_wp2_with fail
    go_ret
    exact ⟨by rw [rootB_none l h.len]; rfl, hb1⟩
  | succ m ih =>
    intro A n c l w hm hn h hl
    have IH := Lib.hid ih
    have HL := Lib.hid hl
    have hlen := Lib.hid h.len
    clear ih hl
    rcases Nat.lt_or_ge n 2 with h2 | h2
    · rcases Nat.eq_zero_or_pos n with h0 | h0
      · subst h0
        go_enter Try.func50, Try.ntmps50
        go_wp2_with fail
        refine (refSum_dig ⟨#[]⟩ _ (by decide)).mono ?_
        rintro e w1 ⟨rfl, hb1⟩
        go_wp2_with fail
        go_ret
        exact ⟨by rw [rootB_none l hlen.out]; rfl, hb1⟩
      · obtain rfl : n = 1 := by omega
        obtain ⟨b, o, rfl, hb, hcell⟩ := h.at_ (by omega)
        have hc := hcell 0 (by omega)
        simp only [Nat.add_zero] at hc
        have hsz := HL.out _ (getD_mem l 0 (by rw [hlen.out]; omega))
        generalize hx : l.getD 0 ByteArray.empty = x at *
        have HX := Lib.hid hx
        clear hx hcell
        go_enter Try.func50, Try.ntmps50
        go_wp2_with fail
        refine (refSum_dig _ _ (by simp only [append_size]; have : (⟨#[0]⟩ : ByteArray).size = 1 := rfl; omega)).mono ?_
        rintro e w1 ⟨rfl, hb1⟩
        go_wp2_with fail
        go_ret
        exact ⟨by rw [rootB_one l hlen.out, HX.out]; rfl, hb1⟩
    · obtain ⟨b, o, rfl, hb, hcell⟩ := h.at_ (by omega)
      clear hcell
      have d0 : ((n : Int) == 0) = false := beq_eq_false_iff_ne.2 (by omega)
      have d1 : ((n : Int) == 1) = false := beq_eq_false_iff_ne.2 (by omega)
      have hk1 := cutN_pos n h2
      have hk2 := cutN_lt n h2
      have r1 := rootB_size
      have R1 := Lib.hid r1
      clear r1
      go_enter Try.func50, Try.ntmps50
      go_wp2_with fail
      refine (refHalf_any n _ hn).mono ?_
      rintro e w1 ⟨rfl, rfl⟩
      have hcap := h.cap
      obtain ⟨k, hk⟩ : ∃ k, k = cutN n := ⟨_, rfl⟩
      rw [← hk] at hk1 hk2 ⊢
      have HK := Lib.hid hk
      clear hk
      have b1 : (k : Int) ≤ (c : Int) := by omega
      have b2 : (k : Int) ≤ (n : Int) := by omega
      have hne : c ≠ k := by omega
      have t1 := h.take k (by omega)
      have t2 := h.drop k (by omega)
      have z1 : ∀ x ∈ l.take k, x.size ≤ 1000000 := fun x hx => HL.out x (List.mem_of_mem_take hx)
      have z2 : ∀ x ∈ l.drop k, x.size ≤ 1000000 := fun x hx => HL.out x (List.mem_of_mem_drop hx)
      have T := Lib.hid (And.intro t1 (And.intro t2 (And.intro z1 z2)))
      clear t1 t2 z1 z2
      have q1 := R1.out (l.take k)
      have q2 := R1.out (l.drop k)
      go_wp2_with fail
      refine wp_region_quiet_below (by kernel_rfl) (by kernel_rfl) ?_
      repeat (quiet_step (first
        | exact Calls.regrown_of (IH.out _ _ _ _ _ (by omega) (by omega) (T.out.1.below (below_regrown w1 _ _)) T.out.2.2.1)
        | exact Calls.regrown_of (IH.out _ _ _ _ _ (by omega) (by omega) (T.out.2.1.below (below_regrown w1 _ _)) T.out.2.2.2)
        | exact Calls.regrown_of (refSum_dig _ _ (by simp only [append_size, rootB_size]; have : (⟨#[1]⟩ : ByteArray).size = 1 := rfl; omega))))
      refine wpQuiet_nil ?_
      intro _ hw'
      obtain ⟨⟨dq, osq⟩, hw''⟩ := hw'
      subst hw''
      go_wp2_with fail
      go_ret
      refine ⟨?_, below_regrown w1 dq osq⟩
      rw [rootB_two l (by rw [hlen.out]; omega), hlen.out, ← HK.out]
      rfl
set_option maxHeartbeats 2000000 in
set_option maxRecDepth 100000 in
theorem refPath_any (m : Nat) : ∀ (A : Option Addr) (n c : Nat) (l : List ByteArray) (i : Nat) (w : World), n ≤ m → i < n → n ≤ 1000000 → Strs w A n c l → (∀ x ∈ l, x.size ≤ 1000000) →
    Calls Try.prog 51 #[.slice A n c, .int .i64 (i : Int)] w (RetOwn (pathB l i) w) := by
  induction m with
  | zero => intro A n c l i w hm hi; omega
  | succ m ih =>
    intro A n c l i w hm hi hn h hl
    have IH := Lib.hid ih
    have HL := Lib.hid hl
    have hlen := Lib.hid h.len
    clear ih hl
    by_cases h1 : n = 1
    · subst h1
      go_enter Try.func51, Try.ntmps51
      go_wp2_with fail
      go_ret
      exact ⟨_, rfl, by rw [pathB_one l i (by rw [hlen.out]; omega)]; exact OwnS.nil _ _, Below.refl _ _⟩
    · have h2 : 2 ≤ n := by omega
      have hd1 : decide ((n : Int) < 2) = false := by simp; omega
      obtain ⟨b, o, rfl, hb, hcell⟩ := h.at_ (by omega)
      clear hcell h1
      have hk1 := cutN_pos n h2
      have hk2 := cutN_lt n h2
      go_enter Try.func51, Try.ntmps51
      go_wp2_with fail
      refine (refHalf_any n _ hn).mono ?_
      rintro e w1 ⟨rfl, rfl⟩
      have hcap := h.cap
      obtain ⟨k, hk⟩ : ∃ k, k = cutN n := ⟨_, rfl⟩
      rw [← hk] at hk1 hk2 ⊢
      have HK := Lib.hid hk
      clear hk
      have b1 : (k : Int) ≤ (c : Int) := by omega
      have b2 : (k : Int) ≤ (n : Int) := by omega
      have hne : c ≠ k := by omega
      have t1 := h.take k (by omega)
      have t2 := h.drop k (by omega)
      have z1 : ∀ x ∈ l.take k, x.size ≤ 1000000 := fun x hx => HL.out x (List.mem_of_mem_take hx)
      have z2 : ∀ x ∈ l.drop k, x.size ≤ 1000000 := fun x hx => HL.out x (List.mem_of_mem_drop hx)
      have T := Lib.hid (And.intro t1 (And.intro t2 (And.intro z1 z2)))
      clear t1 t2 z1 z2
      have lt1 : (l.take k).length = k := by rw [List.length_take, hlen.out]; omega
      have lt2 : (l.drop k).length = n - k := by rw [List.length_drop, hlen.out]
      by_cases hik : i < k
      · have hdk : decide ((i : Int) < (k : Int)) = true := by simp; omega
        have hpl : (pathB (l.take k) i).length ≤ 1000000 := Nat.le_trans (pathB_len _ _) (by omega)
        have HPL := Lib.hid hpl
        clear hpl lt1 lt2
        go_wp2_with fail
        go_region_law (first
          | (refine step_append_strs rfl (.tmp 19) (.tmp 24) rfl w1.heap.size _ (pathB (l.take k) i) w3 [rootB (l.drop k)] rfl ho3 rfl hb3.size (by have := HPL.out; simp; omega) ?_; intro v4 w4 ho4 hb4)
          | (go_simp; go_at_call 51; refine (IH.out _ k c (l.take k) i _ (by omega) (by omega) (by omega) (Strs.drew T.out.1) T.out.2.2.1).mono ?_; rintro e w2 ⟨v2, rfl, ho2, hb2'⟩; have hb2 := below_undrew hb2')
          | (go_simp; go_at_call 50; refine (refRoot_any (n - k) _ (n - k) (c - k) (l.drop k) _ (Nat.le_refl _) (by omega) (T.out.2.1.below hb2) T.out.2.2.2).mono ?_; rintro e w3 ⟨rfl, hb3'⟩; have ho3 := ho2.below hb3'; have hb3 : Below w1.heap.size w1 w3 := hb2.trans (hb3'.mono hb2.size)))
        all_goals go_wp2_with fail
        all_goals
          go_ret
          refine ⟨_, rfl, ?_, hb3.trans hb4⟩
          rw [pathB_left l i (by rw [hlen.out]; omega) (by rw [hlen.out, ← HK.out]; omega), hlen.out, ← HK.out]
          exact ho4
      · have hdk : decide ((i : Int) < (k : Int)) = false := by simp; omega
        have hpl : (pathB (l.drop k) (i - k)).length ≤ 1000000 := Nat.le_trans (pathB_len _ _) (by omega)
        have HPL := Lib.hid hpl
        have hwi : IntKind.i64.wrap ((i : Int) - (k : Int)) = ((i - k : Nat) : Int) := by rw [IntWalk.i64_in _ (by omega)]; omega
        clear hpl lt1 lt2
        go_wp2_with fail
        go_region_law (first
          | (refine step_append_strs rfl (.tmp 32) (.tmp 37) rfl w1.heap.size _ (pathB (l.drop k) (i - k)) w3 [rootB (l.take k)] rfl ho3 rfl hb3.size (by have := HPL.out; simp; omega) ?_; intro v4 w4 ho4 hb4)
          | (go_simp; go_at_call 51; refine (IH.out _ (n - k) (c - k) (l.drop k) (i - k) _ (by omega) (by omega) (by omega) (Strs.drew T.out.2.1) T.out.2.2.2).mono ?_; rintro e w2 ⟨v2, rfl, ho2, hb2'⟩; have hb2 := below_undrew hb2')
          | (go_simp; go_at_call 50; refine (refRoot_any k _ k c (l.take k) _ (Nat.le_refl _) (by omega) (T.out.1.below hb2) T.out.2.2.1).mono ?_; rintro e w3 ⟨rfl, hb3'⟩; have ho3 := ho2.below hb3'; have hb3 : Below w1.heap.size w1 w3 := hb2.trans (hb3'.mono hb2.size)))
        all_goals go_wp2_with fail
        all_goals
          go_ret
          refine ⟨_, rfl, ?_, hb3.trans hb4⟩
          rw [pathB_right l i (by rw [hlen.out]; omega) (by rw [hlen.out, ← HK.out]; omega), hlen.out, ← HK.out]
          exact ho4
theorem RefPath_any (A : Option Addr) (n c : Nat) (l : List ByteArray) (i : Nat) (w : World) (hi : i < n) (hn : n ≤ 1024) (h : Strs w A n c l) (hl : ∀ x ∈ l, x.size ≤ 1000000) :
    Calls Try.prog 33 #[.slice A n c, .int .i64 (i : Int)] w (RetS (pathB l i) 0 w) := by
  have hd : decide (1024 < (n : Int)) = false := by simp; omega
  have hd1 : decide ((i : Int) < 0) = false := by simp
  have hd2 : decide ((n : Int) ≤ (i : Int)) = false := by simp; omega
  go_enter Try.func33, Try.ntmps33
  go_wp2_with fail
  refine (refPath_any n A n c l i w (Nat.le_refl _) hi (by omega) h hl).mono ?_
  rintro e w1 ⟨v, rfl, ho, hb⟩
  go_wp2_with fail
  go_ret2
  exact ⟨_, rfl, ho, hb⟩
theorem RefPath_big (A : Option Addr) (n c : Nat) (i : Int) (w : World) (hn : 1024 < n) (hm : n ≤ 9223372036854775807) :
    Calls Try.prog 33 #[.slice A n c, .int .i64 i] w (RetS [] 4 w) := by
  have hd : decide (1024 < (n : Int)) = true := by simp; omega
  go_enter Try.func33, Try.ntmps33
  go_wp2_with fail
  go_ret2
  exact ⟨_, rfl, OwnS.nil _ _, Below.refl _ _⟩
theorem RefPath_neg (A : Option Addr) (n c : Nat) (i : Int) (w : World) (hn : n ≤ 1024) (hi : i < 0) :
    Calls Try.prog 33 #[.slice A n c, .int .i64 i] w (RetS [] 2 w) := by
  have hd : decide (1024 < (n : Int)) = false := by simp; omega
  have hd1 : decide (i < 0) = true := by simpa using hi
  go_enter Try.func33, Try.ntmps33
  go_wp2_with fail
  go_ret2
  exact ⟨_, rfl, OwnS.nil _ _, Below.refl _ _⟩
theorem RefPath_out (A : Option Addr) (n c : Nat) (i : Int) (w : World) (hn : n ≤ 1024) (hi : 0 ≤ i) (hin : (n : Int) ≤ i) :
    Calls Try.prog 33 #[.slice A n c, .int .i64 i] w (RetS [] 2 w) := by
  have hd : decide (1024 < (n : Int)) = false := by simp; omega
  have hd1 : decide (i < 0) = false := by simp; omega
  have hd2 : decide ((n : Int) ≤ i) = true := by simpa using hin
  go_enter Try.func33, Try.ntmps33
  go_wp2_with fail
  go_ret2
  exact ⟨_, rfl, OwnS.nil _ _, Below.refl _ _⟩
theorem RefRoot_any (A : Option Addr) (n c : Nat) (l : List ByteArray) (w : World) (hn : n ≤ 1024) (h : Strs w A n c l) (hl : ∀ x ∈ l, x.size ≤ 1000000) :
    Calls Try.prog 32 #[.slice A n c] w (RetStr (rootB l) 0 w) := by
  have hd : decide (1024 < (n : Int)) = false := by simp; omega
  go_enter Try.func32, Try.ntmps32
  go_wp2_with fail
  refine (refRoot_any n A n c l w (Nat.le_refl _) (by omega) h hl).mono ?_
  rintro e w1 ⟨rfl, hb1⟩
  go_wp2_with fail
  go_ret2
  exact ⟨rfl, hb1⟩
theorem RefRoot_many (A : Option Addr) (n c : Nat) (w : World) (hn : 1024 < n) (hm : n ≤ 9223372036854775807) :
    Calls Try.prog 32 #[.slice A n c] w (RetStr ⟨#[]⟩ 4 w) := by
  have hd : decide (1024 < (n : Int)) = true := by simp; omega
  go_enter Try.func32, Try.ntmps32
  go_wp2_with fail
  go_ret2
  exact ⟨rfl, Below.refl _ _⟩
end Go.Proofs.Ytlgpdmejnabinaa
