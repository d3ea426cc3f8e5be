/- Walks of DateWhole and DateThereAndBack. -/
import Derived.Test.YtjkpfjnhgbcnkaaDoorLawB
import Derived.Test.YtjkpfjnhgbcnkaaDoorCal2
namespace Go.Proofs.YtjkpfjnhgbcnkaaDoor
open Go.RowKit

set_option maxHeartbeats 2000000 in
theorem wholes_no (a b : Int) (w : World) (ht : Tab w) (h : (okDay a && okDay b) = false) : Calls Tryd.prog 6 #[.int .i64 a, .int .i64 b] w (Yes w) := by
  have x1 : ∀ w, Calls Tryd.prog 14 #[.int .i64 a, .int .i64 b] w (Ret2 0 13 w) := fun w => by
    have := Months_any a b w
    rwa [(mon_no h).1, (mon_no h).2] at this
  have X := Lib.hid x1
  clear x1
  cases ha : okDay a
  · go_enter Tryd.func6, Tryd.ntmps6
    go_wp2_with fail
    refine (X.out _).mono ?_
    rintro e w1 ⟨rfl, hb1⟩
    go_wp2_with fail
    refine (lvalid_no _ _ ha).mono ?_
    rintro e w2 ⟨rfl, rfl⟩
    go_wp2_with fail
    refine (awake_any _ (ht.below hb1)).mono ?_
    rintro e w3 ⟨rfl, hb3⟩
    go_wp2_with fail
    go_ret
    exact ⟨rfl, hb1.trans (hb3.mono hb1.size)⟩
  · have hb : okDay b = false := by simpa [ha] using h
    clear h
    go_enter Tryd.func6, Tryd.ntmps6
    go_wp2_with fail
    refine (X.out _).mono ?_
    rintro e w1 ⟨rfl, hb1⟩
    go_wp2_with fail
    refine (lvalid_yes _ _ ha).mono ?_
    rintro e w2 ⟨rfl, rfl⟩
    go_wp2_with fail
    refine (lvalid_no _ _ hb).mono ?_
    rintro e w2 ⟨rfl, rfl⟩
    go_wp2_with fail
    refine (awake_any _ (ht.below hb1)).mono ?_
    rintro e w3 ⟨rfl, hb3⟩
    go_wp2_with fail
    go_ret
    exact ⟨rfl, hb1.trans (hb3.mono hb1.size)⟩
set_option maxHeartbeats 2000000 in
theorem wholes_yes (a b : Int) (w : World) (ht : Tab w) (ha : okDay a = true) (hb : okDay b = true) (hab : a ≤ b) : Calls Tryd.prog 6 #[.int .i64 a, .int .i64 b] w (Yes w) := by
  obtain ⟨h0, h1, h2, h3, h4⟩ := whole_law ha hb hab
  obtain ⟨n, hn⟩ : ∃ n, n = wholeN a b := ⟨_, rfl⟩
  rw [← hn] at h0 h1 h2 h3 h4
  have e1 : monN a b = n ∧ monE a b = 0 := by
    rw [(mon_yes ha hb).1, (mon_yes ha hb).2, if_neg (by omega)]; exact ⟨hn.symm, rfl⟩
  have e2 : monN b a = -n ∧ monE b a = 0 := by
    have := mon_neg hb ha
    rw [(mon_yes hb ha).2]
    exact ⟨by omega, rfl⟩
  have x1 : ∀ w, Calls Tryd.prog 14 #[.int .i64 a, .int .i64 b] w (Ret2 n 0 w) := fun w => by have := Months_any a b w; rwa [e1.1, e1.2] at this
  have x2 : ∀ w, Calls Tryd.prog 14 #[.int .i64 b, .int .i64 a] w (Ret2 (-n) 0 w) := fun w => by have := Months_any b a w; rwa [e2.1, e2.2] at this
  have x3 : ∀ w, Calls Tryd.prog 12 #[.int .i64 a, .int .i64 n] w (Ret2 (addN a n) 0 w) := fun w => by have := Add_any a n w; rwa [h2] at this
  have x4 := fun w => Add_any a (n + 1) w
  generalize addN a n = c at *
  generalize addN a (n + 1) = d at *
  generalize addE a (n + 1) = f at *
  have hnn : IntKind.i64.wrap (-(-n)) = n := by rw [IntWalk.i64_in _ (by omega)]; omega
  have hle : decide (c ≤ b) = true := by simp [h3]
  have hge : decide (b < a) = false := by simp; omega
  have X := Lib.hid (And.intro x1 (And.intro x2 (And.intro x3 x4)))
  clear x1 x2 x3 x4 e1 e2 hn h2 h3 hab
  rcases h4 with ⟨rfl, h4⟩ | rfl
  · have hd : decide (b < d) = true := by simp [h4]
    go_enter Tryd.func6, Tryd.ntmps6
    go_wp2_with fail
    refine (X.out.1 _).mono ?_
    rintro e w1 ⟨rfl, hb1⟩
    go_wp2_with fail
    refine (lvalid_yes _ _ ha).mono ?_
    rintro e w2 ⟨rfl, rfl⟩
    go_wp2_with fail
    refine (lvalid_yes _ _ hb).mono ?_
    rintro e w2 ⟨rfl, rfl⟩
    go_wp2_with fail
    refine (X.out.2.1 _).mono ?_
    rintro e w2 ⟨rfl, hb2⟩
    have b2 := hb1.trans (hb2.mono hb1.size)
    go_wp2_with fail
    refine (X.out.2.2.1 _).mono ?_
    rintro e w3 ⟨rfl, hb3⟩
    have b3 := b2.trans (hb3.mono b2.size)
    go_wp2_with fail
    refine (X.out.2.2.2 _).mono ?_
    rintro e w4 ⟨rfl, hb4⟩
    have b4 := b3.trans (hb4.mono b3.size)
    go_wp2_with fail
    refine (awake_any _ (ht.below b4)).mono ?_
    rintro e w5 ⟨rfl, hb5⟩
    go_wp2_with fail
    go_ret
    exact ⟨rfl, b4.trans (hb5.mono b4.size)⟩
  · go_enter Tryd.func6, Tryd.ntmps6
    go_wp2_with fail
    refine (X.out.1 _).mono ?_
    rintro e w1 ⟨rfl, hb1⟩
    go_wp2_with fail
    refine (lvalid_yes _ _ ha).mono ?_
    rintro e w2 ⟨rfl, rfl⟩
    go_wp2_with fail
    refine (lvalid_yes _ _ hb).mono ?_
    rintro e w2 ⟨rfl, rfl⟩
    go_wp2_with fail
    refine (X.out.2.1 _).mono ?_
    rintro e w2 ⟨rfl, hb2⟩
    have b2 := hb1.trans (hb2.mono hb1.size)
    go_wp2_with fail
    refine (X.out.2.2.1 _).mono ?_
    rintro e w3 ⟨rfl, hb3⟩
    have b3 := b2.trans (hb3.mono b2.size)
    go_wp2_with fail
    refine (X.out.2.2.2 _).mono ?_
    rintro e w4 ⟨rfl, hb4⟩
    have b4 := b3.trans (hb4.mono b3.size)
    go_wp2_with fail
    refine (awake_any _ (ht.below b4)).mono ?_
    rintro e w5 ⟨rfl, hb5⟩
    go_wp2_with fail
    go_ret
    exact ⟨rfl, b4.trans (hb5.mono b4.size)⟩
set_option maxHeartbeats 2000000 in
theorem wholes_turned (a b : Int) (w : World) (ht : Tab w) (ha : okDay a = true) (hb : okDay b = true) (hab : b < a) : Calls Tryd.prog 6 #[.int .i64 a, .int .i64 b] w (Yes w) := by
  obtain ⟨h0, h1, h2, h3, h4⟩ := whole_law hb ha (by omega)
  obtain ⟨n, hn⟩ : ∃ n, n = wholeN b a := ⟨_, rfl⟩
  rw [← hn] at h0 h1 h2 h3 h4
  have e1 : monN a b = -n ∧ monE a b = 0 := by
    rw [(mon_yes ha hb).1, (mon_yes ha hb).2, if_pos hab]; exact ⟨by rw [hn], rfl⟩
  have e2 : monN b a = n ∧ monE b a = 0 := by
    have := mon_neg hb ha
    rw [(mon_yes hb ha).2]
    exact ⟨by omega, rfl⟩
  have x1 : ∀ w, Calls Tryd.prog 14 #[.int .i64 a, .int .i64 b] w (Ret2 (-n) 0 w) := fun w => by have := Months_any a b w; rwa [e1.1, e1.2] at this
  have x2 : ∀ w, Calls Tryd.prog 14 #[.int .i64 b, .int .i64 a] w (Ret2 n 0 w) := fun w => by have := Months_any b a w; rwa [e2.1, e2.2] at this
  have x3 : ∀ w, Calls Tryd.prog 12 #[.int .i64 b, .int .i64 n] w (Ret2 (addN b n) 0 w) := fun w => by have := Add_any b n w; rwa [h2] at this
  have x4 := fun w => Add_any b (n + 1) w
  generalize addN b n = c at *
  generalize addN b (n + 1) = d at *
  generalize addE b (n + 1) = f at *
  have hnn : IntKind.i64.wrap (-n) = -n := by rw [IntWalk.i64_in _ (by omega)]
  have hle : decide (c ≤ a) = true := by simp [h3]
  have hge : decide (b < a) = true := by simp; omega
  have X := Lib.hid (And.intro x1 (And.intro x2 (And.intro x3 x4)))
  clear x1 x2 x3 x4 e1 e2 hn h2 h3
  rcases h4 with ⟨rfl, h4⟩ | rfl
  · have hd : decide (a < d) = true := by simp [h4]
    go_enter Tryd.func6, Tryd.ntmps6
    go_wp2_with fail
    refine (X.out.1 _).mono ?_
    rintro e w1 ⟨rfl, hb1⟩
    go_wp2_with fail
    refine (lvalid_yes _ _ ha).mono ?_
    rintro e w2 ⟨rfl, rfl⟩
    go_wp2_with fail
    refine (lvalid_yes _ _ hb).mono ?_
    rintro e w2 ⟨rfl, rfl⟩
    go_wp2_with fail
    refine (X.out.2.1 _).mono ?_
    rintro e w2 ⟨rfl, hb2⟩
    have b2 := hb1.trans (hb2.mono hb1.size)
    go_wp2_with fail
    refine (X.out.2.2.1 _).mono ?_
    rintro e w3 ⟨rfl, hb3⟩
    have b3 := b2.trans (hb3.mono b2.size)
    go_wp2_with fail
    refine (X.out.2.2.2 _).mono ?_
    rintro e w4 ⟨rfl, hb4⟩
    have b4 := b3.trans (hb4.mono b3.size)
    go_wp2_with fail
    refine (awake_any _ (ht.below b4)).mono ?_
    rintro e w5 ⟨rfl, hb5⟩
    go_wp2_with fail
    go_ret
    exact ⟨rfl, b4.trans (hb5.mono b4.size)⟩
  · go_enter Tryd.func6, Tryd.ntmps6
    go_wp2_with fail
    refine (X.out.1 _).mono ?_
    rintro e w1 ⟨rfl, hb1⟩
    go_wp2_with fail
    refine (lvalid_yes _ _ ha).mono ?_
    rintro e w2 ⟨rfl, rfl⟩
    go_wp2_with fail
    refine (lvalid_yes _ _ hb).mono ?_
    rintro e w2 ⟨rfl, rfl⟩
    go_wp2_with fail
    refine (X.out.2.1 _).mono ?_
    rintro e w2 ⟨rfl, hb2⟩
    have b2 := hb1.trans (hb2.mono hb1.size)
    go_wp2_with fail
    refine (X.out.2.2.1 _).mono ?_
    rintro e w3 ⟨rfl, hb3⟩
    have b3 := b2.trans (hb3.mono b2.size)
    go_wp2_with fail
    refine (X.out.2.2.2 _).mono ?_
    rintro e w4 ⟨rfl, hb4⟩
    have b4 := b3.trans (hb4.mono b3.size)
    go_wp2_with fail
    refine (awake_any _ (ht.below b4)).mono ?_
    rintro e w5 ⟨rfl, hb5⟩
    go_wp2_with fail
    go_ret
    exact ⟨rfl, b4.trans (hb5.mono b4.size)⟩
theorem wholes_law (a b : Int) (w : World) (ht : Tab w) : Calls Tryd.prog 6 #[.int .i64 a, .int .i64 b] w (Yes w) := by
  cases h : okDay a && okDay b
  · exact wholes_no a b w ht h
  · obtain ⟨ha, hb⟩ := Bool.and_eq_true_iff.1 h
    by_cases hab : a ≤ b
    · exact wholes_yes a b w ht ha hb hab
    · exact wholes_turned a b w ht ha hb (by omega)
end Go.Proofs.YtjkpfjnhgbcnkaaDoor
