/- Walks of DateWeeks and DateYears. -/
import Derived.Test.YtjkpfjnhgbcnkaaDoorLawA
namespace Go.Proofs.YtjkpfjnhgbcnkaaDoor
open Go.RowKit

theorem lvalid_any (d : Int) (w : World) : Calls Tryd.prog 18 #[.int .i64 d] w fun e w' => e = .returned (.bool (okDay d)) ∧ w = w' := by
  cases h : okDay d
  · exact lvalid_no d w h
  · exact lvalid_yes d w h
theorem Weekday_yes (d : Int) (w : World) (h : okDay d = true) : Calls Tryd.prog 17 #[.int .i64 d] w (Ret2 ((d + 25567) % 7) 0 w) := by
  have := Weekday_any d w
  simp only [wkD, dayE, h, if_true] at this
  exact this
theorem Weekday_no (d : Int) (w : World) (h : okDay d = false) : Calls Tryd.prog 17 #[.int .i64 d] w (Ret2 0 13 w) := by
  have := Weekday_any d w
  simp only [wkD, dayE, h, Bool.false_eq_true, if_false] at this
  exact this
set_option maxHeartbeats 1000000 in
theorem weeks_law (d : Int) (w : World) (ht : Tab w) : Calls Tryd.prog 4 #[.int .i64 d] w (Yes w) := by
  cases hd : okDay d
  · go_enter Tryd.func4, Tryd.ntmps4
    go_wp2_with fail
    refine (Weekday_no _ _ hd).mono ?_
    rintro e w1 ⟨rfl, hb1⟩
    go_wp2_with fail
    refine (lvalid_no _ _ hd).mono ?_
    rintro e w2 ⟨rfl, rfl⟩
    go_wp2_with fail
    refine (awake_any _ (ht.below hb1)).mono ?_
    rintro e w3 ⟨rfl, hb3⟩
    go_wp2_with fail
    go_ret
    exact ⟨rfl, hb1.trans (hb3.mono hb1.size)⟩
  · obtain ⟨d0, d1⟩ := (okDay_iff d).1 hd
    obtain ⟨r, hr⟩ : ∃ r, r = (d + 25567) % 7 := ⟨_, rfl⟩
    have r0 : 0 ≤ r := by omega
    have r6 : r ≤ 6 := by omega
    have x1 : ∀ w, Calls Tryd.prog 17 #[.int .i64 d] w (Ret2 r 0 w) := fun w => by rw [hr]; exact Weekday_yes d w hd
    have x2 : ∀ w, okDay (d + 1) = true → Calls Tryd.prog 17 #[.int .i64 (d + 1)] w (Ret2 ((r + 1) % 7) 0 w) := fun w h => by
      have := Weekday_yes (d + 1) w h
      rwa [show (d + 1 + 25567) % 7 = (r + 1) % 7 by omega] at this
    have x3 : ∀ w, okDay (d + 7) = true → Calls Tryd.prog 17 #[.int .i64 (d + 7)] w (Ret2 r 0 w) := fun w h => by
      have := Weekday_yes (d + 7) w h
      rwa [show (d + 7 + 25567) % 7 = r by omega] at this
    have X := Lib.hid (And.intro x1 (And.intro x2 x3))
    clear x1 x2 x3 hr
    cases h1 : okDay (d + 1)
    · cases h7 : okDay (d + 7)
      · go_enter Tryd.func4, Tryd.ntmps4
        go_wp2_with fail
        refine (X.out.1 _).mono ?_
        rintro e w1 ⟨rfl, hb1⟩
        go_wp2_with fail
        refine (lvalid_yes _ _ hd).mono ?_
        rintro e w2 ⟨rfl, rfl⟩
        go_wp2_with fail
        refine (lvalid_no _ _ h1).mono ?_
        rintro e w2 ⟨rfl, rfl⟩
        go_wp2_with fail
        refine (lvalid_no _ _ h7).mono ?_
        rintro e w2 ⟨rfl, rfl⟩
        go_wp2_with fail
        refine (awake_any _ (ht.below hb1)).mono ?_
        rintro e w3 ⟨rfl, hb3⟩
        go_wp2_with fail
        go_ret
        exact ⟨rfl, hb1.trans (hb3.mono hb1.size)⟩
      · have := okDay_no h1
        have := (okDay_iff _).1 h7
        omega
    · cases h7 : okDay (d + 7)
      · go_enter Tryd.func4, Tryd.ntmps4
        go_wp2_with fail
        refine (X.out.1 _).mono ?_
        rintro e w1 ⟨rfl, hb1⟩
        go_wp2_with fail
        refine (lvalid_yes _ _ hd).mono ?_
        rintro e w2 ⟨rfl, rfl⟩
        go_wp2_with fail
        refine (lvalid_yes _ _ h1).mono ?_
        rintro e w2 ⟨rfl, rfl⟩
        go_wp2_with fail
        refine (X.out.2.1 _ h1).mono ?_
        rintro e w3 ⟨rfl, hb3⟩
        have b3 := hb1.trans (hb3.mono hb1.size)
        go_wp2_with fail
        refine (lvalid_no _ _ h7).mono ?_
        rintro e w2 ⟨rfl, rfl⟩
        go_wp2_with fail
        refine (awake_any _ (ht.below b3)).mono ?_
        rintro e w4 ⟨rfl, hb4⟩
        go_wp2_with fail
        go_ret
        exact ⟨rfl, b3.trans (hb4.mono b3.size)⟩
      · go_enter Tryd.func4, Tryd.ntmps4
        go_wp2_with fail
        refine (X.out.1 _).mono ?_
        rintro e w1 ⟨rfl, hb1⟩
        go_wp2_with fail
        refine (lvalid_yes _ _ hd).mono ?_
        rintro e w2 ⟨rfl, rfl⟩
        go_wp2_with fail
        refine (lvalid_yes _ _ h1).mono ?_
        rintro e w2 ⟨rfl, rfl⟩
        go_wp2_with fail
        refine (X.out.2.1 _ h1).mono ?_
        rintro e w3 ⟨rfl, hb3⟩
        have b3 := hb1.trans (hb3.mono hb1.size)
        go_wp2_with fail
        refine (lvalid_yes _ _ h7).mono ?_
        rintro e w2 ⟨rfl, rfl⟩
        go_wp2_with fail
        refine (X.out.2.2 _ h7).mono ?_
        rintro e w4 ⟨rfl, hb4⟩
        have b4 := b3.trans (hb4.mono b3.size)
        go_wp2_with fail
        refine (awake_any _ (ht.below b4)).mono ?_
        rintro e w5 ⟨rfl, hb5⟩
        go_wp2_with fail
        go_ret
        exact ⟨rfl, b4.trans (hb5.mono b4.size)⟩
theorem year_len (y : Int) : num (y + 1) 1 1 - num y 1 1 = 365 + lp y := by
  have := beg_succ y
  unfold num
  rw [cum_one, cum_one]
  omega
theorem leap_rule (y : Int) (h0 : 1900 ≤ y) (h1 : y ≤ 2198) : leapB y = (decide (y % 4 = 0) && decide (y ≠ 1900) && decide (y ≠ 2100)) := by
  have e : lp y = 1 ↔ (y % 4 = 0 ∧ y ≠ 1900) ∧ y ≠ 2100 := by
    unfold lp
    split
    · simp only [true_iff]
      omega
    · simp only [show ((0 : Int) = 1) = False by simp, false_iff]
      omega
  rw [Bool.eq_iff_iff]
  simp only [leapB, decide_eq_true_iff, Bool.and_eq_true, e]
theorem leap_again (y : Int) : leapB (y + 400) = leapB y := by
  have h : lp (y + 400) = lp y := by
    unfold lp
    have : (y + 400) % 4 = y % 4 := by omega
    have : (y + 400) % 100 = y % 100 := by omega
    have : (y + 400) % 400 = y % 400 := by omega
    simp [*]
  simp [leapB, h]
theorem valid_day1 (y : Int) (h0 : 1900 ≤ y) (h1 : y ≤ 2199) : Valid y 1 1 := ⟨h0, h1, by omega, by omega, by omega, by have := len_lo y 1; omega⟩
theorem feb29 (y : Int) (h0 : 1900 ≤ y) (h1 : y ≤ 2199) : ofE y 2 29 = if leapB y then 0 else 13 := by
  unfold ofE
  congr 1
  rw [eq_iff_iff, vdB_iff]
  have hl : len y 2 = 28 + lp y := by simp [len]
  have := lp_01 y
  constructor
  · intro h
    have := h.d1
    simp only [leapB, decide_eq_true_iff]
    omega
  · intro h
    have := lp_of_leap h
    exact ⟨h0, h1, by omega, by omega, by omega, by omega⟩
set_option maxHeartbeats 2000000 in
theorem years_law (n : Int) (w : World) (ht : Tab w) (hn : (Lit.int .u16 n).wf = true) : Calls Tryd.prog 5 #[.int .u16 n] w (Yes w) := by
  have hn0 : 0 ≤ n := by simp [Lit.wf, IntKind.min, IntKind.max, IntKind.signed, IntKind.bits] at hn; omega
  have hn1 : n ≤ 65535 := by simp [Lit.wf, IntKind.min, IntKind.max, IntKind.signed, IntKind.bits] at hn; omega
  clear hn
  obtain ⟨y, hy⟩ : ∃ y, y = 1900 + n % 299 := ⟨_, rfl⟩
  have y0 : 1900 ≤ y := by omega
  have y1 : y ≤ 2198 := by omega
  have hlen := year_len y
  have r1 := num_range (valid_day1 y (by omega) (by omega))
  have r2 := num_range (valid_day1 (y + 1) (by omega) (by omega))
  have x1 := fun w => Of_yes y 1 1 w (valid_day1 y (by omega) (by omega))
  have x2 := fun w => Of_yes (y + 1) 1 1 w (valid_day1 (y + 1) (by omega) (by omega))
  have x3 := fun w => Of_any y 2 29 w
  rw [feb29 y (by omega) (by omega)] at x3
  have hr := leap_rule y y0 y1
  have x4 := fun w => leap_any y w
  have x5 := fun w => leap_any (y + 400) w
  rw [leap_again] at x5
  generalize num y 1 1 = A at *
  generalize num (y + 1) 1 1 = B at *
  have hyw : 1900 + n % 299 = y := hy.symm
  have HY := Lib.hid hy
  clear hy
  cases hl : leapB y
  · have hp := lp_of_not hl
    have x3' : ∀ w, Calls Tryd.prog 19 #[.int .i64 y, .int .i64 2, .int .i64 29] w (Ret2 (ofN y 2 29) 13 w) := fun w => by simpa [hl] using x3 w
    generalize ofN y 2 29 = C at *
    have x4' : ∀ w, Calls Tryd.prog 20 #[.int .i64 y] w fun e w' => e = .returned (.bool false) ∧ w = w' := fun w => by rw [← hl]; exact x4 w
    have x5' : ∀ w, Calls Tryd.prog 20 #[.int .i64 (y + 400)] w fun e w' => e = .returned (.bool false) ∧ w = w' := fun w => by rw [← hl]; exact x5 w
    have hsub : IntKind.i64.wrap (B - A) = 365 := by rw [IntWalk.i64_in _ (by omega)]; omega
    have hcase : y % 4 ≠ 0 ∨ (y % 4 = 0 ∧ (y = 1900 ∨ y = 2100)) := by
      rw [hl] at hr
      simp only [Bool.false_eq, Bool.and_eq_false_iff, decide_eq_false_iff_not] at hr
      omega
    have X := Lib.hid (And.intro x1 (And.intro x2 (And.intro x3' (And.intro x4' x5'))))
    clear x1 x2 x3 x3' x4 x4' x5 x5' hr hp hlen hl
    have walk : ∀ (c1 c2 c3 : Bool), (y % 4 == 0) = c1 → (y != 1900) = c2 → (y != 2100) = c3 → (c1 && c2 && c3) = false → Calls Tryd.prog 5 #[.int .u16 n] w (Yes w) := by
      intro c1 c2 c3 h1 h2 h3 h4
      have H4 := Lib.hid h4
      clear h4
      cases c1 <;> cases c2 <;> cases c3
      all_goals try exact absurd H4.out (by decide)
      all_goals
        go_enter Tryd.func5, Tryd.ntmps5
        go_wp2_with fail
        refine (X.out.1 _).mono ?_
        rintro e w1 ⟨rfl, hb1⟩
        go_wp2_with fail
        refine (X.out.2.1 _).mono ?_
        rintro e w2 ⟨rfl, hb2⟩
        go_wp2_with fail
        refine (X.out.2.2.1 _).mono ?_
        rintro e w3 ⟨rfl, hb3⟩
        have b2 := hb1.trans (hb2.mono hb1.size)
        have b3 := b2.trans (hb3.mono b2.size)
        go_wp2_with fail
        refine (X.out.2.2.2.1 _).mono ?_
        rintro e w4 ⟨rfl, rfl⟩
        go_wp2_with fail
        refine (X.out.2.2.2.1 _).mono ?_
        rintro e w4 ⟨rfl, rfl⟩
        go_wp2_with fail
        refine (X.out.2.2.2.1 _).mono ?_
        rintro e w4 ⟨rfl, rfl⟩
        go_wp2_with fail
        refine (X.out.2.2.2.1 _).mono ?_
        rintro e w4 ⟨rfl, rfl⟩
        go_wp2_with fail
        refine (X.out.2.2.2.2 _).mono ?_
        rintro e w4 ⟨rfl, rfl⟩
        go_wp2_with fail
        refine (awake_any _ (ht.below b3)).mono ?_
        rintro e w5 ⟨rfl, hb5⟩
        go_wp2_with fail
        go_ret
        exact ⟨rfl, b3.trans (hb5.mono b3.size)⟩
    refine walk _ _ _ rfl rfl rfl ?_
    rcases hcase with h | ⟨_, h | h⟩
    · rw [beq_eq_false_iff_ne.2 h]; rfl
    · rw [h]; rfl
    · rw [h]; rfl
  · have hp := lp_of_leap hl
    have x3' : ∀ w, Calls Tryd.prog 19 #[.int .i64 y, .int .i64 2, .int .i64 29] w (Ret2 (ofN y 2 29) 0 w) := fun w => by simpa [hl] using x3 w
    generalize ofN y 2 29 = C at *
    have x4' : ∀ w, Calls Tryd.prog 20 #[.int .i64 y] w fun e w' => e = .returned (.bool true) ∧ w = w' := fun w => by rw [← hl]; exact x4 w
    have x5' : ∀ w, Calls Tryd.prog 20 #[.int .i64 (y + 400)] w fun e w' => e = .returned (.bool true) ∧ w = w' := fun w => by rw [← hl]; exact x5 w
    have hsub : IntKind.i64.wrap (B - A) = 366 := by rw [IntWalk.i64_in _ (by omega)]; omega
    rw [hl] at hr
    have hr' := hr.symm
    simp only [Bool.and_eq_true, decide_eq_true_iff] at hr'
    have h1 : (y % 4 == 0) = true := beq_iff_eq.2 hr'.1.1
    have h2 : (y != 1900) = true := bne_iff_ne.2 hr'.1.2
    have h3 : (y != 2100) = true := bne_iff_ne.2 hr'.2
    have X := Lib.hid (And.intro x1 (And.intro x2 (And.intro x3' (And.intro x4' x5'))))
    clear x1 x2 x3 x3' x4 x4' x5 x5' hr hr' hp hlen hl
    go_enter Tryd.func5, Tryd.ntmps5
    go_wp2_with fail
    refine (X.out.1 _).mono ?_
    rintro e w1 ⟨rfl, hb1⟩
    go_wp2_with fail
    refine (X.out.2.1 _).mono ?_
    rintro e w2 ⟨rfl, hb2⟩
    go_wp2_with fail
    refine (X.out.2.2.1 _).mono ?_
    rintro e w3 ⟨rfl, hb3⟩
    have b2 := hb1.trans (hb2.mono hb1.size)
    have b3 := b2.trans (hb3.mono b2.size)
    go_wp2_with fail
    refine (X.out.2.2.2.1 _).mono ?_
    rintro e w4 ⟨rfl, rfl⟩
    go_wp2_with fail
    refine (X.out.2.2.2.1 _).mono ?_
    rintro e w4 ⟨rfl, rfl⟩
    go_wp2_with fail
    refine (X.out.2.2.2.1 _).mono ?_
    rintro e w4 ⟨rfl, rfl⟩
    go_wp2_with fail
    refine (X.out.2.2.2.1 _).mono ?_
    rintro e w4 ⟨rfl, rfl⟩
    go_wp2_with fail
    refine (X.out.2.2.2.2 _).mono ?_
    rintro e w4 ⟨rfl, rfl⟩
    go_wp2_with fail
    refine (awake_any _ (ht.below b3)).mono ?_
    rintro e w5 ⟨rfl, hb5⟩
    go_wp2_with fail
    go_ret
    exact ⟨rfl, b3.trans (hb5.mono b3.size)⟩
end Go.Proofs.YtjkpfjnhgbcnkaaDoor
