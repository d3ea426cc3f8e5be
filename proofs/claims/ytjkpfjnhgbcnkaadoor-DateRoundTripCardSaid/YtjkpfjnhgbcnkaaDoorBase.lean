/- Contracts of the small functions of date and of its reference. -/
import Derived.Test.YtjkpfjnhgbcnkaaDoorChecked
import Derived.Test.YtjkpfjnhgbcnkaaDoorCal
import Derived.WalkKit
import Derived.Lib.Hide
namespace Go.Proofs.YtjkpfjnhgbcnkaaDoor
open Go.RowKit

theorem tmod_zero (y n : Int) : y.tmod n = 0 ↔ y % n = 0 := by rw [← Int.dvd_iff_tmod_eq_zero, Int.dvd_iff_emod_eq_zero]
theorem ret_bool {a b : Bool} (h : a = b) : Ending.returned (.bool a) = .returned (.bool b) := by rw [h]
theorem ret_int {k : IntKind} {a b : Int} (h : a = b) : Ending.returned (.int k a) = .returned (.int k b) := by rw [h]
theorem leapB_true {y : Int} (h4 : y.tmod 4 = 0) (h : y.tmod 100 ≠ 0 ∨ y.tmod 400 = 0) : true = leapB y := by
  rw [tmod_zero] at h4
  simp only [ne_eq, tmod_zero] at h
  simp [leapB, lp, h4, h]
theorem leapB_false {y : Int} (h : y.tmod 4 ≠ 0 ∨ (y.tmod 100 = 0 ∧ y.tmod 400 ≠ 0)) : false = leapB y := by
  simp only [ne_eq, tmod_zero] at h
  have h2 : ¬ lp y = 1 := by
    unfold lp
    rw [if_neg (by omega)]
    decide
  simp [leapB, h2]
theorem leap_any (y : Int) (w : World) : Calls Tryd.prog 20 #[.int .i64 y] w fun e w' => e = .returned (.bool (leapB y)) ∧ w = w' := by
  by_cases h4 : y.tmod 4 = 0
  · have a1 : (y.tmod 4 == 0) = true := by simp [h4]
    by_cases h100 : y.tmod 100 = 0
    · have a2 : (y.tmod 100 != 0) = false := by simp [h100]
      by_cases h400 : y.tmod 400 = 0
      · have a3 : (y.tmod 400 == 0) = true := by simp [h400]
        have HB := Lib.hid (leapB_true h4 (.inr h400))
        clear h4 h100 h400
        go_enter Tryd.func20, Tryd.ntmps20
        go_wp2
        go_ret
        exact ⟨ret_bool HB.out, rfl⟩
      · have a3 : (y.tmod 400 == 0) = false := by simp [h400]
        have HB := Lib.hid (leapB_false (.inr ⟨h100, h400⟩))
        clear h4 h100 h400
        go_enter Tryd.func20, Tryd.ntmps20
        go_wp2
        go_ret
        exact ⟨ret_bool HB.out, rfl⟩
    · have a2 : (y.tmod 100 != 0) = true := by simp [h100]
      have HB := Lib.hid (leapB_true h4 (.inl h100))
      clear h4 h100
      go_enter Tryd.func20, Tryd.ntmps20
      go_wp2
      go_ret
      exact ⟨ret_bool HB.out, rfl⟩
  · have a1 : (y.tmod 4 == 0) = false := by simp [h4]
    have HB := Lib.hid (leapB_false (.inl h4))
    have a3 : (y.tmod 400 == 0) = false := by
      have h5 : ¬ y.tmod 400 = 0 := by rw [tmod_zero] at h4 ⊢; omega
      simp [h5]
    clear h4
    go_enter Tryd.func20, Tryd.ntmps20
    go_wp2
    go_ret
    exact ⟨ret_bool HB.out, rfl⟩
theorem rleap_any (y : Int) (w : World) : Calls Tryd.prog 27 #[.int .i64 y] w fun e w' => e = .returned (.bool (leapB y)) ∧ w = w' := by
  by_cases h4 : y.tmod 4 = 0
  · have a1 : (y.tmod 4 == 0) = true := by simp [h4]
    by_cases h100 : y.tmod 100 = 0
    · have a2 : (y.tmod 100 != 0) = false := by simp [h100]
      by_cases h400 : y.tmod 400 = 0
      · have a3 : (y.tmod 400 == 0) = true := by simp [h400]
        have HB := Lib.hid (leapB_true h4 (.inr h400))
        clear h4 h100 h400
        go_enter Tryd.func27, Tryd.ntmps27
        go_wp2
        go_ret
        exact ⟨ret_bool HB.out, rfl⟩
      · have a3 : (y.tmod 400 == 0) = false := by simp [h400]
        have HB := Lib.hid (leapB_false (.inr ⟨h100, h400⟩))
        clear h4 h100 h400
        go_enter Tryd.func27, Tryd.ntmps27
        go_wp2
        go_ret
        exact ⟨ret_bool HB.out, rfl⟩
    · have a2 : (y.tmod 100 != 0) = true := by simp [h100]
      have HB := Lib.hid (leapB_true h4 (.inl h100))
      clear h4 h100
      go_enter Tryd.func27, Tryd.ntmps27
      go_wp2
      go_ret
      exact ⟨ret_bool HB.out, rfl⟩
  · have a1 : (y.tmod 4 == 0) = false := by simp [h4]
    have HB := Lib.hid (leapB_false (.inl h4))
    clear h4
    go_enter Tryd.func27, Tryd.ntmps27
    go_wp2
    go_ret
    exact ⟨ret_bool HB.out, rfl⟩
theorem lp_of_leap {y : Int} (h : leapB y = true) : lp y = 1 := by simpa [leapB] using h
theorem lp_of_not {y : Int} (h : leapB y = false) : lp y = 0 := by
  have := lp_01 y
  have h' : ¬ lp y = 1 := by simpa [leapB] using h
  omega
theorem valid_yes (d : Int) (w : World) (h : okDay d = true) : Calls Tryd.prog 34 #[.int .i64 d] w fun e w' => e = .returned (.bool true) ∧ w = w' := by
  obtain ⟨h1, h2⟩ := (okDay_iff d).1 h
  clear h
  go_enter Tryd.func34, Tryd.ntmps34
  go_wp2
  go_ret
  exact ⟨rfl, rfl⟩
theorem okDay_no {d : Int} (h : okDay d = false) : d < -25567 ∨ 84005 < d := by
  have : ¬ (okDay d = true) := by simp [h]
  rw [okDay_iff] at this
  omega
theorem valid_no (d : Int) (w : World) (h : okDay d = false) : Calls Tryd.prog 34 #[.int .i64 d] w fun e w' => e = .returned (.bool false) ∧ w = w' := by
  have h := okDay_no h
  by_cases h1 : d < -25567
  · clear h
    go_enter Tryd.func34, Tryd.ntmps34
    go_wp2
    go_ret
    exact ⟨rfl, rfl⟩
  · have h2 : decide (d ≤ 84005) = false := by simp; omega
    have h3 : -25567 ≤ d := by omega
    clear h h1
    go_enter Tryd.func34, Tryd.ntmps34
    go_wp2
    go_ret
    exact ⟨rfl, rfl⟩
theorem lvalid_yes (d : Int) (w : World) (h : okDay d = true) : Calls Tryd.prog 18 #[.int .i64 d] w fun e w' => e = .returned (.bool true) ∧ w = w' := by
  obtain ⟨h1, h2⟩ := (okDay_iff d).1 h
  clear h
  go_enter Tryd.func18, Tryd.ntmps18
  go_wp2
  go_ret
  exact ⟨rfl, rfl⟩
theorem lvalid_no (d : Int) (w : World) (h : okDay d = false) : Calls Tryd.prog 18 #[.int .i64 d] w fun e w' => e = .returned (.bool false) ∧ w = w' := by
  have h := okDay_no h
  by_cases h1 : d < -25567
  · clear h
    go_enter Tryd.func18, Tryd.ntmps18
    go_wp2
    go_ret
    exact ⟨rfl, rfl⟩
  · have h2 : decide (d ≤ 84005) = false := by simp; omega
    have h3 : -25567 ≤ d := by omega
    clear h h1
    go_enter Tryd.func18, Tryd.ntmps18
    go_wp2
    go_ret
    exact ⟨rfl, rfl⟩
theorem check_yes (d : Int) (w : World) (h : okDay d = true) : Calls Tryd.prog 36 #[.int .i64 d] w fun e w' => e = .returned (.int .i64 0) ∧ w = w' := by
  obtain ⟨h1, h2⟩ := (okDay_iff d).1 h
  clear h
  go_enter Tryd.func36, Tryd.ntmps36
  go_wp2
  go_ret
  exact ⟨rfl, rfl⟩
theorem check_no (d : Int) (w : World) (h : okDay d = false) : Calls Tryd.prog 36 #[.int .i64 d] w fun e w' => e = .returned (.int .i64 13) ∧ w = w' := by
  have h := okDay_no h
  by_cases h1 : d < -25567
  · clear h
    go_enter Tryd.func36, Tryd.ntmps36
    go_wp2
    go_ret
    exact ⟨rfl, rfl⟩
  · have h2 : 84005 < d := by omega
    have h3 : -25567 ≤ d := by omega
    clear h h1
    go_enter Tryd.func36, Tryd.ntmps36
    go_wp2
    go_ret
    exact ⟨rfl, rfl⟩
theorem begin_any (y : Int) (w : World) (h0 : 1900 ≤ y) (h1 : y ≤ 2200) : Calls Tryd.prog 37 #[.int .i64 y] w fun e w' => e = .returned (.int .i64 (beg y)) ∧ w = w' := by
  go_enter Tryd.func37, Tryd.ntmps37
  go_wp2
  go_ret
  exact ⟨rfl, rfl⟩
set_option maxHeartbeats 1000000 in
theorem length_any (y m : Int) (w : World) (h0 : 1 ≤ m) (h1 : m ≤ 12) : Calls Tryd.prog 32 #[.int .i64 y, .int .i64 m] w fun e w' => e = .returned (.int .i64 (len y m)) ∧ Below w.heap.size w w' := by
  rcases month_cases m h0 h1 with h | h | h | h | h | h | h | h | h | h | h | h <;> subst h <;> clear h0 h1
  · go_enter Tryd.func32, Tryd.ntmps32
    go_wp2
    go_ret
    exact ⟨rfl, (Below.refl _ _).alloc (Nat.le_refl _) _⟩
  · cases hb : leapB y
    · have HL := Lib.hid (lp_of_not hb)
      go_enter Tryd.func32, Tryd.ntmps32
      go_wp2_with (go_at_call 20; refine (leap_any _ _).mono ?_; rintro e w' ⟨rfl, rfl⟩)
      go_ret
      exact ⟨ret_int (by simp [len, HL.out]), (Below.refl _ _).alloc (Nat.le_refl _) _⟩
    · have HL := Lib.hid (lp_of_leap hb)
      go_enter Tryd.func32, Tryd.ntmps32
      go_wp2_with (go_at_call 20; refine (leap_any _ _).mono ?_; rintro e w' ⟨rfl, rfl⟩)
      go_ret
      exact ⟨ret_int (by simp [len, HL.out]), (Below.refl _ _).alloc (Nat.le_refl _) _⟩
  all_goals
    go_enter Tryd.func32, Tryd.ntmps32
    go_wp2
    go_ret
    exact ⟨rfl, (Below.refl _ _).alloc (Nat.le_refl _) _⟩
theorem rlength_any (y m : Int) (w : World) (h0 : 1 ≤ m) (h1 : m ≤ 12) : Calls Tryd.prog 33 #[.int .i64 y, .int .i64 m] w fun e w' => e = .returned (.int .i64 (len y m)) ∧ w = w' := by
  rcases month_cases m h0 h1 with h | h | h | h | h | h | h | h | h | h | h | h <;> subst h <;> clear h0 h1
  · go_enter Tryd.func33, Tryd.ntmps33
    go_wp2
    go_ret
    exact ⟨rfl, rfl⟩
  · cases hb : leapB y
    · have HL := Lib.hid (lp_of_not hb)
      go_enter Tryd.func33, Tryd.ntmps33
      go_wp2_with (go_at_call 27; refine (rleap_any _ _).mono ?_; rintro e w' ⟨rfl, rfl⟩)
      go_ret
      exact ⟨ret_int (by simp [len, HL.out]), rfl⟩
    · have HL := Lib.hid (lp_of_leap hb)
      go_enter Tryd.func33, Tryd.ntmps33
      go_wp2_with (go_at_call 27; refine (rleap_any _ _).mono ?_; rintro e w' ⟨rfl, rfl⟩)
      go_ret
      exact ⟨ret_int (by simp [len, HL.out]), rfl⟩
  all_goals
    go_enter Tryd.func33, Tryd.ntmps33
    go_wp2
    go_ret
    exact ⟨rfl, rfl⟩
end Go.Proofs.YtjkpfjnhgbcnkaaDoor
