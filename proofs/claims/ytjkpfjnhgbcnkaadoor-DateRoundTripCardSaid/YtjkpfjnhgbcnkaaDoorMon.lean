/- Contracts of Months, and of the reference's. -/
import Derived.Test.YtjkpfjnhgbcnkaaDoorAdd
namespace Go.Proofs.YtjkpfjnhgbcnkaaDoor
open Go.RowKit

noncomputable def mdiff (a b : Int) : Int := 12 * (yOf b - yOf a) + mOf b - mOf a
noncomputable def wholeN (a b : Int) : Int := if b < addD a (mdiff a b) then mdiff a b - 1 else mdiff a b
noncomputable def monN (a b : Int) : Int := if okDay a && okDay b then (if b < a then -wholeN b a else wholeN a b) else 0
def monE (a b : Int) : Int := if okDay a && okDay b then 0 else 13
theorem mdiff_add {a b : Int} (ha : okDay a = true) (hb : okDay b = true) : -3599 ≤ mdiff a b ∧ mdiff a b ≤ 3599 ∧ addN a (mdiff a b) = addD a (mdiff a b) ∧ addE a (mdiff a b) = 0 := by
  obtain ⟨a0, a1⟩ := (okDay_iff a).1 ha
  obtain ⟨b0, b1⟩ := (okDay_iff b).1 hb
  have va := (date_valid a a0 a1).1
  have vb := (date_valid b b0 b1).1
  have := va.y0; have := va.y1; have := va.m0; have := va.m1
  have := vb.y0; have := vb.y1; have := vb.m0; have := vb.m1
  have h1 : -3599 ≤ mdiff a b := by unfold mdiff; omega
  have h2 : mdiff a b ≤ 3599 := by unfold mdiff; omega
  have h3 : monB a (mdiff a b) = 12 * yOf b + mOf b - 1 := by unfold monB mdiff; omega
  exact ⟨h1, h2, add_yes ha (by omega) (by omega) (by omega) (by omega)⟩
def RetN (n : Int) (w : World) (e : Ending) (w' : World) : Prop := e = .returned (.int .i64 n) ∧ Below w.heap.size w w'
set_option maxHeartbeats 1000000 in
theorem whole_any (a b : Int) (w : World) (ha : okDay a = true) (hb : okDay b = true) : Calls Tryd.prog 35 #[.int .i64 a, .int .i64 b] w (RetN (wholeN a b) w) := by
  obtain ⟨a0, a1⟩ := (okDay_iff a).1 ha
  obtain ⟨b0, b1⟩ := (okDay_iff b).1 hb
  have va := (date_valid a a0 a1).1
  have vb := (date_valid b b0 b1).1
  have y0 := va.y0; have y1 := va.y1; have m0 := va.m0; have m1 := va.m1
  have z0 := vb.y0; have z1 := vb.y1; have k0 := vb.m0; have k1 := vb.m1
  obtain ⟨h1, h2, h3, h4⟩ := mdiff_add ha hb
  have hm : mdiff a b = 12 * (yOf b - yOf a) + mOf b - mOf a := rfl
  have hadd : ∀ w, Calls Tryd.prog 12 #[.int .i64 a, .int .i64 (12 * (yOf b - yOf a) + mOf b - mOf a)] w (Ret2 (addD a (mdiff a b)) 0 w) := fun w => by
    have := Add_any a (mdiff a b) w
    rw [h3, h4] at this
    rwa [hm] at this
  have HA := Lib.hid hadd
  have HM := Lib.hid hm
  clear hadd h3 h4 va vb
  by_cases hc : b < addD a (mdiff a b)
  · have HW := Lib.hid (show wholeN a b = mdiff a b - 1 by simp [wholeN, hc])
    have hd : decide (b < addD a (mdiff a b)) = true := by simp [hc]
    rw [hm] at h1 h2
    clear hm
    go_enter Tryd.func35, Tryd.ntmps35
    go_wp2_with fail
    refine (Parts_yes _ _ ha).mono ?_
    rintro e w1 ⟨rfl, hb1⟩
    go_wp2_with fail
    refine (Parts_yes _ _ hb).mono ?_
    rintro e w2 ⟨rfl, hb2⟩
    go_wp2_with fail
    refine (HA.out _).mono ?_
    rintro e w3 ⟨rfl, hb3⟩
    go_wp2_with fail
    go_ret
    exact ⟨ret_int (by rw [HW.out, HM.out]), (hb1.trans (hb2.mono hb1.size)).trans (hb3.mono (Nat.le_trans hb1.size hb2.size))⟩
  · have HW := Lib.hid (show wholeN a b = mdiff a b by simp [wholeN, hc])
    have hd : decide (b < addD a (mdiff a b)) = false := by simp; omega
    rw [hm] at h1 h2
    clear hm
    go_enter Tryd.func35, Tryd.ntmps35
    go_wp2_with fail
    refine (Parts_yes _ _ ha).mono ?_
    rintro e w1 ⟨rfl, hb1⟩
    go_wp2_with fail
    refine (Parts_yes _ _ hb).mono ?_
    rintro e w2 ⟨rfl, hb2⟩
    go_wp2_with fail
    refine (HA.out _).mono ?_
    rintro e w3 ⟨rfl, hb3⟩
    go_wp2_with fail
    go_ret
    exact ⟨ret_int (by rw [HW.out, HM.out]), (hb1.trans (hb2.mono hb1.size)).trans (hb3.mono (Nat.le_trans hb1.size hb2.size))⟩
theorem whole_bound {a b : Int} (ha : okDay a = true) (hb : okDay b = true) : -3600 ≤ wholeN a b ∧ wholeN a b ≤ 3599 := by
  obtain ⟨h1, h2, _, _⟩ := mdiff_add ha hb
  unfold wholeN; split <;> omega
theorem mon_no {a b : Int} (h : (okDay a && okDay b) = false) : monN a b = 0 ∧ monE a b = 13 := by simp [monN, monE, h]
theorem mon_yes {a b : Int} (ha : okDay a = true) (hb : okDay b = true) : monN a b = (if b < a then -wholeN b a else wholeN a b) ∧ monE a b = 0 := by simp [monN, monE, ha, hb]
theorem Months_any (a b : Int) (w : World) : Calls Tryd.prog 14 #[.int .i64 a, .int .i64 b] w (Ret2 (monN a b) (monE a b) w) := by
  cases ha : okDay a
  · have HN := Lib.hid (mon_no (a := a) (b := b) (by simp [ha]))
    go_enter Tryd.func14, Tryd.ntmps14
    go_wp2_with (go_at_call 34; refine (valid_no _ _ (by assumption)).mono ?_; rintro e w' ⟨rfl, rfl⟩)
    go_ret2
    exact ⟨tup2 HN.out.1.symm HN.out.2.symm, Below.refl _ _⟩
  cases hb : okDay b
  · have HN := Lib.hid (mon_no (a := a) (b := b) (by simp [ha, hb]))
    go_enter Tryd.func14, Tryd.ntmps14
    go_wp2_with fail
    refine (valid_yes _ _ ha).mono ?_
    rintro e w' ⟨rfl, rfl⟩
    go_wp2_with fail
    refine (valid_no _ _ hb).mono ?_
    rintro e w' ⟨rfl, rfl⟩
    go_wp2_with fail
    go_ret2
    exact ⟨tup2 HN.out.1.symm HN.out.2.symm, Below.refl _ _⟩
  have HN := mon_yes ha hb
  by_cases hlt : b < a
  · rw [if_pos hlt] at HN
    have HH := Lib.hid HN
    clear HN
    have HN := HH
    clear HH
    have wb := whole_bound hb ha
    go_enter Tryd.func14, Tryd.ntmps14
    go_wp2_with fail
    refine (valid_yes _ _ ha).mono ?_
    rintro e w' ⟨rfl, rfl⟩
    go_wp2_with fail
    refine (valid_yes _ _ hb).mono ?_
    rintro e w' ⟨rfl, rfl⟩
    go_wp2_with fail
    refine (whole_any _ _ _ hb ha).mono ?_
    rintro e w1 ⟨rfl, hb1⟩
    go_wp2_with fail
    go_ret2
    exact ⟨tup2 (by rw [HN.out.1]) HN.out.2.symm, hb1⟩
  · rw [if_neg hlt] at HN
    have HH := Lib.hid HN
    clear HN
    have HN := HH
    clear HH
    go_enter Tryd.func14, Tryd.ntmps14
    go_wp2_with fail
    refine (valid_yes _ _ ha).mono ?_
    rintro e w' ⟨rfl, rfl⟩
    go_wp2_with fail
    refine (valid_yes _ _ hb).mono ?_
    rintro e w' ⟨rfl, rfl⟩
    go_wp2_with fail
    refine (whole_any _ _ _ ha hb).mono ?_
    rintro e w1 ⟨rfl, hb1⟩
    go_wp2_with fail
    go_ret2
    exact ⟨tup2 (by rw [HN.out.1]) HN.out.2.symm, hb1⟩
set_option maxHeartbeats 1000000 in
theorem rMonths_le (a b : Int) (w : World) (ha : okDay a = true) (hb : okDay b = true) (hlt : ¬ b < a) : Calls Tryd.prog 15 #[.int .i64 a, .int .i64 b] w (Ret2 (wholeN a b) 0 w) := by
  obtain ⟨a0, a1⟩ := (okDay_iff a).1 ha
  obtain ⟨b0, b1⟩ := (okDay_iff b).1 hb
  have va := (date_valid a a0 a1).1
  have vb := (date_valid b b0 b1).1
  have y0 := va.y0; have y1 := va.y1; have m0 := va.m0; have m1 := va.m1
  have z0 := vb.y0; have z1 := vb.y1; have k0 := vb.m0; have k1 := vb.m1
  obtain ⟨h1, h2, h3, h4⟩ := mdiff_add ha hb
  have hm : mdiff a b = 12 * (yOf b - yOf a) + mOf b - mOf a := rfl
  have hadd : ∀ w, Calls Tryd.prog 13 #[.int .i64 a, .int .i64 (12 * (yOf b - yOf a) + mOf b - mOf a)] w (Ret2 (addD a (mdiff a b)) 0 w) := fun w => by
    have := rAdd_any a (mdiff a b) w
    rw [h3, h4] at this
    rwa [hm] at this
  have HA := Lib.hid hadd
  have HM := Lib.hid hm
  have hle : a ≤ b := by omega
  clear hadd h3 h4 va vb hlt
  by_cases hc : b < addD a (mdiff a b)
  · have HW := Lib.hid (show wholeN a b = mdiff a b - 1 by simp [wholeN, hc])
    have hd : decide (b < addD a (mdiff a b)) = true := by simp [hc]
    rw [hm] at h1 h2
    clear hm
    go_enter Tryd.func15, Tryd.ntmps15
    go_wp2_with fail
    refine (check_yes _ _ ha).mono ?_
    rintro e w' ⟨rfl, rfl⟩
    go_wp2_with fail
    refine (check_yes _ _ hb).mono ?_
    rintro e w' ⟨rfl, rfl⟩
    go_wp2_with fail
    refine (rParts_yes _ _ ha).mono ?_
    rintro e w1 ⟨rfl, hb1⟩
    go_wp2_with fail
    refine (rParts_yes _ _ hb).mono ?_
    rintro e w2 ⟨rfl, hb2⟩
    go_wp2_with fail
    refine (HA.out _).mono ?_
    rintro e w3 ⟨rfl, hb3⟩
    go_wp2_with fail
    go_ret2
    exact ⟨tup2 (by rw [HW.out, HM.out]) rfl, (hb1.trans (hb2.mono hb1.size)).trans (hb3.mono (Nat.le_trans hb1.size hb2.size))⟩
  · have HW := Lib.hid (show wholeN a b = mdiff a b by simp [wholeN, hc])
    have hd : decide (b < addD a (mdiff a b)) = false := by simp; omega
    rw [hm] at h1 h2
    clear hm
    go_enter Tryd.func15, Tryd.ntmps15
    go_wp2_with fail
    refine (check_yes _ _ ha).mono ?_
    rintro e w' ⟨rfl, rfl⟩
    go_wp2_with fail
    refine (check_yes _ _ hb).mono ?_
    rintro e w' ⟨rfl, rfl⟩
    go_wp2_with fail
    refine (rParts_yes _ _ ha).mono ?_
    rintro e w1 ⟨rfl, hb1⟩
    go_wp2_with fail
    refine (rParts_yes _ _ hb).mono ?_
    rintro e w2 ⟨rfl, hb2⟩
    go_wp2_with fail
    refine (HA.out _).mono ?_
    rintro e w3 ⟨rfl, hb3⟩
    go_wp2_with fail
    go_ret2
    exact ⟨tup2 (by rw [HW.out, HM.out]) rfl, (hb1.trans (hb2.mono hb1.size)).trans (hb3.mono (Nat.le_trans hb1.size hb2.size))⟩
theorem rMonths_any (a b : Int) (w : World) : Calls Tryd.prog 15 #[.int .i64 a, .int .i64 b] w (Ret2 (monN a b) (monE a b) w) := by
  cases ha : okDay a
  · have HN := Lib.hid (mon_no (a := a) (b := b) (by simp [ha]))
    go_enter Tryd.func15, Tryd.ntmps15
    go_wp2_with (go_at_call 36; refine (check_no _ _ (by assumption)).mono ?_; rintro e w' ⟨rfl, rfl⟩)
    go_ret2
    exact ⟨tup2 HN.out.1.symm HN.out.2.symm, Below.refl _ _⟩
  cases hb : okDay b
  · have HN := Lib.hid (mon_no (a := a) (b := b) (by simp [ha, hb]))
    go_enter Tryd.func15, Tryd.ntmps15
    go_wp2_with fail
    refine (check_yes _ _ ha).mono ?_
    rintro e w' ⟨rfl, rfl⟩
    go_wp2_with fail
    refine (check_no _ _ hb).mono ?_
    rintro e w' ⟨rfl, rfl⟩
    go_wp2_with fail
    go_ret2
    exact ⟨tup2 HN.out.1.symm HN.out.2.symm, Below.refl _ _⟩
  have HN := mon_yes ha hb
  by_cases hlt : b < a
  · rw [if_pos hlt] at HN
    have HH := Lib.hid HN
    clear HN
    have HN := HH
    clear HH
    have wb := whole_bound hb ha
    go_enter Tryd.func15, Tryd.ntmps15
    go_wp2_with fail
    refine (check_yes _ _ ha).mono ?_
    rintro e w' ⟨rfl, rfl⟩
    go_wp2_with fail
    refine (check_yes _ _ hb).mono ?_
    rintro e w' ⟨rfl, rfl⟩
    go_wp2_with fail
    refine (rMonths_le _ _ _ hb ha (by omega)).mono ?_
    rintro e w1 ⟨rfl, hb1⟩
    go_wp2_with fail
    go_ret2
    exact ⟨tup2 (by rw [HN.out.1]) HN.out.2.symm, hb1⟩
  · rw [if_neg hlt] at HN
    rw [HN.1, HN.2]
    exact rMonths_le a b w ha hb hlt
end Go.Proofs.YtjkpfjnhgbcnkaaDoor
