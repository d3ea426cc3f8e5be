/- Contracts of Weekday, Last, AddMonths, Months, and of the reference's. -/
import Derived.Test.YtjkpfjnhgbcnkaaDoorParts
namespace Go.Proofs.YtjkpfjnhgbcnkaaDoor
open Go.RowKit

theorem Parts_yes (d : Int) (w : World) (h : okDay d = true) : Calls Tryd.prog 22 #[.int .i64 d] w (Ret4 (yOf d) (mOf d) (dOf d) 0 w) := by
  have := Parts_any d w
  rwa [(p_yes h).1, (p_yes h).2.1, (p_yes h).2.2.1, (p_yes h).2.2.2] at this
theorem Parts_no (d : Int) (w : World) (h : okDay d = false) : Calls Tryd.prog 22 #[.int .i64 d] w (Ret4 0 0 0 13 w) := by
  have := Parts_any d w
  rwa [(p_no h).1, (p_no h).2.1, (p_no h).2.2.1, (p_no h).2.2.2] at this
theorem rParts_yes (d : Int) (w : World) (h : okDay d = true) : Calls Tryd.prog 23 #[.int .i64 d] w (Ret4 (yOf d) (mOf d) (dOf d) 0 w) := by
  have := rParts_any d w
  rwa [(p_yes h).1, (p_yes h).2.1, (p_yes h).2.2.1, (p_yes h).2.2.2] at this
theorem rParts_no (d : Int) (w : World) (h : okDay d = false) : Calls Tryd.prog 23 #[.int .i64 d] w (Ret4 0 0 0 13 w) := by
  have := rParts_any d w
  rwa [(p_no h).1, (p_no h).2.1, (p_no h).2.2.1, (p_no h).2.2.2] at this
theorem Of_yes (y m d : Int) (w : World) (h : Valid y m d) : Calls Tryd.prog 19 #[.int .i64 y, .int .i64 m, .int .i64 d] w (Ret2 (num y m d) 0 w) := by
  have := Of_any y m d w
  rwa [(of_yes h).1, (of_yes h).2] at this
theorem rOf_yes (y m d : Int) (w : World) (h : Valid y m d) : Calls Tryd.prog 21 #[.int .i64 y, .int .i64 m, .int .i64 d] w (Ret2 (num y m d) 0 w) := by
  have := rOf_any y m d w
  rwa [(of_yes h).1, (of_yes h).2] at this

def wkD (d : Int) : Int := if okDay d then (d + 25567) % 7 else 0
def dayE (d : Int) : Int := if okDay d then 0 else 13
noncomputable def lastD (d : Int) : Int := if okDay d then num (yOf d) (mOf d) (len (yOf d) (mOf d)) else 0
theorem Weekday_any (d : Int) (w : World) : Calls Tryd.prog 17 #[.int .i64 d] w (Ret2 (wkD d) (dayE d) w) := by
  cases hd : okDay d
  · have HN := Lib.hid (show wkD d = 0 ∧ dayE d = 13 by simp [wkD, dayE, hd])
    go_enter Tryd.func17, Tryd.ntmps17
    go_wp2_with (go_at_call 34; refine (valid_no _ _ (by assumption)).mono ?_; rintro e w' ⟨rfl, rfl⟩)
    go_ret2
    exact ⟨tup2 HN.out.1.symm HN.out.2.symm, Below.refl _ _⟩
  · obtain ⟨d0, d1⟩ := (okDay_iff d).1 hd
    have HN := Lib.hid (show wkD d = (d + 25567) % 7 ∧ dayE d = 0 by simp [wkD, dayE, hd])
    go_enter Tryd.func17, Tryd.ntmps17
    go_wp2_with (go_at_call 34; refine (valid_yes _ _ (by assumption)).mono ?_; rintro e w' ⟨rfl, rfl⟩)
    go_ret2
    exact ⟨tup2 (by rw [HN.out.1]; omega) HN.out.2.symm, Below.refl _ _⟩
theorem rWeekday_any (d : Int) (w : World) : Calls Tryd.prog 24 #[.int .i64 d] w (Ret2 (wkD d) (dayE d) w) := by
  cases hd : okDay d
  · have HN := Lib.hid (show wkD d = 0 ∧ dayE d = 13 by simp [wkD, dayE, hd])
    go_enter Tryd.func24, Tryd.ntmps24
    go_wp2_with (go_at_call 36; refine (check_no _ _ (by assumption)).mono ?_; rintro e w' ⟨rfl, rfl⟩)
    go_ret2
    exact ⟨tup2 HN.out.1.symm HN.out.2.symm, Below.refl _ _⟩
  · obtain ⟨d0, d1⟩ := (okDay_iff d).1 hd
    have HN := Lib.hid (show wkD d = (d + 25567) % 7 ∧ dayE d = 0 by simp [wkD, dayE, hd])
    have hw : IntKind.i64.wrap (d - -25567) = d + 25567 := by rw [IntWalk.i64_in _ (by omega)]; omega
    go_enter Tryd.func24, Tryd.ntmps24
    go_wp2_with (go_at_call 36; refine (check_yes _ _ (by assumption)).mono ?_; rintro e w' ⟨rfl, rfl⟩)
    go_ret2
    exact ⟨tup2 HN.out.1.symm HN.out.2.symm, Below.refl _ _⟩
theorem Last_any (d : Int) (w : World) : Calls Tryd.prog 25 #[.int .i64 d] w (Ret2 (lastD d) (dayE d) w) := by
  cases hd : okDay d
  · have HN := Lib.hid (show lastD d = 0 ∧ dayE d = 13 by simp [lastD, dayE, hd])
    go_enter Tryd.func25, Tryd.ntmps25
    go_wp2_with (go_at_call 22; refine (Parts_no _ _ (by assumption)).mono ?_; rintro e w' ⟨rfl, hb⟩)
    go_ret2
    exact ⟨tup2 HN.out.1.symm HN.out.2.symm, hb⟩
  · obtain ⟨d0, d1⟩ := (okDay_iff d).1 hd
    obtain ⟨hv, he⟩ := date_valid d d0 d1
    have HN := Lib.hid (show lastD d = num (yOf d) (mOf d) (len (yOf d) (mOf d)) ∧ dayE d = 0 by simp [lastD, dayE, hd])
    have hl := len_lo (yOf d) (mOf d)
    have m0 := hv.m0
    have m1 := hv.m1
    have hv2 : Valid (yOf d) (mOf d) (len (yOf d) (mOf d)) := ⟨hv.y0, hv.y1, hv.m0, hv.m1, by omega, by omega⟩
    clear he
    go_enter Tryd.func25, Tryd.ntmps25
    go_wp2_with fail
    refine (Parts_yes _ _ hd).mono ?_
    rintro e w1 ⟨rfl, hb⟩
    go_wp2_with fail
    refine (length_any _ _ _ m0 m1).mono ?_
    rintro e w2 ⟨rfl, hb2⟩
    go_wp2_with fail
    refine (Of_yes _ _ _ _ hv2).mono ?_
    rintro e w3 ⟨rfl, hb3⟩
    go_wp2_with fail
    go_ret2
    exact ⟨tup2 HN.out.1.symm HN.out.2.symm, (hb.trans (hb2.mono hb.size)).trans (hb3.mono (Nat.le_trans hb.size hb2.size))⟩
theorem rLast_any (d : Int) (w : World) : Calls Tryd.prog 26 #[.int .i64 d] w (Ret2 (lastD d) (dayE d) w) := by
  cases hd : okDay d
  · have HN := Lib.hid (show lastD d = 0 ∧ dayE d = 13 by simp [lastD, dayE, hd])
    go_enter Tryd.func26, Tryd.ntmps26
    go_wp2_with (go_at_call 23; refine (rParts_no _ _ (by assumption)).mono ?_; rintro e w' ⟨rfl, hb⟩)
    go_ret2
    exact ⟨tup2 HN.out.1.symm HN.out.2.symm, hb⟩
  · obtain ⟨d0, d1⟩ := (okDay_iff d).1 hd
    obtain ⟨hv, he⟩ := date_valid d d0 d1
    have HN := Lib.hid (show lastD d = num (yOf d) (mOf d) (len (yOf d) (mOf d)) ∧ dayE d = 0 by simp [lastD, dayE, hd])
    have hl := len_lo (yOf d) (mOf d)
    have m0 := hv.m0
    have m1 := hv.m1
    have q0 := hv.d0
    have q1 := hv.d1
    have HE := Lib.hid he
    clear he
    go_enter Tryd.func26, Tryd.ntmps26
    go_wp2_with fail
    refine (rParts_yes _ _ hd).mono ?_
    rintro e w1 ⟨rfl, hb⟩
    go_wp2_with fail
    refine (rlength_any _ _ _ m0 m1).mono ?_
    rintro e w2 ⟨rfl, rfl⟩
    go_wp2_with fail
    go_ret2
    exact ⟨tup2 (by rw [HN.out.1]; have := HE.out; unfold num at this ⊢; omega) HN.out.2.symm, hb⟩

theorem add_no {d n : Int} (h : okDay d = false) : addN d n = 0 ∧ addE d n = 13 := by
  have : addE d n = 13 := by simp [addE, h]
  exact ⟨by simp [addN, this], this⟩
theorem add_range {d n : Int} (h : okDay d = true) (hn : n < -4800 ∨ 4800 < n) : addN d n = 0 ∧ addE d n = 2 := by
  have : addE d n = 2 := by rw [addE, if_pos h, if_neg (by omega)]
  exact ⟨by simp [addN, this], this⟩
theorem add_out {d n : Int} (h : okDay d = true) (h1 : -4800 ≤ n) (h2 : n ≤ 4800) (hn : monB d n < 22800 ∨ 26400 ≤ monB d n) : addN d n = 0 ∧ addE d n = 13 := by
  have : addE d n = 13 := by rw [addE, if_pos h, if_pos (by omega), if_neg (by omega)]
  exact ⟨by simp [addN, this], this⟩
theorem add_yes {d n : Int} (h : okDay d = true) (h1 : -4800 ≤ n) (h2 : n ≤ 4800) (h3 : 22800 ≤ monB d n) (h4 : monB d n < 26400) : addN d n = addD d n ∧ addE d n = 0 := by
  have : addE d n = 0 := by rw [addE, if_pos h, if_pos (by omega), if_pos (by omega)]
  exact ⟨by simp [addN, this], this⟩
set_option maxHeartbeats 1000000 in
theorem Add_any (d n : Int) (w : World) : Calls Tryd.prog 12 #[.int .i64 d, .int .i64 n] w (Ret2 (addN d n) (addE d n) w) := by
  cases hd : okDay d
  · have HN := Lib.hid (add_no (n := n) hd)
    go_enter Tryd.func12, Tryd.ntmps12
    go_wp2_with (go_at_call 22; refine (Parts_no _ _ (by assumption)).mono ?_; rintro e w' ⟨rfl, hb⟩)
    go_ret2
    exact ⟨tup2 HN.out.1.symm HN.out.2.symm, hb⟩
  obtain ⟨d0, d1⟩ := (okDay_iff d).1 hd
  obtain ⟨hv, he⟩ := date_valid d d0 d1
  have y0 := hv.y0
  have y1 := hv.y1
  have m0 := hv.m0
  have m1 := hv.m1
  have q0 := hv.d0
  have q1 := hv.d1
  have hl := len_lo (yOf d) (mOf d)
  have hmon := Lib.hid (show monB d n = 12 * yOf d + mOf d - 1 + n from rfl)
  clear he hv
  by_cases h1 : n < -4800
  · have HN := Lib.hid (add_range hd (.inl h1))
    go_enter Tryd.func12, Tryd.ntmps12
    go_wp2_with (go_at_call 22; refine (Parts_yes _ _ (by assumption)).mono ?_; rintro e w' ⟨rfl, hb⟩)
    go_ret2
    exact ⟨tup2 HN.out.1.symm HN.out.2.symm, hb⟩
  by_cases h2 : 4800 < n
  · have HN := Lib.hid (add_range hd (.inr h2))
    go_enter Tryd.func12, Tryd.ntmps12
    go_wp2_with (go_at_call 22; refine (Parts_yes _ _ (by assumption)).mono ?_; rintro e w' ⟨rfl, hb⟩)
    go_ret2
    exact ⟨tup2 HN.out.1.symm HN.out.2.symm, hb⟩
  have n0 : -4800 ≤ n := by omega
  have n1 : n ≤ 4800 := by omega
  by_cases h3 : 22800 ≤ 12 * yOf d + mOf d - 1 + n ∧ 12 * yOf d + mOf d - 1 + n < 26400
  · obtain ⟨h3, h4⟩ := h3
    have HN := Lib.hid (add_yes hd n0 n1 (by rw [hmon.out]; omega) (by rw [hmon.out]; omega))
    have hv2 := shift_valid (12 * yOf d + mOf d - 1 + n) (dOf d) h3 h4 q0
    have HV := Lib.hid hv2
    have a1 : 1900 ≤ (12 * yOf d + mOf d - 1 + n) / 12 := hv2.y0
    have a2 : (12 * yOf d + mOf d - 1 + n) / 12 ≤ 2199 := hv2.y1
    have a3 := hv2.m0
    have a4 := hv2.m1
    have hl2 := len_lo ((12 * yOf d + mOf d - 1 + n) / 12) ((12 * yOf d + mOf d - 1 + n) % 12 + 1)
    clear hv2
    have hfin := Lib.hid (show addD d n = num ((12 * yOf d + mOf d - 1 + n) / 12) ((12 * yOf d + mOf d - 1 + n) % 12 + 1) (min (dOf d) (len ((12 * yOf d + mOf d - 1 + n) / 12) ((12 * yOf d + mOf d - 1 + n) % 12 + 1))) from rfl)
    go_enter Tryd.func12, Tryd.ntmps12
    go_wp2_with fail
    refine (Parts_yes _ _ hd).mono ?_
    rintro e w1 ⟨rfl, hb⟩
    go_wp2_with fail
    refine (length_any _ _ _ a3 a4).mono ?_
    rintro e w2 ⟨rfl, hb2⟩
    by_cases hm : dOf d ≤ len ((12 * yOf d + mOf d - 1 + n) / 12) ((12 * yOf d + mOf d - 1 + n) % 12 + 1)
    · have hv3 := HV.out
      have hf3 := hfin.out
      rw [Int.min_eq_left hm] at hv3 hf3
      have HF := Lib.hid hf3
      clear hf3
      go_wp2_with fail
      refine (Of_yes _ _ _ _ hv3).mono ?_
      rintro e w3 ⟨rfl, hb3⟩
      go_wp2_with fail
      go_ret2
      exact ⟨tup2 (by rw [HN.out.1, HF.out]) HN.out.2.symm, (hb.trans (hb2.mono hb.size)).trans (hb3.mono (Nat.le_trans hb.size hb2.size))⟩
    · have hv3 := HV.out
      have hf3 := hfin.out
      rw [Int.min_eq_right (by omega)] at hv3 hf3
      have HF := Lib.hid hf3
      clear hf3
      go_wp2_with fail
      refine (Of_yes _ _ _ _ hv3).mono ?_
      rintro e w3 ⟨rfl, hb3⟩
      go_wp2_with fail
      go_ret2
      exact ⟨tup2 (by rw [HN.out.1, HF.out]) HN.out.2.symm, (hb.trans (hb2.mono hb.size)).trans (hb3.mono (Nat.le_trans hb.size hb2.size))⟩
  · have HN := Lib.hid (add_out hd n0 n1 (by rw [hmon.out]; omega))
    have h5 : 12 * yOf d + mOf d - 1 + n < 22800 ∨ 26400 ≤ 12 * yOf d + mOf d - 1 + n := by omega
    clear h3
    rcases h5 with h5 | h5
    · have h6 : (12 * yOf d + mOf d - 1 + n) / 12 < 1900 := by omega
      go_enter Tryd.func12, Tryd.ntmps12
      go_wp2_with (go_at_call 22; refine (Parts_yes _ _ (by assumption)).mono ?_; rintro e w' ⟨rfl, hb⟩)
      go_ret2
      exact ⟨tup2 HN.out.1.symm HN.out.2.symm, hb⟩
    · have h6 : 2199 < (12 * yOf d + mOf d - 1 + n) / 12 := by omega
      go_enter Tryd.func12, Tryd.ntmps12
      go_wp2_with (go_at_call 22; refine (Parts_yes _ _ (by assumption)).mono ?_; rintro e w' ⟨rfl, hb⟩)
      go_ret2
      exact ⟨tup2 HN.out.1.symm HN.out.2.symm, hb⟩
set_option maxHeartbeats 1000000 in
theorem rAdd_any (d n : Int) (w : World) : Calls Tryd.prog 13 #[.int .i64 d, .int .i64 n] w (Ret2 (addN d n) (addE d n) w) := by
  cases hd : okDay d
  · have HN := Lib.hid (add_no (n := n) hd)
    go_enter Tryd.func13, Tryd.ntmps13
    go_wp2_with (go_at_call 23; refine (rParts_no _ _ (by assumption)).mono ?_; rintro e w' ⟨rfl, hb⟩)
    go_ret2
    exact ⟨tup2 HN.out.1.symm HN.out.2.symm, hb⟩
  obtain ⟨d0, d1⟩ := (okDay_iff d).1 hd
  obtain ⟨hv, he⟩ := date_valid d d0 d1
  have y0 := hv.y0
  have y1 := hv.y1
  have m0 := hv.m0
  have m1 := hv.m1
  have q0 := hv.d0
  have q1 := hv.d1
  have hl := len_lo (yOf d) (mOf d)
  have hmon := Lib.hid (show monB d n = 12 * yOf d + mOf d - 1 + n from rfl)
  clear he hv
  by_cases h1 : n < -4800
  · have HN := Lib.hid (add_range hd (.inl h1))
    go_enter Tryd.func13, Tryd.ntmps13
    go_wp2_with (go_at_call 23; refine (rParts_yes _ _ (by assumption)).mono ?_; rintro e w' ⟨rfl, hb⟩)
    go_ret2
    exact ⟨tup2 HN.out.1.symm HN.out.2.symm, hb⟩
  by_cases h2 : 4800 < n
  · have HN := Lib.hid (add_range hd (.inr h2))
    go_enter Tryd.func13, Tryd.ntmps13
    go_wp2_with (go_at_call 23; refine (rParts_yes _ _ (by assumption)).mono ?_; rintro e w' ⟨rfl, hb⟩)
    go_ret2
    exact ⟨tup2 HN.out.1.symm HN.out.2.symm, hb⟩
  have n0 : -4800 ≤ n := by omega
  have n1 : n ≤ 4800 := by omega
  by_cases h3 : 22800 ≤ 12 * yOf d + mOf d - 1 + n ∧ 12 * yOf d + mOf d - 1 + n < 26400
  · obtain ⟨h3, h4⟩ := h3
    have HN := Lib.hid (add_yes hd n0 n1 (by rw [hmon.out]; omega) (by rw [hmon.out]; omega))
    have hv2 := shift_valid (12 * yOf d + mOf d - 1 + n) (dOf d) h3 h4 q0
    have HV := Lib.hid hv2
    have a1 : 1900 ≤ (12 * yOf d + mOf d - 1 + n) / 12 := hv2.y0
    have a2 : (12 * yOf d + mOf d - 1 + n) / 12 ≤ 2199 := hv2.y1
    have a3 := hv2.m0
    have a4 := hv2.m1
    have hl2 := len_lo ((12 * yOf d + mOf d - 1 + n) / 12) ((12 * yOf d + mOf d - 1 + n) % 12 + 1)
    clear hv2
    have hfin := Lib.hid (show addD d n = num ((12 * yOf d + mOf d - 1 + n) / 12) ((12 * yOf d + mOf d - 1 + n) % 12 + 1) (min (dOf d) (len ((12 * yOf d + mOf d - 1 + n) / 12) ((12 * yOf d + mOf d - 1 + n) % 12 + 1))) from rfl)
    go_enter Tryd.func13, Tryd.ntmps13
    go_wp2_with fail
    refine (rParts_yes _ _ hd).mono ?_
    rintro e w1 ⟨rfl, hb⟩
    go_wp2_with fail
    refine (rlength_any _ _ _ a3 a4).mono ?_
    rintro e w2 ⟨rfl, rfl⟩
    by_cases hm : dOf d ≤ len ((12 * yOf d + mOf d - 1 + n) / 12) ((12 * yOf d + mOf d - 1 + n) % 12 + 1)
    · have hv3 := HV.out
      have hf3 := hfin.out
      rw [Int.min_eq_left hm] at hv3 hf3
      have HF := Lib.hid hf3
      clear hf3
      go_wp2_with fail
      refine (rOf_yes _ _ _ _ hv3).mono ?_
      rintro e w3 ⟨rfl, hb3⟩
      go_wp2_with fail
      go_ret2
      exact ⟨tup2 (by rw [HN.out.1, HF.out]) HN.out.2.symm, hb.trans (hb3.mono hb.size)⟩
    · have hv3 := HV.out
      have hf3 := hfin.out
      rw [Int.min_eq_right (by omega)] at hv3 hf3
      have HF := Lib.hid hf3
      clear hf3
      go_wp2_with fail
      refine (rOf_yes _ _ _ _ hv3).mono ?_
      rintro e w3 ⟨rfl, hb3⟩
      go_wp2_with fail
      go_ret2
      exact ⟨tup2 (by rw [HN.out.1, HF.out]) HN.out.2.symm, hb.trans (hb3.mono hb.size)⟩
  · have HN := Lib.hid (add_out hd n0 n1 (by rw [hmon.out]; omega))
    have h5 : 12 * yOf d + mOf d - 1 + n < 22800 ∨ 26400 ≤ 12 * yOf d + mOf d - 1 + n := by omega
    clear h3
    rcases h5 with h5 | h5
    · have h6 : (12 * yOf d + mOf d - 1 + n) / 12 < 1900 := by omega
      go_enter Tryd.func13, Tryd.ntmps13
      go_wp2_with (go_at_call 23; refine (rParts_yes _ _ (by assumption)).mono ?_; rintro e w' ⟨rfl, hb⟩)
      go_ret2
      exact ⟨tup2 HN.out.1.symm HN.out.2.symm, hb⟩
    · have h6 : 2199 < (12 * yOf d + mOf d - 1 + n) / 12 := by omega
      go_enter Tryd.func13, Tryd.ntmps13
      go_wp2_with (go_at_call 23; refine (rParts_yes _ _ (by assumption)).mono ?_; rintro e w' ⟨rfl, hb⟩)
      go_ret2
      exact ⟨tup2 HN.out.1.symm HN.out.2.symm, hb⟩
end Go.Proofs.YtjkpfjnhgbcnkaaDoor
