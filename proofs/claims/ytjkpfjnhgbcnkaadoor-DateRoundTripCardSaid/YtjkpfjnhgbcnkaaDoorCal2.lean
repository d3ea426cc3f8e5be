/- The calendar in plain integers, second part: shifts by months, the next day. -/
import Derived.Test.YtjkpfjnhgbcnkaaDoorMon
namespace Go.Proofs.YtjkpfjnhgbcnkaaDoor

theorem date_ok {d : Int} (h : okDay d = true) : Valid (yOf d) (mOf d) (dOf d) ∧ num (yOf d) (mOf d) (dOf d) = d := by
  obtain ⟨a, b⟩ := (okDay_iff d).1 h
  exact date_valid d a b
theorem num_ok {y m d : Int} (h : Valid y m d) : okDay (num y m d) = true := (okDay_iff _).2 (num_range h)
theorem day31 {d : Int} (h : okDay d = true) : dOf d ≤ 31 := by
  have := (date_ok h).1.d1
  have := len_lo (yOf d) (mOf d)
  omega
theorem last_date : yOf 84005 = 2199 ∧ mOf 84005 = 12 ∧ dOf 84005 = 31 := dateOf_eq ((vdB_iff _ _ _).1 (by decide)) (by decide)
theorem last_val {d : Int} (h : okDay d = true) : lastD d = num (yOf d) (mOf d) (len (yOf d) (mOf d)) ∧ dayE d = 0 := by simp [lastD, dayE, h]
theorem next_in {d : Int} (h : okDay d = true) (hl : d < lastD d) : yOf (d + 1) = yOf d ∧ mOf (d + 1) = mOf d ∧ dOf (d + 1) = dOf d + 1 := by
  obtain ⟨hv, he⟩ := date_ok h
  rw [(last_val h).1] at hl
  refine dateOf_eq ⟨hv.y0, hv.y1, hv.m0, hv.m1, by have := hv.d0; omega, ?_⟩ ?_
  · unfold num at hl he; omega
  · unfold num at he ⊢; omega
theorem last_ge {d : Int} (h : okDay d = true) : d ≤ lastD d := by
  obtain ⟨hv, he⟩ := date_ok h
  rw [(last_val h).1]
  have := hv.d1
  unfold num at he ⊢; omega
theorem next_out {d : Int} (h : okDay d = true) (hl : d = lastD d) (hm : d ≠ 84005) : dOf (d + 1) = 1 ∧ 12 * yOf (d + 1) + mOf (d + 1) = 12 * yOf d + mOf d + 1 := by
  obtain ⟨hv, he⟩ := date_ok h
  rw [(last_val h).1] at hl
  have hd : dOf d = len (yOf d) (mOf d) := by unfold num at hl he; omega
  have m0 := hv.m0
  have m1 := hv.m1
  have hs := cum_succ (yOf d) (mOf d) m0 m1
  by_cases h12 : mOf d = 12
  · have hy : yOf d ≤ 2198 := by
      rcases Int.lt_or_eq_of_le hv.y1 with h | h
      · omega
      · exfalso
        apply hm
        rw [← he, h12, h, hd, h12, h]
        decide
    have hb := beg_succ (yOf d)
    have hlo := len_lo (yOf d + 1) 1
    have hc := cum_end (yOf d)
    rw [h12] at hs hd he
    rw [show (12 : Int) + 1 = 13 from rfl] at hs
    obtain ⟨a, b, c⟩ := dateOf_eq (y := yOf d + 1) (m := 1) (d := 1) (n := d + 1) ⟨by have := hv.y0; omega, by omega, by omega, by omega, by omega, by omega⟩ (by
      unfold num at he ⊢
      rw [cum_one]
      omega)
    rw [a, b, c]
    exact ⟨rfl, by omega⟩
  · have hlo := len_lo (yOf d) (mOf d + 1)
    obtain ⟨a, b, c⟩ := dateOf_eq (y := yOf d) (m := mOf d + 1) (d := 1) (n := d + 1) ⟨hv.y0, hv.y1, by omega, by omega, by omega, by omega⟩ (by
      unfold num at he ⊢
      omega)
    rw [a, b, c]
    exact ⟨rfl, by omega⟩
/-- a shifted day: its date -/
theorem shift_date {d n : Int} (h : okDay d = true) (h0 : 22800 ≤ monB d n) (h1 : monB d n < 26400) :
    Valid (monB d n / 12) (monB d n % 12 + 1) (min (dOf d) (len (monB d n / 12) (monB d n % 12 + 1))) := shift_valid (monB d n) (dOf d) h0 h1 (date_ok h).1.d0
theorem shift_of {d n : Int} (h : okDay d = true) (h0 : 22800 ≤ monB d n) (h1 : monB d n < 26400) :
    yOf (addD d n) = monB d n / 12 ∧ mOf (addD d n) = monB d n % 12 + 1 ∧ dOf (addD d n) = min (dOf d) (len (monB d n / 12) (monB d n % 12 + 1)) := dateOf_eq (shift_date h h0 h1) rfl
theorem shift_ok {d n : Int} (h : okDay d = true) (h0 : 22800 ≤ monB d n) (h1 : monB d n < 26400) : okDay (addD d n) = true := num_ok (shift_date h h0 h1)
theorem mon_range {d : Int} (h : okDay d = true) : 22800 ≤ monB d 0 ∧ monB d 0 < 26400 := by
  have v := (date_ok h).1
  have := v.y0; have := v.y1; have := v.m0; have := v.m1
  unfold monB; omega
theorem monB_add (d n : Int) : monB d n = monB d 0 + n := by unfold monB; omega
theorem lt_of_mon {a b : Int} (ha : okDay a = true) (hb : okDay b = true) (h : monB a 0 < monB b 0) : a < b := by
  obtain ⟨va, ea⟩ := date_ok ha
  obtain ⟨vb, eb⟩ := date_ok hb
  have := num_lt va vb (by unfold monB at h; omega)
  omega
theorem mon_of_le {a b : Int} (ha : okDay a = true) (hb : okDay b = true) (h : a ≤ b) : monB a 0 ≤ monB b 0 := by
  rcases Int.lt_or_le (monB b 0) (monB a 0) with h' | h'
  · have := lt_of_mon hb ha h'
    omega
  · exact h'
theorem shift_mon {d n : Int} (h : okDay d = true) (h0 : 22800 ≤ monB d n) (h1 : monB d n < 26400) : monB (addD d n) 0 = monB d n := by
  obtain ⟨a, b, _⟩ := shift_of h h0 h1
  conv => lhs; unfold monB
  rw [a, b]
  omega
theorem mdiff_mon (a b : Int) : mdiff a b = monB b 0 - monB a 0 := by unfold mdiff monB; omega
theorem same_mon {a b : Int} (ha : okDay a = true) (hb : okDay b = true) (h : monB a 0 = monB b 0) : yOf a = yOf b ∧ mOf a = mOf b := by
  have va := (date_ok ha).1
  have vb := (date_ok hb).1
  have := va.m0; have := va.m1; have := vb.m0; have := vb.m1
  unfold monB at h
  constructor <;> omega
theorem shift_zero {a : Int} (ha : okDay a = true) : addD a 0 = a := by
  obtain ⟨r0, r1⟩ := mon_range ha
  have h := shift_mon ha r0 r1
  obtain ⟨e1, e2⟩ := same_mon (shift_ok ha r0 r1) ha h
  obtain ⟨_, _, e3⟩ := shift_of ha r0 r1
  obtain ⟨va, ea⟩ := date_ok ha
  obtain ⟨vx, ex⟩ := date_ok (shift_ok ha r0 r1)
  obtain ⟨f1, f2, _⟩ := shift_of ha r0 r1
  rw [← f1, ← f2, e1, e2, Int.min_eq_left va.d1] at e3
  rw [← ex, e1, e2, e3, ea]
theorem whole_self {a : Int} (ha : okDay a = true) : wholeN a a = 0 := by
  have h : mdiff a a = 0 := by rw [mdiff_mon]; omega
  rw [wholeN, h, shift_zero ha, if_neg (by omega)]
theorem mon_neg {a b : Int} (ha : okDay a = true) (hb : okDay b = true) : monN a b = - monN b a := by
  rw [(mon_yes ha hb).1, (mon_yes hb ha).1]
  rcases Int.lt_trichotomy a b with h | h | h
  · rw [if_neg (by omega), if_pos h]; omega
  · subst h
    rw [if_neg (by omega), whole_self ha]; rfl
  · rw [if_pos h, if_neg (by omega)]
/-- what the whole months between two days do -/
theorem whole_law {a b : Int} (ha : okDay a = true) (hb : okDay b = true) (h : a ≤ b) :
    0 ≤ wholeN a b ∧ wholeN a b ≤ 3599 ∧ addE a (wholeN a b) = 0 ∧ addN a (wholeN a b) ≤ b ∧ ((addE a (wholeN a b + 1) = 0 ∧ b < addN a (wholeN a b + 1)) ∨ addE a (wholeN a b + 1) = 13) := by
  have hm := mon_of_le ha hb h
  obtain ⟨a0, a1⟩ := mon_range ha
  obtain ⟨b0, b1⟩ := mon_range hb
  have hk := mdiff_mon a b
  have hadd : ∀ n, 0 ≤ n → n ≤ 3600 → monB a n < 26400 → addN a n = addD a n ∧ addE a n = 0 := fun n h0 h1 h2 => add_yes ha (by omega) (by omega) (by rw [monB_add]; omega) h2
  have hB : monB a (mdiff a b) = monB b 0 := by rw [monB_add]; omega
  by_cases hc : b < addD a (mdiff a b)
  · have hw : wholeN a b = mdiff a b - 1 := by simp [wholeN, hc]
    have hpos : 1 ≤ mdiff a b := by
      rcases Int.lt_or_le (mdiff a b) 1 with h' | h'
      · have e : mdiff a b = 0 := by omega
        rw [e, shift_zero ha] at hc
        omega
      · exact h'
    have hB1 : monB a (mdiff a b - 1) = monB b 0 - 1 := by rw [monB_add]; omega
    obtain ⟨e1, e2⟩ := hadd (mdiff a b - 1) (by omega) (by omega) (by omega)
    obtain ⟨e3, e4⟩ := hadd (mdiff a b) (by omega) (by omega) (by omega)
    have hlt : addD a (mdiff a b - 1) < b := lt_of_mon (shift_ok ha (by omega) (by omega)) hb (by rw [shift_mon ha (by omega) (by omega)]; omega)
    rw [hw, show mdiff a b - 1 + 1 = mdiff a b by omega, e1, e2, e3, e4]
    exact ⟨by omega, by omega, rfl, by omega, .inl ⟨rfl, hc⟩⟩
  · have hw : wholeN a b = mdiff a b := by simp [wholeN, hc]
    obtain ⟨e3, e4⟩ := hadd (mdiff a b) (by omega) (by omega) (by omega)
    rw [hw, e3, e4]
    refine ⟨by omega, by omega, rfl, by omega, ?_⟩
    have hB1 : monB a (mdiff a b + 1) = monB b 0 + 1 := by rw [monB_add]; omega
    by_cases hr : monB a (mdiff a b + 1) < 26400
    · obtain ⟨e1, e2⟩ := hadd (mdiff a b + 1) (by omega) (by omega) hr
      rw [e1, e2]
      exact .inl ⟨rfl, lt_of_mon hb (shift_ok ha (by omega) (by omega)) (by rw [shift_mon ha (by omega) (by omega)]; omega)⟩
    · exact .inr (add_out ha (by omega) (by omega) (.inr (by omega))).2
/-- shifting keeps the order -/
theorem shift_le {a b n : Int} (ha : okDay a = true) (hb : okDay b = true) (h : a ≤ b) (a0 : 22800 ≤ monB a n) (a1 : monB a n < 26400) (b0 : 22800 ≤ monB b n) (b1 : monB b n < 26400) : addD a n ≤ addD b n := by
  have hm := mon_of_le ha hb h
  rcases Int.lt_or_eq_of_le hm with hlt | heq
  · have := lt_of_mon (shift_ok ha a0 a1) (shift_ok hb b0 b1) (by rw [shift_mon ha a0 a1, shift_mon hb b0 b1, monB_add, monB_add b]; omega)
    omega
  · obtain ⟨e1, e2⟩ := same_mon ha hb heq
    obtain ⟨va, ea⟩ := date_ok ha
    obtain ⟨vb, eb⟩ := date_ok hb
    have hd : dOf a ≤ dOf b := by
      rw [← ea, ← eb, e1, e2] at h
      unfold num at h; omega
    have e : monB a n = monB b n := by rw [monB_add, monB_add b, heq]
    unfold addD
    rw [e]
    unfold num
    omega
end Go.Proofs.YtjkpfjnhgbcnkaaDoor
