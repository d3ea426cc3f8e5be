/- The walk of DateMonths. -/
import Derived.Test.YtjkpfjnhgbcnkaaDoorLawC
namespace Go.Proofs.YtjkpfjnhgbcnkaaDoor
open Go.RowKit
set_option linter.unusedVariables false

set_option maxHeartbeats 8000000 in
set_option maxRecDepth 100000 in
theorem months_in (a b n m I K x y mo day z p q last both j c l c2 j2 : Int) (w : World) (ht : Tab w) (ha : okDay a = true) (hb : okDay b = true)
    (hI : n.tmod 1001 = I) (hK : m.tmod 1001 = K) (n0 : -32768 ≤ n) (n1 : n ≤ 32767) (m0 : -32768 ≤ m) (m1 : m ≤ 32767) (i0 : -1000 ≤ I) (i1 : I ≤ 1000) (k0 : -1000 ≤ K) (k1 : K ≤ 1000)
    (y0 : 1900 ≤ y) (y1 : y ≤ 2199) (mo0 : 1 ≤ mo) (mo1 : mo ≤ 12) (z0 : 1900 ≤ z) (z1 : z ≤ 2199) (p0 : 1 ≤ p) (p1 : p ≤ 12)
    (h1 : 22800 ≤ 12 * y + mo - 1 + I) (h2 : 12 * y + mo - 1 + I < 26400) (hz : (12 * z + p - 1 != 12 * y + mo - 1 + I) = false) (hq : decide (day < q) = false)
    (x1 : ∀ w, Calls Tryd.prog 12 #[.int .i64 a, .int .i64 I] w (Ret2 x 0 w)) (x2 : ∀ w, Calls Tryd.prog 22 #[.int .i64 a] w (Ret4 y mo day 0 w)) (x3 : ∀ w, Calls Tryd.prog 22 #[.int .i64 x] w (Ret4 z p q 0 w))
    (x4 : ∀ w, Calls Tryd.prog 25 #[.int .i64 x] w (Ret2 last 0 w)) (x5 : ∀ w, Calls Tryd.prog 12 #[.int .i64 a, .int .i64 (I + K)] w (Ret2 both j w)) (x6 : ∀ w, Calls Tryd.prog 12 #[.int .i64 x, .int .i64 K] w (Ret2 c l w))
    (x7 : ∀ w, Calls Tryd.prog 12 #[.int .i64 b, .int .i64 I] w (Ret2 c2 j2 w))
    (hA : decide (q < day) = false ∨ (decide (q < day) = true ∧ (x != last) = false))
    (hB : decide (day ≤ 28) = false ∨ (decide (day ≤ 28) = true ∧ (j == 0) = false) ∨ (decide (day ≤ 28) = true ∧ j = 0 ∧ l = 0 ∧ c = both))
    (hC : (j2 == 0) = false ∨ (j2 = 0 ∧ decide (a ≤ b) = true ∧ decide (c2 < x) = false ∧ decide (b ≤ a) = false) ∨ (j2 = 0 ∧ decide (a ≤ b) = false ∧ decide (b ≤ a) = true ∧ decide (x < c2) = false) ∨ (j2 = 0 ∧ decide (a ≤ b) = true ∧ decide (c2 < x) = false ∧ decide (b ≤ a) = true ∧ decide (x < c2) = false)) :
    Calls Tryd.prog 9 #[.int .i64 a, .int .i64 b, .int .i16 n, .int .i16 m] w (Yes w) := by
  have X := Lib.hid (And.intro x1 (And.intro x2 (And.intro x3 (And.intro x4 (And.intro x5 (And.intro x6 x7))))))
  clear x1 x2 x3 x4 x5 x6 x7
  rcases hB with hB | ⟨hB1, hB2⟩ | ⟨hB1, rfl, rfl, rfl⟩
  · rcases hA with hA | ⟨hA1, hA2⟩
    all_goals
      rcases hC with hC | ⟨rfl, hC1, hC2, hC3⟩ | ⟨rfl, hC1, hC2, hC3⟩ | ⟨rfl, hC1, hC2, hC3, hC4⟩
      all_goals
        go_enter Tryd.func9, Tryd.ntmps9
        go_wp2_with fail
        refine (lvalid_yes _ _ ha).mono ?_
        rintro e w0 ⟨rfl, rfl⟩
        go_wp2_with fail
        refine (lvalid_yes _ _ hb).mono ?_
        rintro e w0 ⟨rfl, rfl⟩
        go_wp2_with fail
        refine (X.out.1 _).mono ?_
        rintro e w1 ⟨rfl, hb1⟩
        have b1 := hb1
        go_wp2_with fail
        refine (X.out.2.1 _).mono ?_
        rintro e w2 ⟨rfl, hb2⟩
        have b2 := b1.trans (hb2.mono b1.size)
        go_wp2_with fail
        refine (X.out.2.2.1 _).mono ?_
        rintro e w3 ⟨rfl, hb3⟩
        have b3 := b2.trans (hb3.mono b2.size)
        go_wp2_with fail
        refine (X.out.2.2.2.1 _).mono ?_
        rintro e w4 ⟨rfl, hb4⟩
        have b4 := b3.trans (hb4.mono b3.size)
        go_wp2_with fail
        refine (X.out.2.2.2.2.1 _).mono ?_
        rintro e w5 ⟨rfl, hb5⟩
        have b5 := b4.trans (hb5.mono b4.size)
        go_wp2_with fail
        refine (X.out.2.2.2.2.2.2 _).mono ?_
        rintro e w6 ⟨rfl, hb6⟩
        have b6 := b5.trans (hb6.mono b5.size)
        go_wp2_with fail
        refine (awake_any _ (ht.below b6)).mono ?_
        rintro e wa ⟨rfl, hba⟩
        go_wp2_with fail
        go_ret
        exact ⟨rfl, b6.trans (hba.mono b6.size)⟩
  · rcases hA with hA | ⟨hA1, hA2⟩
    all_goals
      rcases hC with hC | ⟨rfl, hC1, hC2, hC3⟩ | ⟨rfl, hC1, hC2, hC3⟩ | ⟨rfl, hC1, hC2, hC3, hC4⟩
      all_goals
        go_enter Tryd.func9, Tryd.ntmps9
        go_wp2_with fail
        refine (lvalid_yes _ _ ha).mono ?_
        rintro e w0 ⟨rfl, rfl⟩
        go_wp2_with fail
        refine (lvalid_yes _ _ hb).mono ?_
        rintro e w0 ⟨rfl, rfl⟩
        go_wp2_with fail
        refine (X.out.1 _).mono ?_
        rintro e w1 ⟨rfl, hb1⟩
        have b1 := hb1
        go_wp2_with fail
        refine (X.out.2.1 _).mono ?_
        rintro e w2 ⟨rfl, hb2⟩
        have b2 := b1.trans (hb2.mono b1.size)
        go_wp2_with fail
        refine (X.out.2.2.1 _).mono ?_
        rintro e w3 ⟨rfl, hb3⟩
        have b3 := b2.trans (hb3.mono b2.size)
        go_wp2_with fail
        refine (X.out.2.2.2.1 _).mono ?_
        rintro e w4 ⟨rfl, hb4⟩
        have b4 := b3.trans (hb4.mono b3.size)
        go_wp2_with fail
        refine (X.out.2.2.2.2.1 _).mono ?_
        rintro e w5 ⟨rfl, hb5⟩
        have b5 := b4.trans (hb5.mono b4.size)
        go_wp2_with fail
        refine (X.out.2.2.2.2.2.2 _).mono ?_
        rintro e w6 ⟨rfl, hb6⟩
        have b6 := b5.trans (hb6.mono b5.size)
        go_wp2_with fail
        refine (awake_any _ (ht.below b6)).mono ?_
        rintro e wa ⟨rfl, hba⟩
        go_wp2_with fail
        go_ret
        exact ⟨rfl, b6.trans (hba.mono b6.size)⟩
  · rcases hA with hA | ⟨hA1, hA2⟩
    all_goals
      rcases hC with hC | ⟨rfl, hC1, hC2, hC3⟩ | ⟨rfl, hC1, hC2, hC3⟩ | ⟨rfl, hC1, hC2, hC3, hC4⟩
      all_goals
        go_enter Tryd.func9, Tryd.ntmps9
        go_wp2_with fail
        refine (lvalid_yes _ _ ha).mono ?_
        rintro e w0 ⟨rfl, rfl⟩
        go_wp2_with fail
        refine (lvalid_yes _ _ hb).mono ?_
        rintro e w0 ⟨rfl, rfl⟩
        go_wp2_with fail
        refine (X.out.1 _).mono ?_
        rintro e w1 ⟨rfl, hb1⟩
        have b1 := hb1
        go_wp2_with fail
        refine (X.out.2.1 _).mono ?_
        rintro e w2 ⟨rfl, hb2⟩
        have b2 := b1.trans (hb2.mono b1.size)
        go_wp2_with fail
        refine (X.out.2.2.1 _).mono ?_
        rintro e w3 ⟨rfl, hb3⟩
        have b3 := b2.trans (hb3.mono b2.size)
        go_wp2_with fail
        refine (X.out.2.2.2.1 _).mono ?_
        rintro e w4 ⟨rfl, hb4⟩
        have b4 := b3.trans (hb4.mono b3.size)
        go_wp2_with fail
        refine (X.out.2.2.2.2.1 _).mono ?_
        rintro e w5 ⟨rfl, hb5⟩
        have b5 := b4.trans (hb5.mono b4.size)
        go_wp2_with fail
        refine (X.out.2.2.2.2.2.1 _).mono ?_
        rintro e w6 ⟨rfl, hb6⟩
        have b6 := b5.trans (hb6.mono b5.size)
        go_wp2_with fail
        refine (X.out.2.2.2.2.2.2 _).mono ?_
        rintro e w7 ⟨rfl, hb7⟩
        have b7 := b6.trans (hb7.mono b6.size)
        go_wp2_with fail
        refine (awake_any _ (ht.below b7)).mono ?_
        rintro e wa ⟨rfl, hba⟩
        go_wp2_with fail
        go_ret
        exact ⟨rfl, b7.trans (hba.mono b7.size)⟩
set_option maxHeartbeats 2000000 in
set_option maxRecDepth 100000 in
theorem months_out (a b n m I y mo day : Int) (w : World) (ht : Tab w) (ha : okDay a = true) (hb : okDay b = true)
    (hI : n.tmod 1001 = I) (n0 : -32768 ≤ n) (n1 : n ≤ 32767) (m0 : -32768 ≤ m) (m1 : m ≤ 32767) (i0 : -1000 ≤ I) (i1 : I ≤ 1000)
    (y0 : 1900 ≤ y) (y1 : y ≤ 2199) (mo0 : 1 ≤ mo) (mo1 : mo ≤ 12) (h1 : 12 * y + mo - 1 + I < 22800 ∨ 26400 ≤ 12 * y + mo - 1 + I)
    (x1 : ∀ w, Calls Tryd.prog 12 #[.int .i64 a, .int .i64 I] w (Ret2 0 13 w)) (x2 : ∀ w, Calls Tryd.prog 22 #[.int .i64 a] w (Ret4 y mo day 0 w)) :
    Calls Tryd.prog 9 #[.int .i64 a, .int .i64 b, .int .i16 n, .int .i16 m] w (Yes w) := by
  have X := Lib.hid (And.intro x1 x2)
  clear x1 x2
  rcases h1 with h1 | h1
  all_goals
    go_enter Tryd.func9, Tryd.ntmps9
    go_wp2_with fail
    refine (lvalid_yes _ _ ha).mono ?_
    rintro e w0 ⟨rfl, rfl⟩
    go_wp2_with fail
    refine (lvalid_yes _ _ hb).mono ?_
    rintro e w0 ⟨rfl, rfl⟩
    go_wp2_with fail
    refine (X.out.1 _).mono ?_
    rintro e w1 ⟨rfl, hb1⟩
    go_wp2_with fail
    refine (X.out.2 _).mono ?_
    rintro e w2 ⟨rfl, hb2⟩
    have b2 := hb1.trans (hb2.mono hb1.size)
    go_wp2_with fail
    refine (awake_any _ (ht.below b2)).mono ?_
    rintro e wa ⟨rfl, hba⟩
    go_wp2_with fail
    go_ret
    exact ⟨rfl, b2.trans (hba.mono b2.size)⟩
set_option maxHeartbeats 2000000 in
set_option maxRecDepth 100000 in
theorem months_bad (a b n m : Int) (w : World) (ht : Tab w) (h : (okDay a && okDay b) = false) : Calls Tryd.prog 9 #[.int .i64 a, .int .i64 b, .int .i16 n, .int .i16 m] w (Yes w) := by
  cases ha : okDay a
  · go_enter Tryd.func9, Tryd.ntmps9
    go_wp2_with fail
    refine (lvalid_no _ _ ha).mono ?_
    rintro e w0 ⟨rfl, rfl⟩
    go_wp2_with fail
    refine (awake_any _ ht).mono ?_
    rintro e wa ⟨rfl, hba⟩
    go_wp2_with fail
    go_ret
    exact ⟨rfl, hba⟩
  · have hb : okDay b = false := by simpa [ha] using h
    clear h
    go_enter Tryd.func9, Tryd.ntmps9
    go_wp2_with fail
    refine (lvalid_yes _ _ ha).mono ?_
    rintro e w0 ⟨rfl, rfl⟩
    go_wp2_with fail
    refine (lvalid_no _ _ hb).mono ?_
    rintro e w0 ⟨rfl, rfl⟩
    go_wp2_with fail
    refine (awake_any _ ht).mono ?_
    rintro e wa ⟨rfl, hba⟩
    go_wp2_with fail
    go_ret
    exact ⟨rfl, hba⟩
theorem tmod_bound (n : Int) : -1000 ≤ n.tmod 1001 ∧ n.tmod 1001 ≤ 1000 := by
  have h := Int.tmod_lt_of_pos n (show (0 : Int) < 1001 by omega)
  have h2 := Int.tmod_lt_of_pos (-n) (show (0 : Int) < 1001 by omega)
  rw [Int.neg_tmod] at h2
  omega
theorem wf16 {n : Int} (hn : (Lit.int .i16 n).wf = true) : -32768 ≤ n ∧ n ≤ 32767 := by
  simp [Lit.wf, IntKind.min, IntKind.max, IntKind.signed, IntKind.bits] at hn
  omega
theorem months_law (a b n m : Int) (w : World) (ht : Tab w) (hn : (Lit.int .i16 n).wf = true) (hm : (Lit.int .i16 m).wf = true) : Calls Tryd.prog 9 #[.int .i64 a, .int .i64 b, .int .i16 n, .int .i16 m] w (Yes w) := by
  cases h : okDay a && okDay b
  · exact months_bad a b n m w ht h
  obtain ⟨ha, hb⟩ := Bool.and_eq_true_iff.1 h
  obtain ⟨n0, n1⟩ := wf16 hn
  obtain ⟨m0, m1⟩ := wf16 hm
  obtain ⟨i0, i1⟩ := tmod_bound n
  obtain ⟨k0, k1⟩ := tmod_bound m
  have va := (date_ok ha).1
  have y0 := va.y0; have y1 := va.y1; have mo0 := va.m0; have mo1 := va.m1
  generalize hI : n.tmod 1001 = I at *
  generalize hK : m.tmod 1001 = K at *
  have hmB : monB a I = 12 * yOf a + mOf a - 1 + I := rfl
  by_cases hr : 22800 ≤ monB a I ∧ monB a I < 26400
  · obtain ⟨r0, r1⟩ := hr
    obtain ⟨e1, e2⟩ := add_yes ha (by omega) (by omega) r0 r1
    have hx := shift_ok ha r0 r1
    obtain ⟨f1, f2, f3⟩ := shift_of ha r0 r1
    have vx := (date_ok hx).1
    have hl2 := len_lo (monB a I / 12) (monB a I % 12 + 1)
    have hmon := shift_mon ha r0 r1
    refine months_in a b n m I K (addD a I) (yOf a) (mOf a) (dOf a) (yOf (addD a I)) (mOf (addD a I)) (dOf (addD a I)) (lastD (addD a I)) (addN a (I + K)) (addE a (I + K)) (addN (addD a I) K) (addE (addD a I) K) (addN b I) (addE b I) w ht ha hb
      hI hK n0 n1 m0 m1 i0 i1 k0 k1 y0 y1 mo0 mo1 vx.y0 vx.y1 vx.m0 vx.m1 (by omega) (by omega) ?_ ?_ ?_ (fun w => Parts_yes a w ha) (fun w => Parts_yes _ w hx) ?_ (fun w => Add_any _ _ w) (fun w => Add_any _ _ w) (fun w => Add_any _ _ w) ?_ ?_ ?_
    · rw [bne_eq_false_iff_eq, f1, f2]; omega
    · rw [decide_eq_false_iff_not, f3]; omega
    · intro w; have := Add_any a I w; rwa [e1, e2] at this
    · intro w; have := Last_any (addD a I) w; rwa [(last_val hx).2] at this
    · by_cases hq : dOf (addD a I) < dOf a
      · refine .inr ⟨by simp [hq], ?_⟩
        rw [bne_eq_false_iff_eq, (last_val hx).1]
        have hlen : dOf (addD a I) = len (yOf (addD a I)) (mOf (addD a I)) := by rw [f1, f2]; omega
        rw [← hlen]
        exact (date_ok hx).2.symm
      · exact .inl (by simp; omega)
    · by_cases h28 : dOf a ≤ 28
      · by_cases hj : addE a (I + K) = 0
        · refine .inr (.inr ⟨by simp [h28], hj, ?_⟩)
          have hr2 : 22800 ≤ monB a (I + K) ∧ monB a (I + K) < 26400 := by
            by_cases h' : 22800 ≤ monB a (I + K) ∧ monB a (I + K) < 26400
            · exact h'
            · have := (add_out ha (n := I + K) (by omega) (by omega) (by omega)).2
              omega
          obtain ⟨g1, g2⟩ := add_yes ha (n := I + K) (by omega) (by omega) hr2.1 hr2.2
          have hmx : monB (addD a I) K = monB a (I + K) := by rw [monB_add, hmon, monB_add a I, monB_add a (I + K)]; omega
          obtain ⟨g3, g4⟩ := add_yes hx (n := K) (by omega) (by omega) (by omega) (by omega)
          refine ⟨g4, ?_⟩
          rw [g3, g1]
          unfold addD
          have hd : dOf (num (monB a I / 12) (monB a I % 12 + 1) (min (dOf a) (len (monB a I / 12) (monB a I % 12 + 1)))) = dOf a := by
            have := f3
            unfold addD at this
            rw [this]; omega
          have hmx' := hmx
          unfold addD at hmx'
          rw [hmx', hd]
        · exact .inr (.inl ⟨by simp [h28], beq_eq_false_iff_ne.2 hj⟩)
      · exact .inl (by simp; omega)
    · by_cases hj : addE b I = 0
      · have hr2 : 22800 ≤ monB b I ∧ monB b I < 26400 := by
          by_cases h' : 22800 ≤ monB b I ∧ monB b I < 26400
          · exact h'
          · have := (add_out hb (n := I) (by omega) (by omega) (by omega)).2
            omega
        obtain ⟨g1, _⟩ := add_yes hb (n := I) (by omega) (by omega) hr2.1 hr2.2
        rw [g1]
        rcases Int.lt_trichotomy a b with hab | hab | hab
        · have := shift_le ha hb (by omega) r0 r1 hr2.1 hr2.2
          exact .inr (.inl ⟨hj, by simp; omega, by simp; omega, by simp; omega⟩)
        · subst hab
          exact .inr (.inr (.inr ⟨hj, by simp, by simp, by simp, by simp⟩))
        · have := shift_le hb ha (by omega) hr2.1 hr2.2 r0 r1
          exact .inr (.inr (.inl ⟨hj, by simp; omega, by simp; omega, by simp; omega⟩))
      · exact .inl (beq_eq_false_iff_ne.2 hj)
  · obtain ⟨e1, e2⟩ := add_out ha (n := I) (by omega) (by omega) (by omega)
    exact months_out a b n m I (yOf a) (mOf a) (dOf a) w ht ha hb hI n0 n1 m0 m1 i0 i1 y0 y1 mo0 mo1 (by omega) (fun w => by have := Add_any a I w; rwa [e1, e2] at this) (fun w => Parts_yes a w ha)
end Go.Proofs.YtjkpfjnhgbcnkaaDoor
