/- The walk of DateThereAndBack. -/
import Derived.Test.YtjkpfjnhgbcnkaaDoorLawC
namespace Go.Proofs.YtjkpfjnhgbcnkaaDoor
open Go.RowKit

set_option maxHeartbeats 2000000 in
theorem there_no (d : Int) (w : World) (ht : Tab w) (hd : okDay d = false) : Calls Tryd.prog 8 #[.int .i64 d] w (Yes w) := by
  go_enter Tryd.func8, Tryd.ntmps8
  go_wp2_with fail
  refine (Parts_no _ _ hd).mono ?_
  rintro e w1 ⟨rfl, hb1⟩
  go_wp2_with fail
  refine (lvalid_no _ _ hd).mono ?_
  rintro e w2 ⟨rfl, rfl⟩
  go_wp2_with fail
  refine (awake_any _ (ht.below hb1)).mono ?_
  rintro e w3 ⟨rfl, hb3⟩
  go_wp2_with fail
  go_ret
  exact ⟨rfl, hb1.trans (hb3.mono hb1.size)⟩
set_option maxHeartbeats 2000000 in
set_option maxRecDepth 100000 in
theorem there_last (w : World) (ht : Tab w) : Calls Tryd.prog 8 #[.int .i64 84005] w (Yes w) := by
  have hd : okDay 84005 = true := by decide
  have x1 : ∀ w, Calls Tryd.prog 22 #[.int .i64 84005] w (Ret4 2199 12 31 0 w) := fun w => by
    have := Parts_yes 84005 w hd
    rwa [last_date.1, last_date.2.1, last_date.2.2] at this
  have x2 : ∀ w, Calls Tryd.prog 19 #[.int .i64 2199, .int .i64 12, .int .i64 31] w (Ret2 84005 0 w) := fun w => Of_yes 2199 12 31 w ((vdB_iff _ _ _).1 (by decide))
  have X := Lib.hid (And.intro x1 x2)
  clear x1 x2
  go_enter Tryd.func8, Tryd.ntmps8
  go_wp2_with fail
  refine (X.out.1 _).mono ?_
  rintro e w1 ⟨rfl, hb1⟩
  go_wp2_with fail
  refine (lvalid_yes _ _ hd).mono ?_
  rintro e w2 ⟨rfl, rfl⟩
  go_wp2_with fail
  refine (X.out.2 _).mono ?_
  rintro e w2 ⟨rfl, hb2⟩
  have b2 := hb1.trans (hb2.mono hb1.size)
  go_wp2_with fail
  refine (awake_any _ (ht.below b2)).mono ?_
  rintro e w3 ⟨rfl, hb3⟩
  go_wp2_with fail
  go_ret
  exact ⟨rfl, b2.trans (hb3.mono b2.size)⟩
set_option maxHeartbeats 2000000 in
set_option maxRecDepth 100000 in
theorem there_yes (d : Int) (w : World) (ht : Tab w) (hd : okDay d = true) (hm : d ≠ 84005) : Calls Tryd.prog 8 #[.int .i64 d] w (Yes w) := by
  obtain ⟨d0, d1⟩ := (okDay_iff d).1 hd
  obtain ⟨hv, he⟩ := date_ok hd
  have h31 := day31 hd
  have hd' : okDay (d + 1) = true := (okDay_iff _).2 (by omega)
  have hv' := (date_ok hd').1
  have x1 := fun w => Parts_yes d w hd
  have x2 : ∀ w, Calls Tryd.prog 19 #[.int .i64 (yOf d), .int .i64 (mOf d), .int .i64 (dOf d)] w (Ret2 d 0 w) := fun w => by
    have := Of_yes _ _ _ w hv
    rwa [he] at this
  have x3 := fun w => Parts_yes (d + 1) w hd'
  have x4 : ∀ w, Calls Tryd.prog 25 #[.int .i64 d] w (Ret2 (lastD d) 0 w) := fun w => by
    have := Last_any d w
    rwa [(last_val hd).2] at this
  have hin := next_in hd
  have hout := fun h => next_out hd h hm
  have hge := last_ge hd
  have m0 := hv.m0; have m1 := hv.m1; have q0 := hv.d0; have y0 := hv.y0; have y1 := hv.y1
  have k0 := hv'.m0; have k1 := hv'.m1; have z0 := hv'.y0; have z1 := hv'.y1
  generalize yOf d = y at *
  generalize mOf d = m at *
  generalize dOf d = n at *
  generalize yOf (d + 1) = z at *
  generalize mOf (d + 1) = k at *
  generalize dOf (d + 1) = o at *
  generalize lastD d = last at *
  have hne : (d == 84005) = false := beq_eq_false_iff_ne.2 hm
  clear hv hv' he
  by_cases hl : d < last
  · obtain ⟨rfl, rfl, rfl⟩ := hin hl
    have X := Lib.hid (And.intro x1 (And.intro x2 (And.intro x3 x4)))
    have hdl : decide (d < last) = true := by simp [hl]
    clear x1 x2 x3 x4 hin hout hm
    go_enter Tryd.func8, Tryd.ntmps8
    go_wp2_with fail
    refine (X.out.1 _).mono ?_
    rintro e w1 ⟨rfl, hb1⟩
    go_wp2_with fail
    refine (lvalid_yes _ _ hd).mono ?_
    rintro e w2 ⟨rfl, rfl⟩
    go_wp2_with fail
    refine (X.out.2.1 _).mono ?_
    rintro e w2 ⟨rfl, hb2⟩
    have b2 := hb1.trans (hb2.mono hb1.size)
    go_wp2_with fail
    refine (X.out.2.2.1 _).mono ?_
    rintro e w3 ⟨rfl, hb3⟩
    have b3 := b2.trans (hb3.mono b2.size)
    go_wp2_with fail
    refine (X.out.2.2.2 _).mono ?_
    rintro e w4 ⟨rfl, hb4⟩
    have b4 := b3.trans (hb4.mono b3.size)
    go_wp2_with fail
    refine (awake_any _ (ht.below b4)).mono ?_
    rintro e w5 ⟨rfl, hb5⟩
    go_wp2_with fail
    go_ret
    exact ⟨rfl, b4.trans (hb5.mono b4.size)⟩
  · obtain ⟨ho, hk⟩ := hout (by omega)
    have hle : d = last := by omega
    rw [ho] at x3
    have hbe : (d == last) = true := beq_iff_eq.2 hle
    have hdl : decide (d < last) = false := by simp; omega
    have hkk : (12 * z + k == 12 * y + m + 1) = true := beq_iff_eq.2 hk
    have X := Lib.hid (And.intro x1 (And.intro x2 (And.intro x3 x4)))
    clear x1 x2 x3 x4 hin hout hm hk ho hle hl hge
    go_enter Tryd.func8, Tryd.ntmps8
    go_wp2_with fail
    refine (X.out.1 _).mono ?_
    rintro e w1 ⟨rfl, hb1⟩
    go_wp2_with fail
    refine (lvalid_yes _ _ hd).mono ?_
    rintro e w2 ⟨rfl, rfl⟩
    go_wp2_with fail
    refine (X.out.2.1 _).mono ?_
    rintro e w2 ⟨rfl, hb2⟩
    have b2 := hb1.trans (hb2.mono hb1.size)
    go_wp2_with fail
    refine (X.out.2.2.1 _).mono ?_
    rintro e w3 ⟨rfl, hb3⟩
    have b3 := b2.trans (hb3.mono b2.size)
    go_wp2_with fail
    refine (X.out.2.2.2 _).mono ?_
    rintro e w4 ⟨rfl, hb4⟩
    have b4 := b3.trans (hb4.mono b3.size)
    go_wp2_with fail
    refine (awake_any _ (ht.below b4)).mono ?_
    rintro e w5 ⟨rfl, hb5⟩
    go_wp2_with fail
    go_ret
    exact ⟨rfl, b4.trans (hb5.mono b4.size)⟩
theorem there_law (d : Int) (w : World) (ht : Tab w) : Calls Tryd.prog 8 #[.int .i64 d] w (Yes w) := by
  cases hd : okDay d
  · exact there_no d w ht hd
  · by_cases hm : d = 84005
    · subst hm; exact there_last w ht
    · exact there_yes d w ht hd hm
end Go.Proofs.YtjkpfjnhgbcnkaaDoor
