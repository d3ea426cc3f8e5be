/- Walks of DateShifts and DateParts. -/
import Derived.Test.YtjkpfjnhgbcnkaaDoorAwake
namespace Go.Proofs.YtjkpfjnhgbcnkaaDoor
open Go.RowKit

def Yes (w : World) (e : Ending) (w' : World) : Prop := e = .returned (.bool true) ∧ Below w.heap.size w w'
theorem shifts_law (a b n : Int) (w : World) (ht : Tab w) : Calls Tryd.prog 3 #[.int .i64 a, .int .i64 b, .int .i64 n] w (Yes w) := by
  have x1 := fun w => Add_any a n w
  have x2 := fun w => rAdd_any a n w
  have x3 := fun w => Months_any a b w
  have x4 := fun w => rMonths_any a b w
  generalize addN a n = p1 at *
  generalize addE a n = p2 at *
  generalize monN a b = p3 at *
  generalize monE a b = p4 at *
  have X := Lib.hid (And.intro x1 (And.intro x2 (And.intro x3 x4)))
  clear x1 x2 x3 x4
  go_enter Tryd.func3, Tryd.ntmps3
  go_wp2_with fail
  refine (X.out.1 _).mono ?_
  rintro e w1 ⟨rfl, hb1⟩
  go_wp2_with fail
  refine (X.out.2.1 _).mono ?_
  rintro e w2 ⟨rfl, hb2⟩
  go_wp2_with fail
  refine (X.out.2.2.1 _).mono ?_
  rintro e w3 ⟨rfl, hb3⟩
  go_wp2_with fail
  refine (X.out.2.2.2 _).mono ?_
  rintro e w4 ⟨rfl, hb4⟩
  have b2 := hb1.trans (hb2.mono hb1.size)
  have b3 := b2.trans (hb3.mono b2.size)
  have b4 := b3.trans (hb4.mono b3.size)
  go_wp2_with fail
  refine (awake_any _ (ht.below b4)).mono ?_
  rintro e w5 ⟨rfl, hb5⟩
  go_wp2_with fail
  go_ret
  exact ⟨rfl, b4.trans (hb5.mono b4.size)⟩
theorem parts_law (y m n d : Int) (w : World) (ht : Tab w) : Calls Tryd.prog 7 #[.int .i64 y, .int .i64 m, .int .i64 n, .int .i64 d] w (Yes w) := by
  have x1 := fun w => Of_any y m n w
  have x2 := fun w => rOf_any y m n w
  have x3 := fun w => Parts_any d w
  have x4 := fun w => rParts_any d w
  have x5 := fun w => Weekday_any d w
  have x6 := fun w => rWeekday_any d w
  have x7 := fun w => Last_any d w
  have x8 := fun w => rLast_any d w
  have x9 := fun w => leap_any y w
  have xa := fun w => rleap_any y w
  generalize ofN y m n = p1 at *
  generalize ofE y m n = p2 at *
  generalize pY d = p3 at *
  generalize pM d = p4 at *
  generalize pD d = p5 at *
  generalize pE d = p6 at *
  generalize wkD d = p7 at *
  generalize dayE d = p8 at *
  generalize lastD d = p9 at *
  have X := Lib.hid (And.intro x1 (And.intro x2 (And.intro x3 (And.intro x4 (And.intro x5 (And.intro x6 (And.intro x7 (And.intro x8 (And.intro x9 xa)))))))))
  clear x1 x2 x3 x4 x5 x6 x7 x8 x9 xa
  cases hl : leapB y
  all_goals
    go_enter Tryd.func7, Tryd.ntmps7
    go_wp2_with fail
    refine (X.out.1 _).mono ?_
    rintro e w1 ⟨rfl, hb1⟩
    go_wp2_with fail
    refine (X.out.2.1 _).mono ?_
    rintro e w2 ⟨rfl, hb2⟩
    go_wp2_with fail
    refine (X.out.2.2.1 _).mono ?_
    rintro e w3 ⟨rfl, hb3⟩
    go_wp2_with fail
    refine (X.out.2.2.2.1 _).mono ?_
    rintro e w4 ⟨rfl, hb4⟩
    have b2 := hb1.trans (hb2.mono hb1.size)
    have b3 := b2.trans (hb3.mono b2.size)
    have b4 := b3.trans (hb4.mono b3.size)
    go_wp2_with fail
    refine (X.out.2.2.2.2.1 _).mono ?_
    rintro e w5 ⟨rfl, hb5⟩
    go_wp2_with fail
    refine (X.out.2.2.2.2.2.1 _).mono ?_
    rintro e w6 ⟨rfl, hb6⟩
    go_wp2_with fail
    refine (X.out.2.2.2.2.2.2.1 _).mono ?_
    rintro e w7 ⟨rfl, hb7⟩
    go_wp2_with fail
    refine (X.out.2.2.2.2.2.2.2.1 _).mono ?_
    rintro e w8 ⟨rfl, hb8⟩
    have b5 := b4.trans (hb5.mono b4.size)
    have b6 := b5.trans (hb6.mono b5.size)
    have b7 := b6.trans (hb7.mono b6.size)
    have b8 := b7.trans (hb8.mono b7.size)
    go_wp2_with fail
    refine (X.out.2.2.2.2.2.2.2.2.1 _).mono ?_
    rintro e w9 ⟨rfl, rfl⟩
    go_wp2_with fail
    refine (X.out.2.2.2.2.2.2.2.2.2 _).mono ?_
    rintro e w9 ⟨rfl, rfl⟩
    go_wp2_with fail
    refine (awake_any _ (ht.below b8)).mono ?_
    rintro e wa ⟨rfl, hba⟩
    go_wp2_with fail
    go_ret
    exact ⟨rfl, b8.trans (hba.mono b8.size)⟩
end Go.Proofs.YtjkpfjnhgbcnkaaDoor
