/- The walk of DateTexts. -/
import Derived.Test.YtjkpfjnhgbcnkaaDoorLawA
import Derived.Test.YtjkpfjnhgbcnkaaDoorRefP
namespace Go.Proofs.YtjkpfjnhgbcnkaaDoor
open Go.RowKit

set_option maxHeartbeats 1000000 in
theorem texts_law (d : Int) (s : ByteArray) (w : World) (ht : Tab w) (hs : s.size ≤ maxLen) : Calls Tryd.prog 10 #[.int .i64 d, .string s] w (Yes w) := by
  by_cases hl : s.size ≤ 100
  · have x1 := fun w ht => Print_any d w ht
    have x2 := fun w => rPrint_any d w
    have x3 := fun w => Parse_any s w hs
    have x4 := fun w => rParse_any s w hs
    generalize prS d = p1 at *
    generalize dayE d = p2 at *
    generalize paN s = p3 at *
    generalize paE s = p4 at *
    have X := Lib.hid (And.intro x1 (And.intro x2 (And.intro x3 x4)))
    clear x1 x2 x3 x4
    unfold maxLen at hs
    go_enter Tryd.func10, Tryd.ntmps10
    go_wp2_with fail
    refine (X.out.1 _ ht).mono ?_
    rintro e w1 ⟨rfl, hb1⟩
    go_wp2_with fail
    refine (X.out.2.1 _).mono ?_
    rintro e w2 ⟨rfl, hb2⟩
    go_wp2_with fail
    refine (X.out.2.2.1 _).mono ?_
    rintro e w3 ⟨rfl, hb3⟩
    go_wp2_with fail
    refine (X.out.2.2.2 _).mono ?_
    rintro e w4 ⟨rfl, hb4⟩
    have b2 := hb1.trans (hb2.mono hb1.size)
    have b3 := b2.trans (hb3.mono b2.size)
    have b4 := b3.trans (hb4.mono b3.size)
    go_wp2_with fail
    refine (awake_any _ (ht.below b4)).mono ?_
    rintro e w5 ⟨rfl, hb5⟩
    go_wp2_with fail
    go_ret
    exact ⟨rfl, b4.trans (hb5.mono b4.size)⟩
  · have hd : decide (100 < (s.size : Int)) = true := by simp; omega
    unfold maxLen at hs
    go_enter Tryd.func10, Tryd.ntmps10
    go_wp2_with fail
    refine (awake_any _ ht).mono ?_
    rintro e w5 ⟨rfl, hb5⟩
    go_wp2_with fail
    go_ret
    exact ⟨rfl, hb5⟩
end Go.Proofs.YtjkpfjnhgbcnkaaDoor
