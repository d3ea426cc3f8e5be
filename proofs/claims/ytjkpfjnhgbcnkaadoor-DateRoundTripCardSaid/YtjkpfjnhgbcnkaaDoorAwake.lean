/- The contract of awake. -/
import Derived.Test.YtjkpfjnhgbcnkaaDoorPrint
namespace Go.Proofs.YtjkpfjnhgbcnkaaDoor
open Go.RowKit

theorem v1 : Valid 2024 3 31 := (vdB_iff _ _ _).1 (by decide)
theorem v2 : Valid 2024 2 29 := (vdB_iff _ _ _).1 (by decide)
theorem v3 : Valid 2024 1 31 := (vdB_iff _ _ _).1 (by decide)
theorem d1 : yOf 19813 = 2024 ∧ mOf 19813 = 3 ∧ dOf 19813 = 31 := dateOf_eq v1 (by decide)
theorem d2 : yOf 19782 = 2024 ∧ mOf 19782 = 2 ∧ dOf 19782 = 29 := dateOf_eq v2 (by decide)
theorem d3 : yOf 19753 = 2024 ∧ mOf 19753 = 1 ∧ dOf 19753 = 31 := dateOf_eq v3 (by decide)
theorem aw1 (w : World) : Calls Tryd.prog 19 #[.int .i64 2024, .int .i64 3, .int .i64 31] w (Ret2 19813 0 w) := Of_yes 2024 3 31 w v1
theorem aw2 (w : World) : Calls Tryd.prog 17 #[.int .i64 19813] w (Ret2 6 0 w) := Weekday_any 19813 w
theorem mB1 : monB 19813 1 = 24291 := by rw [monB, d1.1, d1.2.1]; rfl
theorem mB2 : monB 19813 (-1) = 24289 := by rw [monB, d1.1, d1.2.1]; rfl
theorem mB3 : monB 19753 1 = 24289 := by rw [monB, d3.1, d3.2.1]; rfl
theorem aw3 (w : World) : Calls Tryd.prog 12 #[.int .i64 19813, .int .i64 1] w (Ret2 19843 0 w) := by
  have h := Add_any 19813 1 w
  have a := add_yes (d := 19813) (n := 1) (by decide) (by omega) (by omega) (by rw [mB1]; omega) (by rw [mB1]; omega)
  rw [a.1, a.2, addD, mB1, d1.2.2] at h
  exact h
theorem aw4 (w : World) : Calls Tryd.prog 12 #[.int .i64 19813, .int .i64 (-1)] w (Ret2 19782 0 w) := by
  have h := Add_any 19813 (-1) w
  have a := add_yes (d := 19813) (n := -1) (by decide) (by omega) (by omega) (by rw [mB2]; omega) (by rw [mB2]; omega)
  rw [a.1, a.2, addD, mB2, d1.2.2] at h
  exact h
theorem tx : textL 2024 2 29 = [50, 48, 50, 52, 45, 48, 50, 45, 50, 57] := by decide
theorem aw5 (w : World) (ht : Tab w) : Calls Tryd.prog 28 #[.int .i64 19782] w fun e w' => e = .returned (.tuple #[.string ⟨#[50, 48, 50, 52, 45, 48, 50, 45, 50, 57]⟩, .int .i64 0]) ∧ Below w.heap.size w w' := by
  have h := Print_any 19782 w ht
  have e : prS 19782 = [50, 48, 50, 52, 45, 48, 50, 45, 50, 57] := by
    have : okDay 19782 = true := by decide
    rw [prS, if_pos this, d2.1, d2.2.1, d2.2.2, tx]
  rw [e] at h
  exact h
theorem aw6 (w : World) : Calls Tryd.prog 14 #[.int .i64 19753, .int .i64 19782] w (Ret2 1 0 w) := by
  have h := Months_any 19753 19782 w
  have hm : mdiff 19753 19782 = 1 := by rw [mdiff, d3.1, d3.2.1, d2.1, d2.2.1]; rfl
  have e : monN 19753 19782 = 1 := by
    rw [(mon_yes (a := 19753) (b := 19782) (by decide) (by decide)).1, if_neg (by omega), wholeN, hm, addD, mB3, d3.2.2]
    decide
  rw [e] at h
  exact h
theorem awake_any (w : World) (ht : Tab w) : Calls Tryd.prog 16 #[] w fun e w' => e = .returned (.bool true) ∧ Below w.heap.size w w' := by
  go_enter Tryd.func16, Tryd.ntmps16
  go_wp2_with fail
  refine (aw1 _).mono ?_
  rintro e w1 ⟨rfl, hb1⟩
  go_wp2_with fail
  refine (aw2 _).mono ?_
  rintro e w2 ⟨rfl, hb2⟩
  go_wp2_with fail
  refine (aw3 _).mono ?_
  rintro e w3 ⟨rfl, hb3⟩
  go_wp2_with fail
  refine (aw4 _).mono ?_
  rintro e w4 ⟨rfl, hb4⟩
  have b2 := hb1.trans (hb2.mono hb1.size)
  have b3 := b2.trans (hb3.mono b2.size)
  have b4 := b3.trans (hb4.mono b3.size)
  have ht4 := ht.below b4
  go_wp2_with fail
  refine (aw5 _ ht4).mono ?_
  rintro e w5 ⟨rfl, hb5⟩
  go_wp2_with fail
  refine (aw6 _).mono ?_
  rintro e w6 ⟨rfl, hb6⟩
  go_wp2_with fail
  go_ret
  have b5 := b4.trans (hb5.mono b4.size)
  exact ⟨rfl, b5.trans (hb6.mono b5.size)⟩
end Go.Proofs.YtjkpfjnhgbcnkaaDoor
