/- The walk of DateRoundTrip. -/
import Derived.Test.YtjkpfjnhgbcnkaaDoorLawB
import Derived.Test.YtjkpfjnhgbcnkaaDoorTexts
namespace Go.Proofs.YtjkpfjnhgbcnkaaDoor
open Go.RowKit
set_option linter.unusedVariables false

/-- how the first part of the law goes: what Parse returns, and Print of it -/
def First (s : ByteArray) (d e : Int) : Prop := (e = 0 ∧ ∀ w, Tab w → Calls Tryd.prog 28 #[.int .i64 d] w (RetS s.data.toList 0 w)) ∨ (d = 0 ∧ e = 3) ∨ (d = 0 ∧ e = 13)
theorem first_of (s : ByteArray) : First s (paN s) (paE s) := by
  cases hf : formB s
  · exact .inr (.inl (pa_no hf))
  · obtain ⟨h1, h2⟩ := pa_yes hf
    by_cases hv : Valid (psY s) (psM s) (psD s)
    · obtain ⟨e1, e2⟩ := of_yes hv
      refine .inl ⟨by rw [h2, e2], fun w ht => ?_⟩
      have hp := Print_any (paN s) w ht
      have hok : okDay (paN s) = true := by rw [h1, e1]; exact num_ok hv
      obtain ⟨f1, f2, f3⟩ := dateOf_eq hv (n := paN s) (by rw [h1, e1])
      have ep : prS (paN s) = s.data.toList := by rw [prS, if_pos hok, f1, f2, f3, ← form_text hf]
      have ee : dayE (paN s) = 0 := by simp [dayE, hok]
      rwa [ep, ee] at hp
    · obtain ⟨e1, e2⟩ := of_no hv
      exact .inr (.inr ⟨by rw [h1, e1], by rw [h2, e2]⟩)
set_option maxHeartbeats 4000000 in
set_option maxRecDepth 100000 in
theorem trip_bad (a b : Int) (s : ByteArray) (d ee : Int) (w : World) (ht : Tab w) (hs : s.size ≤ 100) (hF : First s d ee) (x1 : ∀ w, Calls Tryd.prog 30 #[.string s] w (Ret2 d ee w)) (h : okDay a = false ∨ (okDay a = true ∧ okDay b = false)) : Calls Tryd.prog 11 #[.int .i64 a, .int .i64 b, .string s] w (Yes w) := by
  have X := Lib.hid x1
  clear x1
  rcases hF with ⟨rfl, x2⟩ | ⟨rfl, rfl⟩ | ⟨rfl, rfl⟩
  · have X2 := Lib.hid x2
    clear x2
    rcases h with ha | ⟨ha, hb⟩
    · go_enter Tryd.func11, Tryd.ntmps11
      go_wp2_with fail
      refine (X.out _).mono ?_
      rintro e w1 ⟨rfl, hb1⟩
      have b1 := hb1
      go_wp2_with fail
      refine (X2.out _ (ht.below b1)).mono ?_
      rintro e w2 ⟨rfl, hb2⟩
      have b2 := b1.trans (hb2.mono b1.size)
      go_wp2_with fail
      refine (lvalid_no _ _ ha).mono ?_
      rintro e wq ⟨rfl, rfl⟩
      go_wp2_with fail
      refine (awake_any _ (ht.below b2)).mono ?_
      rintro e w3 ⟨rfl, hb3⟩
      have b3 := b2.trans (hb3.mono b2.size)
      go_wp2_with fail
      go_ret
      exact ⟨rfl, b3⟩
    · go_enter Tryd.func11, Tryd.ntmps11
      go_wp2_with fail
      refine (X.out _).mono ?_
      rintro e w1 ⟨rfl, hb1⟩
      have b1 := hb1
      go_wp2_with fail
      refine (X2.out _ (ht.below b1)).mono ?_
      rintro e w2 ⟨rfl, hb2⟩
      have b2 := b1.trans (hb2.mono b1.size)
      go_wp2_with fail
      refine (lvalid_yes _ _ ha).mono ?_
      rintro e wq ⟨rfl, rfl⟩
      go_wp2_with fail
      refine (lvalid_no _ _ hb).mono ?_
      rintro e wq ⟨rfl, rfl⟩
      go_wp2_with fail
      refine (awake_any _ (ht.below b2)).mono ?_
      rintro e w3 ⟨rfl, hb3⟩
      have b3 := b2.trans (hb3.mono b2.size)
      go_wp2_with fail
      go_ret
      exact ⟨rfl, b3⟩
  · rcases h with ha | ⟨ha, hb⟩
    · go_enter Tryd.func11, Tryd.ntmps11
      go_wp2_with fail
      refine (X.out _).mono ?_
      rintro e w1 ⟨rfl, hb1⟩
      have b1 := hb1
      go_wp2_with fail
      refine (lvalid_no _ _ ha).mono ?_
      rintro e wq ⟨rfl, rfl⟩
      go_wp2_with fail
      refine (awake_any _ (ht.below b1)).mono ?_
      rintro e w2 ⟨rfl, hb2⟩
      have b2 := b1.trans (hb2.mono b1.size)
      go_wp2_with fail
      go_ret
      exact ⟨rfl, b2⟩
    · go_enter Tryd.func11, Tryd.ntmps11
      go_wp2_with fail
      refine (X.out _).mono ?_
      rintro e w1 ⟨rfl, hb1⟩
      have b1 := hb1
      go_wp2_with fail
      refine (lvalid_yes _ _ ha).mono ?_
      rintro e wq ⟨rfl, rfl⟩
      go_wp2_with fail
      refine (lvalid_no _ _ hb).mono ?_
      rintro e wq ⟨rfl, rfl⟩
      go_wp2_with fail
      refine (awake_any _ (ht.below b1)).mono ?_
      rintro e w2 ⟨rfl, hb2⟩
      have b2 := b1.trans (hb2.mono b1.size)
      go_wp2_with fail
      go_ret
      exact ⟨rfl, b2⟩
  · rcases h with ha | ⟨ha, hb⟩
    · go_enter Tryd.func11, Tryd.ntmps11
      go_wp2_with fail
      refine (X.out _).mono ?_
      rintro e w1 ⟨rfl, hb1⟩
      have b1 := hb1
      go_wp2_with fail
      refine (lvalid_no _ _ ha).mono ?_
      rintro e wq ⟨rfl, rfl⟩
      go_wp2_with fail
      refine (awake_any _ (ht.below b1)).mono ?_
      rintro e w2 ⟨rfl, hb2⟩
      have b2 := b1.trans (hb2.mono b1.size)
      go_wp2_with fail
      go_ret
      exact ⟨rfl, b2⟩
    · go_enter Tryd.func11, Tryd.ntmps11
      go_wp2_with fail
      refine (X.out _).mono ?_
      rintro e w1 ⟨rfl, hb1⟩
      have b1 := hb1
      go_wp2_with fail
      refine (lvalid_yes _ _ ha).mono ?_
      rintro e wq ⟨rfl, rfl⟩
      go_wp2_with fail
      refine (lvalid_no _ _ hb).mono ?_
      rintro e wq ⟨rfl, rfl⟩
      go_wp2_with fail
      refine (awake_any _ (ht.below b1)).mono ?_
      rintro e w2 ⟨rfl, hb2⟩
      have b2 := b1.trans (hb2.mono b1.size)
      go_wp2_with fail
      go_ret
      exact ⟨rfl, b2⟩
set_option maxHeartbeats 4000000 in
set_option maxRecDepth 100000 in
theorem trip_good (a b : Int) (s : ByteArray) (d ee : Int) (w : World) (ht : Tab w) (hs : s.size ≤ 100) (hF : First s d ee) (x1 : ∀ w, Calls Tryd.prog 30 #[.string s] w (Ret2 d ee w)) (ha : okDay a = true) (hb : okDay b = true) (A B : List UInt8)
    (z1 : ∀ w, Tab w → Calls Tryd.prog 28 #[.int .i64 a] w (RetS A 0 w)) (z2 : ∀ w, Tab w → Calls Tryd.prog 28 #[.int .i64 b] w (RetS B 0 w)) (z3 : ∀ w, Calls Tryd.prog 30 #[.string ⟨A.toArray⟩] w (Ret2 a 0 w))
    (hlt : (Op.bytesLess A B = true ∧ decide (a < b) = true) ∨ (Op.bytesLess A B = false ∧ decide (a < b) = false)) : Calls Tryd.prog 11 #[.int .i64 a, .int .i64 b, .string s] w (Yes w) := by
  have X := Lib.hid x1
  have Z := Lib.hid (And.intro z1 (And.intro z2 z3))
  clear x1 z1 z2 z3
  rcases hF with ⟨rfl, x2⟩ | ⟨rfl, rfl⟩ | ⟨rfl, rfl⟩
  · have X2 := Lib.hid x2
    clear x2
    rcases hlt with ⟨hl, hd⟩ | ⟨hl, hd⟩
    · go_enter Tryd.func11, Tryd.ntmps11
      go_wp2_with fail
      refine (X.out _).mono ?_
      rintro e w1 ⟨rfl, hb1⟩
      have b1 := hb1
      go_wp2_with fail
      refine (X2.out _ (ht.below b1)).mono ?_
      rintro e w2 ⟨rfl, hb2⟩
      have b2 := b1.trans (hb2.mono b1.size)
      go_wp2_with fail
      refine (lvalid_yes _ _ ha).mono ?_
      rintro e wq ⟨rfl, rfl⟩
      go_wp2_with fail
      refine (lvalid_yes _ _ hb).mono ?_
      rintro e wq ⟨rfl, rfl⟩
      go_wp2_with fail
      refine (Z.out.1 _ (ht.below b2)).mono ?_
      rintro e w3 ⟨rfl, hb3⟩
      have b3 := b2.trans (hb3.mono b2.size)
      go_wp2_with fail
      refine (Z.out.2.1 _ (ht.below b3)).mono ?_
      rintro e w4 ⟨rfl, hb4⟩
      have b4 := b3.trans (hb4.mono b3.size)
      go_wp2_with fail
      refine (Z.out.2.2 _).mono ?_
      rintro e w5 ⟨rfl, hb5⟩
      have b5 := b4.trans (hb5.mono b4.size)
      go_wp2_with fail
      refine (awake_any _ (ht.below b5)).mono ?_
      rintro e w6 ⟨rfl, hb6⟩
      have b6 := b5.trans (hb6.mono b5.size)
      go_wp2_with fail
      go_ret
      exact ⟨rfl, b6⟩
    · go_enter Tryd.func11, Tryd.ntmps11
      go_wp2_with fail
      refine (X.out _).mono ?_
      rintro e w1 ⟨rfl, hb1⟩
      have b1 := hb1
      go_wp2_with fail
      refine (X2.out _ (ht.below b1)).mono ?_
      rintro e w2 ⟨rfl, hb2⟩
      have b2 := b1.trans (hb2.mono b1.size)
      go_wp2_with fail
      refine (lvalid_yes _ _ ha).mono ?_
      rintro e wq ⟨rfl, rfl⟩
      go_wp2_with fail
      refine (lvalid_yes _ _ hb).mono ?_
      rintro e wq ⟨rfl, rfl⟩
      go_wp2_with fail
      refine (Z.out.1 _ (ht.below b2)).mono ?_
      rintro e w3 ⟨rfl, hb3⟩
      have b3 := b2.trans (hb3.mono b2.size)
      go_wp2_with fail
      refine (Z.out.2.1 _ (ht.below b3)).mono ?_
      rintro e w4 ⟨rfl, hb4⟩
      have b4 := b3.trans (hb4.mono b3.size)
      go_wp2_with fail
      refine (Z.out.2.2 _).mono ?_
      rintro e w5 ⟨rfl, hb5⟩
      have b5 := b4.trans (hb5.mono b4.size)
      go_wp2_with fail
      refine (awake_any _ (ht.below b5)).mono ?_
      rintro e w6 ⟨rfl, hb6⟩
      have b6 := b5.trans (hb6.mono b5.size)
      go_wp2_with fail
      go_ret
      exact ⟨rfl, b6⟩
  · rcases hlt with ⟨hl, hd⟩ | ⟨hl, hd⟩
    · go_enter Tryd.func11, Tryd.ntmps11
      go_wp2_with fail
      refine (X.out _).mono ?_
      rintro e w1 ⟨rfl, hb1⟩
      have b1 := hb1
      go_wp2_with fail
      refine (lvalid_yes _ _ ha).mono ?_
      rintro e wq ⟨rfl, rfl⟩
      go_wp2_with fail
      refine (lvalid_yes _ _ hb).mono ?_
      rintro e wq ⟨rfl, rfl⟩
      go_wp2_with fail
      refine (Z.out.1 _ (ht.below b1)).mono ?_
      rintro e w2 ⟨rfl, hb2⟩
      have b2 := b1.trans (hb2.mono b1.size)
      go_wp2_with fail
      refine (Z.out.2.1 _ (ht.below b2)).mono ?_
      rintro e w3 ⟨rfl, hb3⟩
      have b3 := b2.trans (hb3.mono b2.size)
      go_wp2_with fail
      refine (Z.out.2.2 _).mono ?_
      rintro e w4 ⟨rfl, hb4⟩
      have b4 := b3.trans (hb4.mono b3.size)
      go_wp2_with fail
      refine (awake_any _ (ht.below b4)).mono ?_
      rintro e w5 ⟨rfl, hb5⟩
      have b5 := b4.trans (hb5.mono b4.size)
      go_wp2_with fail
      go_ret
      exact ⟨rfl, b5⟩
    · go_enter Tryd.func11, Tryd.ntmps11
      go_wp2_with fail
      refine (X.out _).mono ?_
      rintro e w1 ⟨rfl, hb1⟩
      have b1 := hb1
      go_wp2_with fail
      refine (lvalid_yes _ _ ha).mono ?_
      rintro e wq ⟨rfl, rfl⟩
      go_wp2_with fail
      refine (lvalid_yes _ _ hb).mono ?_
      rintro e wq ⟨rfl, rfl⟩
      go_wp2_with fail
      refine (Z.out.1 _ (ht.below b1)).mono ?_
      rintro e w2 ⟨rfl, hb2⟩
      have b2 := b1.trans (hb2.mono b1.size)
      go_wp2_with fail
      refine (Z.out.2.1 _ (ht.below b2)).mono ?_
      rintro e w3 ⟨rfl, hb3⟩
      have b3 := b2.trans (hb3.mono b2.size)
      go_wp2_with fail
      refine (Z.out.2.2 _).mono ?_
      rintro e w4 ⟨rfl, hb4⟩
      have b4 := b3.trans (hb4.mono b3.size)
      go_wp2_with fail
      refine (awake_any _ (ht.below b4)).mono ?_
      rintro e w5 ⟨rfl, hb5⟩
      have b5 := b4.trans (hb5.mono b4.size)
      go_wp2_with fail
      go_ret
      exact ⟨rfl, b5⟩
  · rcases hlt with ⟨hl, hd⟩ | ⟨hl, hd⟩
    · go_enter Tryd.func11, Tryd.ntmps11
      go_wp2_with fail
      refine (X.out _).mono ?_
      rintro e w1 ⟨rfl, hb1⟩
      have b1 := hb1
      go_wp2_with fail
      refine (lvalid_yes _ _ ha).mono ?_
      rintro e wq ⟨rfl, rfl⟩
      go_wp2_with fail
      refine (lvalid_yes _ _ hb).mono ?_
      rintro e wq ⟨rfl, rfl⟩
      go_wp2_with fail
      refine (Z.out.1 _ (ht.below b1)).mono ?_
      rintro e w2 ⟨rfl, hb2⟩
      have b2 := b1.trans (hb2.mono b1.size)
      go_wp2_with fail
      refine (Z.out.2.1 _ (ht.below b2)).mono ?_
      rintro e w3 ⟨rfl, hb3⟩
      have b3 := b2.trans (hb3.mono b2.size)
      go_wp2_with fail
      refine (Z.out.2.2 _).mono ?_
      rintro e w4 ⟨rfl, hb4⟩
      have b4 := b3.trans (hb4.mono b3.size)
      go_wp2_with fail
      refine (awake_any _ (ht.below b4)).mono ?_
      rintro e w5 ⟨rfl, hb5⟩
      have b5 := b4.trans (hb5.mono b4.size)
      go_wp2_with fail
      go_ret
      exact ⟨rfl, b5⟩
    · go_enter Tryd.func11, Tryd.ntmps11
      go_wp2_with fail
      refine (X.out _).mono ?_
      rintro e w1 ⟨rfl, hb1⟩
      have b1 := hb1
      go_wp2_with fail
      refine (lvalid_yes _ _ ha).mono ?_
      rintro e wq ⟨rfl, rfl⟩
      go_wp2_with fail
      refine (lvalid_yes _ _ hb).mono ?_
      rintro e wq ⟨rfl, rfl⟩
      go_wp2_with fail
      refine (Z.out.1 _ (ht.below b1)).mono ?_
      rintro e w2 ⟨rfl, hb2⟩
      have b2 := b1.trans (hb2.mono b1.size)
      go_wp2_with fail
      refine (Z.out.2.1 _ (ht.below b2)).mono ?_
      rintro e w3 ⟨rfl, hb3⟩
      have b3 := b2.trans (hb3.mono b2.size)
      go_wp2_with fail
      refine (Z.out.2.2 _).mono ?_
      rintro e w4 ⟨rfl, hb4⟩
      have b4 := b3.trans (hb4.mono b3.size)
      go_wp2_with fail
      refine (awake_any _ (ht.below b4)).mono ?_
      rintro e w5 ⟨rfl, hb5⟩
      have b5 := b4.trans (hb5.mono b4.size)
      go_wp2_with fail
      go_ret
      exact ⟨rfl, b5⟩
theorem trip_law (a b : Int) (s : ByteArray) (w : World) (ht : Tab w) (hs : s.size ≤ maxLen) : Calls Tryd.prog 11 #[.int .i64 a, .int .i64 b, .string s] w (Yes w) := by
  by_cases hl : s.size ≤ 100
  · have x1 := fun w => Parse_any s w hs
    have hF := first_of s
    cases ha : okDay a
    · exact trip_bad a b s _ _ w ht hl hF x1 (.inl ha)
    cases hb : okDay b
    · exact trip_bad a b s _ _ w ht hl hF x1 (.inr ⟨ha, hb⟩)
    obtain ⟨va, ea⟩ := date_ok ha
    obtain ⟨vb, eb⟩ := date_ok hb
    have pa : prS a = textL (yOf a) (mOf a) (dOf a) := by rw [prS, if_pos ha]
    have pb : prS b = textL (yOf b) (mOf b) (dOf b) := by rw [prS, if_pos hb]
    have da : dayE a = 0 := by simp [dayE, ha]
    have db : dayE b = 0 := by simp [dayE, hb]
    refine trip_good a b s _ _ w ht hl hF x1 ha hb (prS a) (prS b) (fun w ht => by have := Print_any a w ht; rwa [da] at this) (fun w ht => by have := Print_any b w ht; rwa [db] at this) (fun w => ?_) ?_
    · obtain ⟨f1, f2, f3, f4⟩ := text_form va
      have hp := Parse_any ⟨(textL (yOf a) (mOf a) (dOf a)).toArray⟩ w (by unfold maxLen; show (textL (yOf a) (mOf a) (dOf a)).length ≤ _; show 10 ≤ _; omega)
      obtain ⟨g1, g2⟩ := pa_yes f1
      obtain ⟨o1, o2⟩ := of_yes va
      rw [g1, g2, f2, f3, f4, o1, o2, ea] at hp
      rw [pa]
      exact hp
    · have h := less_text va vb
      rw [ea, eb, ← pa, ← pb] at h
      rw [h]
      cases decide (a < b)
      · exact .inr ⟨rfl, rfl⟩
      · exact .inl ⟨rfl, rfl⟩
  · have hd : decide (100 < (s.size : Int)) = true := by simp; omega
    unfold maxLen at hs
    go_enter Tryd.func11, Tryd.ntmps11
    go_wp2_with fail
    refine (awake_any _ ht).mono ?_
    rintro e w5 ⟨rfl, hb5⟩
    go_wp2_with fail
    go_ret
    exact ⟨rfl, hb5⟩
end Go.Proofs.YtjkpfjnhgbcnkaaDoor
