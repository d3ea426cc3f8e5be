/- Lying under is a partial order, plain; the walk of AccountOrder. -/
import Derived.Test.YtklmgogppljolaaAwake
namespace Go.Proofs.Ytklmgogppljolaa
open Go.RowKit

theorem und_iff (c p : List UInt8) : undB c p = true ↔ c = p ∨ ∃ r, c = p ++ 46 :: r := by
  unfold undB
  rw [Bool.and_eq_true, Bool.or_eq_true, decide_eq_true_iff, decide_eq_true_iff, List.isPrefixOf_iff_prefix]
  constructor
  · rintro ⟨⟨r, rfl⟩, h⟩
    rw [List.drop_left] at h
    cases r with
    | nil => exact .inl (by simp)
    | cons x r =>
      rcases h with h | h
      · cases h
      · exact .inr ⟨r, by rw [show x = 46 from h]⟩
  · rintro (rfl | ⟨r, rfl⟩)
    · exact ⟨List.prefix_refl _, .inl (by simp)⟩
    · exact ⟨⟨_, rfl⟩, .inr (by rw [List.drop_left]; rfl)⟩
theorem und_refl (a : List UInt8) : undB a a = true := (und_iff a a).2 (.inl rfl)
theorem und_antisym {a b : List UInt8} (h : undB a b = true) (g : undB b a = true) : a = b := by
  rcases (und_iff a b).1 h with h | ⟨r, h⟩
  · exact h
  · rcases (und_iff b a).1 g with g | ⟨q, g⟩
    · exact g.symm
    · have := congrArg List.length h
      have := congrArg List.length g
      simp at *
      omega
theorem und_trans {a b c : List UInt8} (h : undB a b = true) (g : undB b c = true) : undB a c = true := by
  rw [und_iff] at *
  rcases h with rfl | ⟨r, rfl⟩
  · exact g
  · rcases g with rfl | ⟨q, rfl⟩
    · exact .inr ⟨r, rfl⟩
    · exact .inr ⟨q ++ 46 :: r, by simp⟩
theorem und_linear {a b c : List UInt8} (h : undB a b = true) (g : undB a c = true) : undB b c = true ∨ undB c b = true := by
  rw [und_iff] at *
  rw [und_iff c b]
  rcases h with rfl | ⟨r, h⟩
  · exact .inl g
  · rcases g with rfl | ⟨q, g⟩
    · exact .inr (.inr ⟨r, h⟩)
    · have e : b ++ 46 :: r = c ++ 46 :: q := h.symm.trans g
      rcases List.append_eq_append_iff.1 e with ⟨x, h1, h2⟩ | ⟨x, h1, h2⟩
      · cases x with
        | nil => exact .inl (.inl (by simpa using h1.symm))
        | cons y x =>
          rw [List.cons_append, List.cons.injEq] at h2
          exact .inr (.inr ⟨x, by rw [h1, ← h2.1]⟩)
      · cases x with
        | nil => exact .inl (.inl (by simpa using h1))
        | cons y x =>
          rw [List.cons_append, List.cons.injEq] at h2
          exact .inl (.inr ⟨x, by rw [h1, ← h2.1]⟩)
theorem und_char (a b : List UInt8) : undB a b = (decide (a = b) || Lib.hasPrefix a (b ++ [46])) := by
  rw [Bool.eq_iff_iff, und_iff, Bool.or_eq_true, decide_eq_true_iff, Lib.hasPrefix, List.isPrefixOf_iff_prefix]
  constructor
  · rintro (h | ⟨r, rfl⟩)
    · exact .inl h
    · exact .inr ⟨r, by simp⟩
  · rintro (h | ⟨r, rfl⟩)
    · exact .inl h
    · exact .inr ⟨r, by simp⟩
theorem app_dot (b : List UInt8) : ((⟨b.toArray⟩ : ByteArray) ++ ⟨#[46]⟩).data.toList = b ++ [46] := by
  rw [ByteArray.data_append]
  simp
theorem hp_any (a b : List UInt8) (w : World) : Calls Try.prog 15 #[.string ⟨a.toArray⟩, .string (⟨b.toArray⟩ ++ ⟨#[46]⟩)] w fun e w' => e = .returned (.bool (Lib.hasPrefix a (b ++ [46]))) ∧ w = w' := by
  have h := Try.strings_HasPrefix ⟨a.toArray⟩ (⟨b.toArray⟩ ++ ⟨#[46]⟩) w
  rw [app_dot] at h
  exact h.mono fun _ _ h' => ⟨h'.1, h'.2.symm⟩
def Yes (w : World) (e : Ending) (w' : World) : Prop := e = .returned (.bool true) ∧ Below w.heap.size w w'
set_option maxHeartbeats 8000000 in
set_option maxRecDepth 100000 in
theorem order_walk (a b c : List UInt8) (w : World) (hm : ML w) (ha : a.length ≤ 120) (hb : b.length ≤ 120) (hc : c.length ≤ 120) : Calls Try.prog 4 #[.string ⟨a.toArray⟩, .string ⟨b.toArray⟩, .string ⟨c.toArray⟩] w (Yes w) := by
  have u0 := und_refl a
  have da : decide (120 < (a.length : Int)) = false := by simp; omega
  have db : decide (120 < (b.length : Int)) = false := by simp; omega
  have dc : decide (120 < (c.length : Int)) = false := by simp; omega
  have hchar := Lib.hid (und_char a b)
  have HM := Lib.hid hm
  have hpc := fun w => hp_any a b w
  cases u1 : undB a b
  · have hx := hchar.out
    rw [u1] at hx
    obtain ⟨hx1, hx2⟩ := Bool.or_eq_false_iff.1 hx.symm
    have e1 : (a == b) = false := by simpa using hx1
    have HX := Lib.hid hx2
    clear hx hx1 hx2
    have hp : ∀ w, Calls Try.prog 15 #[.string ⟨a.toArray⟩, .string (⟨b.toArray⟩ ++ ⟨#[46]⟩)] w fun e w' => e = .returned (.bool false) ∧ w = w' := fun w => (hpc w).mono fun _ _ ⟨he, hw⟩ => ⟨by rw [he, HX.out], hw⟩
    have HP := Lib.hid hp
    clear hp hpc
    go_enter Try.func4, Try.ntmps4
    go_wp2_with (go_at_call 14; refine (Under_any _ _ _).mono ?_; rintro e w' ⟨rfl, rfl⟩)
    refine (HP.out _).mono ?_
    rintro e w1 ⟨rfl, rfl⟩
    go_wp2_with fail
    refine (awake_any _ HM.out).mono ?_
    rintro e w2 ⟨rfl, hb2⟩
    go_wp2_with fail
    go_ret
    exact ⟨rfl, hb2⟩
  · have hcase : (undB b c = true ∧ undB a c = true) ∨ (undB b c = false ∧ undB a c = false) ∨ (undB b c = false ∧ undB a c = true ∧ undB c b = true) := by
      cases h1 : undB b c
      · cases h2 : undB a c
        · exact .inr (.inl ⟨rfl, rfl⟩)
        · rcases und_linear u1 h2 with h | h
          · rw [h1] at h; cases h
          · exact .inr (.inr ⟨rfl, rfl, h⟩)
      · exact .inl ⟨rfl, und_trans u1 h1⟩
    cases u2 : undB b a
    · have hne : ¬ a = b := fun e => by rw [e, und_refl] at u2; cases u2
      have hx := hchar.out
      rw [u1, decide_eq_false hne, Bool.false_or] at hx
      have HX := Lib.hid hx.symm
      have e1 : (a == b) = false := by simpa using hne
      have hp : ∀ w, Calls Try.prog 15 #[.string ⟨a.toArray⟩, .string (⟨b.toArray⟩ ++ ⟨#[46]⟩)] w fun e w' => e = .returned (.bool true) ∧ w = w' := fun w => (hpc w).mono fun _ _ ⟨he, hw⟩ => ⟨by rw [he, HX.out], hw⟩
      have HP := Lib.hid hp
      clear hp hpc hne hx
      rcases hcase with ⟨u3, u4⟩ | ⟨u3, u4⟩ | ⟨u3, u4, u5⟩
      · go_enter Try.func4, Try.ntmps4
        go_wp2_with (go_at_call 14; refine (Under_any _ _ _).mono ?_; rintro e w' ⟨rfl, rfl⟩)
        refine (HP.out _).mono ?_
        rintro e w1 ⟨rfl, rfl⟩
        go_wp2_with fail
        refine (awake_any _ HM.out).mono ?_
        rintro e w2 ⟨rfl, hb2⟩
        go_wp2_with fail
        go_ret
        exact ⟨rfl, hb2⟩
      · go_enter Try.func4, Try.ntmps4
        go_wp2_with (go_at_call 14; refine (Under_any _ _ _).mono ?_; rintro e w' ⟨rfl, rfl⟩)
        refine (HP.out _).mono ?_
        rintro e w1 ⟨rfl, rfl⟩
        go_wp2_with fail
        refine (awake_any _ HM.out).mono ?_
        rintro e w2 ⟨rfl, hb2⟩
        go_wp2_with fail
        go_ret
        exact ⟨rfl, hb2⟩
      · go_enter Try.func4, Try.ntmps4
        go_wp2_with (go_at_call 14; refine (Under_any _ _ _).mono ?_; rintro e w' ⟨rfl, rfl⟩)
        refine (HP.out _).mono ?_
        rintro e w1 ⟨rfl, rfl⟩
        go_wp2_with fail
        refine (awake_any _ HM.out).mono ?_
        rintro e w2 ⟨rfl, hb2⟩
        go_wp2_with fail
        go_ret
        exact ⟨rfl, hb2⟩
    · have e1 : (a == b) = true := by simpa using und_antisym u1 u2
      clear hpc
      rcases hcase with ⟨u3, u4⟩ | ⟨u3, u4⟩ | ⟨u3, u4, u5⟩
      · go_enter Try.func4, Try.ntmps4
        go_wp2_with (go_at_call 14; refine (Under_any _ _ _).mono ?_; rintro e w' ⟨rfl, rfl⟩)
        refine (awake_any _ HM.out).mono ?_
        rintro e w2 ⟨rfl, hb2⟩
        go_wp2_with fail
        go_ret
        exact ⟨rfl, hb2⟩
      · go_enter Try.func4, Try.ntmps4
        go_wp2_with (go_at_call 14; refine (Under_any _ _ _).mono ?_; rintro e w' ⟨rfl, rfl⟩)
        refine (awake_any _ HM.out).mono ?_
        rintro e w2 ⟨rfl, hb2⟩
        go_wp2_with fail
        go_ret
        exact ⟨rfl, hb2⟩
      · go_enter Try.func4, Try.ntmps4
        go_wp2_with (go_at_call 14; refine (Under_any _ _ _).mono ?_; rintro e w' ⟨rfl, rfl⟩)
        refine (awake_any _ HM.out).mono ?_
        rintro e w2 ⟨rfl, hb2⟩
        go_wp2_with fail
        go_ret
        exact ⟨rfl, hb2⟩
theorem order_law (a b c : ByteArray) (w : World) (hm : ML w) (ha : a.size ≤ maxLen) (hb : b.size ≤ maxLen) (hc : c.size ≤ maxLen) : Calls Try.prog 4 #[.string a, .string b, .string c] w (Yes w) := by
  unfold maxLen at ha hb hc
  by_cases h1 : a.size ≤ 120
  · by_cases h2 : b.size ≤ 120
    · by_cases h3 : c.size ≤ 120
      · exact order_walk a.data.toList b.data.toList c.data.toList w hm h1 h2 h3
      · have d1 : decide (120 < (a.size : Int)) = false := by simp; omega
        have d2 : decide (120 < (b.size : Int)) = false := by simp; omega
        have d3 : decide (120 < (c.size : Int)) = true := by simp; omega
        have HM := Lib.hid hm
        go_enter Try.func4, Try.ntmps4
        go_wp2_with fail
        refine (awake_any _ HM.out).mono ?_
        rintro e w2 ⟨rfl, hb2⟩
        go_wp2_with fail
        go_ret
        exact ⟨rfl, hb2⟩
    · have d1 : decide (120 < (a.size : Int)) = false := by simp; omega
      have d2 : decide (120 < (b.size : Int)) = true := by simp; omega
      have HM := Lib.hid hm
      go_enter Try.func4, Try.ntmps4
      go_wp2_with fail
      refine (awake_any _ HM.out).mono ?_
      rintro e w2 ⟨rfl, hb2⟩
      go_wp2_with fail
      go_ret
      exact ⟨rfl, hb2⟩
  · have d1 : decide (120 < (a.size : Int)) = true := by simp; omega
    have HM := Lib.hid hm
    go_enter Try.func4, Try.ntmps4
    go_wp2_with fail
    refine (awake_any _ HM.out).mono ?_
    rintro e w2 ⟨rfl, hb2⟩
    go_wp2_with fail
    go_ret
    exact ⟨rfl, hb2⟩
end Go.Proofs.Ytklmgogppljolaa
