/- Texts of days, plain: what is printed is parsed, what is parsed is printed, the order. -/
import Derived.Test.YtjkpfjnhgbcnkaaDoorRefP
import Derived.Test.YtjkpfjnhgbcnkaaDoorCal2
namespace Go.Proofs.YtjkpfjnhgbcnkaaDoor
open Go.RowKit

theorem dg_nat {k : Nat} (h : k ≤ 9) : (dg k).toNat = 48 + k := by
  unfold dg
  rw [UInt8.toNat_ofNat']
  omega
theorem dv_dg {k : Nat} (h : k ≤ 9) : dv (dg k) = (k : Int) := by unfold dv; rw [dg_nat h]; omega
theorem bad_dg {k : Nat} (h : k ≤ 9) : badC (dg k) = false := by
  unfold badC; rw [dg_nat h, Bool.or_eq_false_iff, decide_eq_false_iff_not, decide_eq_false_iff_not]; omega
theorem dg_of {c : UInt8} (h : badC c = false) : c = dg (dv c).toNat ∧ (dv c).toNat ≤ 9 ∧ 0 ≤ dv c := by
  have hd := dv_ok h
  unfold badC at h
  rw [Bool.or_eq_false_iff, decide_eq_false_iff_not, decide_eq_false_iff_not] at h
  refine ⟨?_, by omega, hd.1⟩
  apply UInt8.toNat_inj.1
  rw [dg_nat (by omega)]
  have := c.toNat_lt
  unfold dv; omega
theorem num4 (n : Nat) (h : n < 10000) : numL (dig4 n) = (n : Int) := by
  have e : numL (dig4 n) = 10 * (10 * (10 * (10 * 0 + dv (dg (n / 1000))) + dv (dg (n / 100 % 10))) + dv (dg (n / 10 % 10))) + dv (dg (n % 10)) := rfl
  rw [e, dv_dg (by omega), dv_dg (by omega), dv_dg (by omega), dv_dg (by omega)]
  omega
theorem num2 (n : Nat) (h : n < 100) : numL (dig2 n) = (n : Int) := by
  have e : numL (dig2 n) = 10 * (10 * 0 + dv (dg (n / 10))) + dv (dg (n % 10)) := rfl
  rw [e, dv_dg (by omega), dv_dg (by omega)]
  omega
theorem bad4 (n : Nat) (h : n < 10000) : badL (dig4 n) = false := by
  simp only [badL, dig4, List.any_cons, List.any_nil, bad_dg (show n / 1000 ≤ 9 by omega), bad_dg (show n / 100 % 10 ≤ 9 by omega), bad_dg (show n / 10 % 10 ≤ 9 by omega), bad_dg (show n % 10 ≤ 9 by omega)]
  rfl
theorem bad2 (n : Nat) (h : n < 100) : badL (dig2 n) = false := by
  simp only [badL, dig2, List.any_cons, List.any_nil, bad_dg (show n / 10 ≤ 9 by omega), bad_dg (show n % 10 ≤ 9 by omega)]
  rfl
theorem back4 {a b c d : UInt8} (h : badL [a, b, c, d] = false) : 0 ≤ numL [a, b, c, d] ∧ dig4 (numL [a, b, c, d]).toNat = [a, b, c, d] := by
  simp only [badL, List.any_cons, List.any_nil, Bool.or_false, Bool.or_eq_false_iff] at h
  obtain ⟨h1, h2, h3, h4⟩ := h
  obtain ⟨a1, a2, a3⟩ := dg_of h1
  obtain ⟨b1, b2, b3⟩ := dg_of h2
  obtain ⟨c1, c2, c3⟩ := dg_of h3
  obtain ⟨d1, d2, d3⟩ := dg_of h4
  have e : numL [a, b, c, d] = 10 * (10 * (10 * (10 * 0 + dv a) + dv b) + dv c) + dv d := rfl
  refine ⟨by omega, ?_⟩
  unfold dig4
  rw [e, show (10 * (10 * (10 * (10 * 0 + dv a) + dv b) + dv c) + dv d).toNat / 1000 = (dv a).toNat by omega, show (10 * (10 * (10 * (10 * 0 + dv a) + dv b) + dv c) + dv d).toNat / 100 % 10 = (dv b).toNat by omega,
    show (10 * (10 * (10 * (10 * 0 + dv a) + dv b) + dv c) + dv d).toNat / 10 % 10 = (dv c).toNat by omega, show (10 * (10 * (10 * (10 * 0 + dv a) + dv b) + dv c) + dv d).toNat % 10 = (dv d).toNat by omega, ← a1, ← b1, ← c1, ← d1]
theorem back2 {a b : UInt8} (h : badL [a, b] = false) : 0 ≤ numL [a, b] ∧ dig2 (numL [a, b]).toNat = [a, b] := by
  simp only [badL, List.any_cons, List.any_nil, Bool.or_false, Bool.or_eq_false_iff] at h
  obtain ⟨h1, h2⟩ := h
  obtain ⟨a1, a2, a3⟩ := dg_of h1
  obtain ⟨b1, b2, b3⟩ := dg_of h2
  have e : numL [a, b] = 10 * (10 * 0 + dv a) + dv b := rfl
  refine ⟨by omega, ?_⟩
  unfold dig2
  rw [e, show (10 * (10 * 0 + dv a) + dv b).toNat / 10 = (dv a).toNat by omega, show (10 * (10 * 0 + dv a) + dv b).toNat % 10 = (dv b).toNat by omega, ← a1, ← b1]
/-- what has the form of a date is the text of its numbers -/
theorem form_text {s : ByteArray} (h : formB s = true) : s.data.toList = textL (psY s) (psM s) (psD s) := by
  have h10 : s.size = 10 := by
    unfold formB at h
    simp only [Bool.and_eq_true, decide_eq_true_iff] at h
    exact h.1.1.1
  obtain ⟨c0, c1, c2, c3, c4, c5, c6, c7, c8, c9, rfl⟩ := list10 h10
  have e1 : ((⟨#[c0, c1, c2, c3, c4, c5, c6, c7, c8, c9]⟩ : ByteArray).extract 0 4).data.toList = [c0, c1, c2, c3] := rfl
  have e2 : ((⟨#[c0, c1, c2, c3, c4, c5, c6, c7, c8, c9]⟩ : ByteArray).extract 5 7).data.toList = [c5, c6] := rfl
  have e3 : ((⟨#[c0, c1, c2, c3, c4, c5, c6, c7, c8, c9]⟩ : ByteArray).extract 8 10).data.toList = [c8, c9] := rfl
  unfold formB at h
  rw [e1, e2, e3] at h
  simp only [Bool.and_eq_true, decide_eq_true_iff, Bool.not_eq_true', Bool.or_eq_false_iff] at h
  obtain ⟨⟨⟨_, h4⟩, h7⟩, ⟨ha, hb⟩, hc⟩ := h
  have h4' : c4 = 45 := h4
  have h7' : c7 = 45 := h7
  unfold textL psY psM psD
  rw [e1, e2, e3, (back4 ha).2, (back2 hb).2, (back2 hc).2, h4', h7']
  rfl
/-- the text of a date has the form of a date, and its numbers -/
theorem text_form {y m d : Int} (hv : Valid y m d) : formB ⟨(textL y m d).toArray⟩ = true ∧ psY ⟨(textL y m d).toArray⟩ = y ∧ psM ⟨(textL y m d).toArray⟩ = m ∧ psD ⟨(textL y m d).toArray⟩ = d := by
  have y0 := hv.y0; have y1 := hv.y1; have m0 := hv.m0; have m1 := hv.m1; have d0 := hv.d0; have d1 := hv.d1
  have hl := len_lo y m
  have e1 : ((⟨(textL y m d).toArray⟩ : ByteArray).extract 0 4).data.toList = dig4 y.toNat := rfl
  have e2 : ((⟨(textL y m d).toArray⟩ : ByteArray).extract 5 7).data.toList = dig2 m.toNat := rfl
  have e3 : ((⟨(textL y m d).toArray⟩ : ByteArray).extract 8 10).data.toList = dig2 d.toNat := rfl
  refine ⟨?_, ?_, ?_, ?_⟩
  · unfold formB
    rw [e1, e2, e3, bad4 _ (by omega), bad2 _ (by omega), bad2 _ (by omega)]
    rfl
  · unfold psY; rw [e1, num4 _ (by omega)]; omega
  · unfold psM; rw [e2, num2 _ (by omega)]; omega
  · unfold psD; rw [e3, num2 _ (by omega)]; omega
theorem dg_lt {i j : Nat} (hi : i ≤ 9) (hj : j ≤ 9) : (dg i < dg j) ↔ i < j := by
  rw [UInt8.lt_iff_toNat_lt, dg_nat hi, dg_nat hj]; omega
theorem dg_eq {i j : Nat} (hi : i ≤ 9) (hj : j ≤ 9) : (dg i = dg j) ↔ i = j := by
  rw [← UInt8.toNat_inj, dg_nat hi, dg_nat hj]; omega
theorem less_dg {i j : Nat} (hi : i ≤ 9) (hj : j ≤ 9) (x y : List UInt8) : Op.bytesLess (dg i :: x) (dg j :: y) = (decide (i < j) || (decide (i = j) && Op.bytesLess x y)) := by
  rw [Op.bytesLess]
  congr 1
  · rw [decide_eq_decide]; exact dg_lt hi hj
  · congr 1
    rw [Bool.eq_iff_iff, beq_iff_eq, decide_eq_true_iff]; exact dg_eq hi hj
theorem less_same (c : UInt8) (x y : List UInt8) : Op.bytesLess (c :: x) (c :: y) = Op.bytesLess x y := by
  rw [Op.bytesLess]
  have : decide (c < c) = false := by rw [decide_eq_false_iff_not, UInt8.lt_iff_toNat_lt]; omega
  rw [this, beq_self_eq_true, Bool.true_and, Bool.false_or]
theorem less_text {y m d y' m' d' : Int} (h : Valid y m d) (g : Valid y' m' d') : Op.bytesLess (textL y m d) (textL y' m' d') = decide (num y m d < num y' m' d') := by
  have y0 := h.y0; have y1 := h.y1; have m0 := h.m0; have m1 := h.m1; have d0 := h.d0; have d1 := h.d1
  have z0 := g.y0; have z1 := g.y1; have k0 := g.m0; have k1 := g.m1; have e0 := g.d0; have e1 := g.d1
  have hl := len_lo y m
  have hl' := len_lo y' m'
  obtain ⟨Y, rfl⟩ := Int.eq_ofNat_of_zero_le (show 0 ≤ y by omega)
  obtain ⟨M, rfl⟩ := Int.eq_ofNat_of_zero_le (show 0 ≤ m by omega)
  obtain ⟨D, rfl⟩ := Int.eq_ofNat_of_zero_le (show 0 ≤ d by omega)
  obtain ⟨Y', rfl⟩ := Int.eq_ofNat_of_zero_le (show 0 ≤ y' by omega)
  obtain ⟨M', rfl⟩ := Int.eq_ofNat_of_zero_le (show 0 ≤ m' by omega)
  obtain ⟨D', rfl⟩ := Int.eq_ofNat_of_zero_le (show 0 ≤ d' by omega)
  have hnum : num Y M D < num Y' M' D' ↔ (Y < Y' ∨ (Y = Y' ∧ (M < M' ∨ (M = M' ∧ D < D')))) := by
    constructor
    · intro hlt
      rcases Int.lt_trichotomy (12 * (Y : Int) + M) (12 * (Y' : Int) + M') with hc | hc | hc
      · omega
      · have e1 : Y = Y' := by omega
        have e2 : M = M' := by omega
        subst e1 e2
        unfold num at hlt
        omega
      · have := num_lt g h hc
        omega
    · intro hc
      rcases hc with hc | ⟨rfl, hc | ⟨rfl, hc⟩⟩
      · exact num_lt h g (by omega)
      · exact num_lt h g (by omega)
      · unfold num; omega
  rw [Bool.eq_iff_iff, decide_eq_true_iff, hnum]
  have et : ∀ A B C : Nat, textL (A : Int) (B : Int) (C : Int) = dg (A / 1000) :: dg (A / 100 % 10) :: dg (A / 10 % 10) :: dg (A % 10) :: 45 :: dg (B / 10) :: dg (B % 10) :: 45 :: dg (C / 10) :: dg (C % 10) :: [] := fun A B C => rfl
  rw [et, et, less_dg (by omega) (by omega), less_dg (by omega) (by omega), less_dg (by omega) (by omega), less_dg (by omega) (by omega), less_same, less_dg (by omega) (by omega), less_dg (by omega) (by omega), less_same, less_dg (by omega) (by omega), less_dg (by omega) (by omega)]
  simp only [Bool.or_eq_true, Bool.and_eq_true, decide_eq_true_iff, Op.bytesLess, Bool.false_eq_true, and_false, or_false]
  have a1 : Y / 1000 = Y' / 1000 ∧ Y / 100 % 10 = Y' / 100 % 10 ∧ Y / 10 % 10 = Y' / 10 % 10 ∧ Y % 10 = Y' % 10 ↔ Y = Y' := by omega
  have a2 : (Y / 1000 < Y' / 1000 ∨ Y / 1000 = Y' / 1000 ∧ (Y / 100 % 10 < Y' / 100 % 10 ∨ Y / 100 % 10 = Y' / 100 % 10 ∧ (Y / 10 % 10 < Y' / 10 % 10 ∨ Y / 10 % 10 = Y' / 10 % 10 ∧ Y % 10 < Y' % 10))) ↔ Y < Y' := by omega
  have b1 : M / 10 = M' / 10 ∧ M % 10 = M' % 10 ↔ M = M' := by omega
  have b2 : (M / 10 < M' / 10 ∨ M / 10 = M' / 10 ∧ M % 10 < M' % 10) ↔ M < M' := by omega
  have c2 : (D / 10 < D' / 10 ∨ D / 10 = D' / 10 ∧ D % 10 < D' % 10) ↔ D < D' := by omega
  rw [← a1, ← a2, ← b1, ← b2, ← c2]
  generalize Y / 1000 = i1, Y' / 1000 = j1
  generalize Y / 100 % 10 = i2, Y' / 100 % 10 = j2
  generalize Y / 10 % 10 = i3, Y' / 10 % 10 = j3
  generalize Y % 10 = i4, Y' % 10 = j4
  generalize M / 10 = i5, M' / 10 = j5
  generalize M % 10 = i6, M' % 10 = j6
  generalize D / 10 = i7, D' / 10 = j7
  generalize D % 10 = i8, D' % 10 = j8
  clear et hnum a1 a2 b1 b2 c2
  grind
end Go.Proofs.YtjkpfjnhgbcnkaaDoor
