/- The contracts of the reference's Expand and of both Debit. -/
import Derived.Test.YtklmgogppljolaaRefXff
import Derived.Test.YtklmgogppljolaaRefXft
import Derived.Test.YtklmgogppljolaaRefXtf
import Derived.Test.YtklmgogppljolaaRefXtt
namespace Go.Proofs.Ytklmgogppljolaa
open Go.RowKit

set_option maxHeartbeats 1000000 in
set_option maxRecDepth 100000 in
theorem rExpand_syntax (t one two : List UInt8) (w : World) (ht : t.length ≤ 120) (hc : codeT t = false) :
    Calls Try.prog 22 #[.string ⟨t.toArray⟩, .string ⟨one.toArray⟩, .string ⟨two.toArray⟩] w (RetSE [] 3 w) := by
  have HT := Lib.hid (fun w => rTemplate_any t w (by omega))
  rw [hc] at HT
  clear hc
  go_enter Try.func22, Try.ntmps22
  go_wp2_with fail
  refine (HT.out _).mono ?_
  rintro e w1 ⟨rfl, hb1⟩
  go_wp2_with fail
  go_ret2
  exact ⟨rfl, hb1⟩
theorem bad_of {l : List UInt8} (h : badN l = true) : (l == []) = false ∧ nameB l = false := by
  unfold badN at h
  cases l with
  | nil => simp at h
  | cons a r => simpa using h
theorem good_of2 {l : List UInt8} (h : badN l = false) : (l == []) = true ∨ ((l == []) = false ∧ nameB l = true) := by
  unfold badN at h
  cases l with
  | nil => left; rfl
  | cons a r => right; simpa using h
set_option maxHeartbeats 2000000 in
set_option maxRecDepth 100000 in
theorem rExpand_name (t one two : List UInt8) (w : World) (ht : t.length ≤ 120) (h1 : one.length ≤ 120) (h2 : two.length ≤ 120) (hc : codeT t = true) (hb : (badN one || badN two) = true) :
    Calls Try.prog 22 #[.string ⟨t.toArray⟩, .string ⟨one.toArray⟩, .string ⟨two.toArray⟩] w (RetSE [] 23 w) := by
  have HT := Lib.hid (fun w => rTemplate_any t w (by omega))
  rw [hc] at HT
  clear hc
  have X1 := Lib.hid (fun w => rname_any ⟨one.toArray⟩ w (by unfold maxLen; show one.length ≤ _; omega))
  have X2 := Lib.hid (fun w => rname_any ⟨two.toArray⟩ w (by unfold maxLen; show two.length ≤ _; omega))
  cases hb1 : badN one
  · have hb2 : badN two = true := by rw [hb1] at hb; exact hb
    obtain ⟨q1, q2⟩ := bad_of hb2
    have Q2 := Lib.hid q2
    rcases good_of2 hb1 with p1 | ⟨p1, p2⟩
    · clear hb hb1 hb2 q2
      go_enter Try.func22, Try.ntmps22
      go_wp2_with fail
      refine (HT.out _).mono ?_
      rintro e w1 ⟨rfl, hb1⟩
      go_wp2_with fail
      refine (X2.out _).mono ?_
      rintro e w2 ⟨rfl, rfl⟩
      rw [show nameB (ByteArray.mk two.toArray).data.toList = false from Q2.out]
      go_wp2_with fail
      go_ret2
      exact ⟨rfl, hb1⟩
    · have P2 := Lib.hid p2
      clear hb hb1 hb2 q2 p2
      go_enter Try.func22, Try.ntmps22
      go_wp2_with fail
      refine (HT.out _).mono ?_
      rintro e w1 ⟨rfl, hb1⟩
      go_wp2_with fail
      refine (X1.out _).mono ?_
      rintro e w2 ⟨rfl, rfl⟩
      rw [show nameB (ByteArray.mk one.toArray).data.toList = true from P2.out]
      go_wp2_with fail
      refine (X2.out _).mono ?_
      rintro e w2 ⟨rfl, rfl⟩
      rw [show nameB (ByteArray.mk two.toArray).data.toList = false from Q2.out]
      go_wp2_with fail
      go_ret2
      exact ⟨rfl, hb1⟩
  · obtain ⟨q1, q2⟩ := bad_of hb1
    have Q2 := Lib.hid q2
    clear hb hb1 q2
    go_enter Try.func22, Try.ntmps22
    go_wp2_with fail
    refine (HT.out _).mono ?_
    rintro e w1 ⟨rfl, hb1⟩
    go_wp2_with fail
    refine (X1.out _).mono ?_
    rintro e w2 ⟨rfl, rfl⟩
    rw [show nameB (ByteArray.mk one.toArray).data.toList = false from Q2.out]
    go_wp2_with fail
    go_ret2
    exact ⟨rfl, hb1⟩
theorem rExpand_any (t one two : List UInt8) (w : World) (ht : t.length ≤ 120) (h1 : one.length ≤ 120) (h2 : two.length ≤ 120) :
    Calls Try.prog 22 #[.string ⟨t.toArray⟩, .string ⟨one.toArray⟩, .string ⟨two.toArray⟩] w (RetSE (exR t one two) (exE t one two) w) := by
  cases hc : codeT t
  · have := rExpand_syntax t one two w ht hc
    simp only [exR, exE, hc, Bool.false_eq_true, if_false]
    exact this
  · cases hb : badN one || badN two
    · have hb' := Bool.or_eq_false_iff.1 hb
      simp only [exR, exE, hc, hb, Bool.false_eq_true, if_false, if_true]
      rcases good_of2 hb'.1 with p1 | ⟨p1, p2⟩ <;> rcases good_of2 hb'.2 with q1 | ⟨q1, q2⟩
      · exact rExpand_tt t one two w ht h1 h2 hc p1 q1
      · exact rExpand_tf t one two w ht h1 h2 hc p1 q1 q2
      · exact rExpand_ft t one two w ht h1 h2 hc p1 q1 p2
      · exact rExpand_ff t one two w ht h1 h2 hc p1 q1 p2 q2
    · have := rExpand_name t one two w ht h1 h2 hc hb
      simp only [exR, exE, hc, hb, if_true]
      exact this
def dbB (k : Int) : Bool := k == 1 || k == 5
def dbE (k : Int) : Int := if 1 ≤ k ∧ k ≤ 5 then 0 else 7
def RetBE (b : Bool) (n : Int) (w : World) (e : Ending) (w' : World) : Prop := e = .returned (.tuple #[.bool b, .int .i64 n]) ∧ w = w'
theorem five {k : Int} (h : ¬ k < 1) (h' : ¬ 5 < k) : k = 1 ∨ k = 2 ∨ k = 3 ∨ k = 4 ∨ k = 5 := by omega
set_option maxHeartbeats 1000000 in
theorem Debit_any (k : Int) (w : World) : Calls Try.prog 23 #[.int .i64 k] w (RetBE (dbB k) (dbE k) w) := by
  by_cases h : k < 1 ∨ 5 < k
  · have d1 : (k == 1) = false := by rw [beq_eq_false_iff_ne]; omega
    have d2 : (k == 2) = false := by rw [beq_eq_false_iff_ne]; omega
    have d3 : (k == 3) = false := by rw [beq_eq_false_iff_ne]; omega
    have d4 : (k == 4) = false := by rw [beq_eq_false_iff_ne]; omega
    have d5 : (k == 5) = false := by rw [beq_eq_false_iff_ne]; omega
    have hv := Lib.hid (show dbB k = false ∧ dbE k = 7 by rw [dbB, d1, d5, dbE, if_neg (by omega)]; exact ⟨rfl, rfl⟩)
    clear h
    go_enter Try.func23, Try.ntmps23
    go_wp2_with fail
    go_ret2
    exact ⟨by rw [hv.out.1, hv.out.2]; rfl, rfl⟩
  · rcases five (k := k) (by omega) (by omega) with rfl | rfl | rfl | rfl | rfl
    all_goals
      clear h
      go_enter Try.func23, Try.ntmps23
      go_wp2_with fail
      go_ret2
      exact ⟨rfl, rfl⟩
set_option maxHeartbeats 1000000 in
theorem rDebit_any (k : Int) (w : World) : Calls Try.prog 24 #[.int .i64 k] w (RetBE (dbB k) (dbE k) w) := by
  by_cases h : k < 1
  · have d1 : decide (k < 1) = true := by simpa using h
    have hv := Lib.hid (show dbB k = false ∧ dbE k = 7 by rw [dbB, show (k == 1) = false by rw [beq_eq_false_iff_ne]; omega, show (k == 5) = false by rw [beq_eq_false_iff_ne]; omega, dbE, if_neg (by omega)]; exact ⟨rfl, rfl⟩)
    clear h
    go_enter Try.func24, Try.ntmps24
    go_wp2_with fail
    go_ret2
    exact ⟨by rw [hv.out.1, hv.out.2]; rfl, rfl⟩
  · by_cases h' : 5 < k
    · have d1 : decide (k < 1) = false := by simpa using h
      have d2 : decide (5 < k) = true := by simpa using h'
      have hv := Lib.hid (show dbB k = false ∧ dbE k = 7 by rw [dbB, show (k == 1) = false by rw [beq_eq_false_iff_ne]; omega, show (k == 5) = false by rw [beq_eq_false_iff_ne]; omega, dbE, if_neg (by omega)]; exact ⟨rfl, rfl⟩)
      clear h h'
      go_enter Try.func24, Try.ntmps24
      go_wp2_with fail
      go_ret2
      exact ⟨by rw [hv.out.1, hv.out.2]; rfl, rfl⟩
    · rcases five h h' with rfl | rfl | rfl | rfl | rfl
      all_goals
        clear h h'
        go_enter Try.func24, Try.ntmps24
        go_wp2_with fail
        go_ret2
        exact ⟨rfl, rfl⟩
end Go.Proofs.Ytklmgogppljolaa
