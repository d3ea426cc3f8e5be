/- The walk of AccountCodes. -/
import Derived.Test.YtklmgogppljolaaRefE
namespace Go.Proofs.Ytklmgogppljolaa
open Go.RowKit

set_option maxHeartbeats 4000000 in
set_option maxRecDepth 100000 in
theorem codes_walk (code other one two : List UInt8) (kind : Int) (w : World) (hm : ML w) (l1 : code.length ≤ 120) (l2 : other.length ≤ 120) (l3 : one.length ≤ 120) (l4 : two.length ≤ 120) :
    Calls Try.prog 6 #[.string ⟨code.toArray⟩, .string ⟨other.toArray⟩, .string ⟨one.toArray⟩, .string ⟨two.toArray⟩, .int .i64 kind] w (Yes w) := by
  have d1 : decide (120 < (code.length : Int)) = false := by simp; omega
  have d2 : decide (120 < (other.length : Int)) = false := by simp; omega
  have d3 : decide (120 < (one.length : Int)) = false := by simp; omega
  have d4 : decide (120 < (two.length : Int)) = false := by simp; omega
  have HM := Lib.hid hm
  clear hm
  have HP := Lib.hid (fun w hm => Parent_any code w (by omega) hm)
  have HRP := Lib.hid (fun w => rParent_any code w (by omega))
  have HE := Lib.hid (fun w hm => Expand_any code one two w (by omega) (by unfold maxLen; omega) (by unfold maxLen; omega) hm)
  have HRE := Lib.hid (fun w => rExpand_any code one two w l1 l3 l4)
  have HD := Lib.hid (Debit_any kind)
  have HRD := Lib.hid (rDebit_any kind)
  have HC := Lib.hid (fun w hm => Check_any ⟨code.toArray⟩ w (by show code.length < _; omega) hm)
  have HRC := Lib.hid (fun w => rCheck_any code w (by omega))
  have HU := Lib.hid (Under_any code other)
  have HRU := Lib.hid (rUnder_walk code other)
  have hck : ∀ w hm, Calls Try.prog 16 #[.string ⟨code.toArray⟩] w fun e w' => e = .returned (.int .i64 (chk code)) ∧ Below w.heap.size w w' := HC.out
  have HC := Lib.hid hck
  clear hck
  generalize parS code = ps at *
  generalize parB code = pb at *
  generalize exR code one two = xr at *
  generalize exE code one two = xe at *
  generalize dbB kind = db at *
  generalize dbE kind = de at *
  generalize chk code = ck at *
  generalize undB code other = ub at *
  go_enter Try.func6, Try.ntmps6
  go_wp2_with fail
  refine (HP.out _ HM.out).mono ?_
  rintro e w1 ⟨rfl, hb1⟩
  go_wp2_with fail
  refine (HRP.out _).mono ?_
  rintro e w2 ⟨rfl, hb2⟩
  have hB2 := Lib.hid (hb1.trans (hb2.mono hb1.size))
  clear hb1 hb2
  go_wp2_with fail
  refine (HE.out _ (HM.out.below hB2.out)).mono ?_
  rintro e w3 ⟨rfl, hb3⟩
  have hB3 := Lib.hid (hB2.out.trans (hb3.mono hB2.out.size))
  clear hb3
  go_wp2_with fail
  refine (HRE.out _).mono ?_
  rintro e w4 ⟨rfl, hb4⟩
  have hB4 := Lib.hid (hB3.out.trans (hb4.mono hB3.out.size))
  clear hb4
  go_wp2_with fail
  refine (HD.out _).mono ?_
  rintro e w5 ⟨rfl, rfl⟩
  go_wp2_with fail
  refine (HRD.out _).mono ?_
  rintro e w6 ⟨rfl, rfl⟩
  go_wp2_with fail
  refine (HC.out _ (HM.out.below hB4.out)).mono ?_
  rintro e w7 ⟨rfl, hb7⟩
  have hB7 := Lib.hid (hB4.out.trans (hb7.mono hB4.out.size))
  clear hb7
  go_wp2_with fail
  refine (HRC.out _).mono ?_
  rintro e w8 ⟨rfl, hb8⟩
  have hB8 := Lib.hid (hB7.out.trans (hb8.mono hB7.out.size))
  clear hb8
  go_wp2_with fail
  refine (HU.out _).mono ?_
  rintro e w9 ⟨rfl, rfl⟩
  go_wp2_with fail
  refine (HRU.out _).mono ?_
  rintro e w10 ⟨rfl, rfl⟩
  go_wp2_with fail
  refine (awake_any _ (HM.out.below hB8.out)).mono ?_
  rintro e w11 ⟨rfl, hb11⟩
  go_wp2_with fail
  go_ret
  exact ⟨rfl, hB8.out.trans (hb11.mono hB8.out.size)⟩
set_option maxHeartbeats 4000000 in
set_option maxRecDepth 100000 in
theorem codes_row {P : Prop} (code other one two : ByteArray) (kind : Int) (w : World) (hm : ML w) (h1 : code.size ≤ maxLen) (h2 : other.size ≤ maxLen) (h3 : one.size ≤ maxLen) (h4 : two.size ≤ maxLen) (_ : P) :
    Calls Try.prog 6 #[.string code, .string other, .string one, .string two, .int .i64 kind] w (Yes w) := by
  by_cases l1 : code.size ≤ 120
  · by_cases l2 : other.size ≤ 120
    · by_cases l3 : one.size ≤ 120
      · by_cases l4 : two.size ≤ 120
        · exact codes_walk code.data.toList other.data.toList one.data.toList two.data.toList kind w hm l1 l2 l3 l4
        · have HM := Lib.hid hm
          clear hm
          have d1 : decide (120 < (code.size : Int)) = false := by simp; omega
          have d2 : decide (120 < (other.size : Int)) = false := by simp; omega
          have d3 : decide (120 < (one.size : Int)) = false := by simp; omega
          have d4 : decide (120 < (two.size : Int)) = true := by simp; omega
          unfold maxLen at *
          go_enter Try.func6, Try.ntmps6
          go_wp2_with fail
          refine (awake_any _ HM.out).mono ?_
          rintro e w2 ⟨rfl, hb2⟩
          go_wp2_with fail
          go_ret
          exact ⟨rfl, hb2⟩
      · have HM := Lib.hid hm
        clear hm
        have d1 : decide (120 < (code.size : Int)) = false := by simp; omega
        have d2 : decide (120 < (other.size : Int)) = false := by simp; omega
        have d3 : decide (120 < (one.size : Int)) = true := by simp; omega
        unfold maxLen at *
        go_enter Try.func6, Try.ntmps6
        go_wp2_with fail
        refine (awake_any _ HM.out).mono ?_
        rintro e w2 ⟨rfl, hb2⟩
        go_wp2_with fail
        go_ret
        exact ⟨rfl, hb2⟩
    · have HM := Lib.hid hm
      clear hm
      have d1 : decide (120 < (code.size : Int)) = false := by simp; omega
      have d2 : decide (120 < (other.size : Int)) = true := by simp; omega
      unfold maxLen at *
      go_enter Try.func6, Try.ntmps6
      go_wp2_with fail
      refine (awake_any _ HM.out).mono ?_
      rintro e w2 ⟨rfl, hb2⟩
      go_wp2_with fail
      go_ret
      exact ⟨rfl, hb2⟩
  · have HM := Lib.hid hm
    clear hm
    have d1 : decide (120 < (code.size : Int)) = true := by simp; omega
    unfold maxLen at *
    go_enter Try.func6, Try.ntmps6
    go_wp2_with fail
    refine (awake_any _ HM.out).mono ?_
    rintro e w2 ⟨rfl, hb2⟩
    go_wp2_with fail
    go_ret
    exact ⟨rfl, hb2⟩
end Go.Proofs.Ytklmgogppljolaa
