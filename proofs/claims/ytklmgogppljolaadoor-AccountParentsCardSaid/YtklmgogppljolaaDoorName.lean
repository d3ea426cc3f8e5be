/- Contracts of instrument.Name and the reference's Name. -/
import Derived.Test.YtklmgogppljolaaDoorChecked
import Derived.WalkKit
import Derived.Lib.Hide
import Derived.Lib.ConvBytes
import Derived.Lib.SmallJoins
namespace Go.Proofs.YtklmgogppljolaaDoor
open Go.RowKit

/-- a letter of a name -/
def nameC (c : UInt8) : Bool := decide (97 ≤ c.toNat ∧ c.toNat ≤ 122 ∨ 48 ≤ c.toNat ∧ c.toNat ≤ 57 ∨ c.toNat = 95)
def nameB (l : List UInt8) : Bool := decide (1 ≤ l.length) && decide (l.length ≤ 16) && l.all nameC
theorem ret_bool {a b : Bool} (h : a = b) : Ending.returned (.bool a) = .returned (.bool b) := by rw [h]
theorem zones (z : Nat) : z < 48 ∨ (48 ≤ z ∧ z ≤ 57) ∨ (58 ≤ z ∧ z ≤ 94) ∨ z = 95 ∨ z = 96 ∨ (97 ≤ z ∧ z ≤ 122) ∨ 122 < z := by omega
theorem all_take_succ (l : List UInt8) (k : Nat) (h : k < l.length) : (l.take (k + 1)).all nameC = ((l.take k).all nameC && nameC (l.getD k 0)) := by
  rw [List.take_succ_eq_append_getElem h, List.all_append, List.getD_eq_getElem?_getD, List.getElem?_eq_getElem h]
  simp
theorem not_all {l : List UInt8} {k : Nat} (h : k < l.length) (hc : nameC (l.getD k 0) = false) : l.all nameC = false := by
  rw [List.all_eq_false]
  refine ⟨l.getD k 0, ?_, by rw [hc]; simp⟩
  rw [List.getD_eq_getElem?_getD, List.getElem?_eq_getElem h]
  exact List.getElem_mem h
set_option maxHeartbeats 1000000 in
theorem name_any (s : ByteArray) (w : World) (hs : s.size ≤ maxLen) : Calls Tryd.prog 5 #[.string s] w fun e w' => e = .returned (.bool (nameB s.data.toList)) ∧ Below w.heap.size w w' := by
  unfold maxLen at hs
  have hl : s.data.toList.length = s.size := rfl
  by_cases h0 : s.size = 0
  · have hb := Lib.hid (show false = nameB s.data.toList by unfold nameB; rw [hl, h0]; rfl)
    have he : ((s.size : Int) == 0) = true := beq_iff_eq.2 (by omega)
    clear hl h0
    go_enter Tryd.func5, Tryd.ntmps5
    go_wp2_with fail
    go_ret
    exact ⟨ret_bool hb.out, Below.refl _ _⟩
  by_cases h16 : 16 < s.size
  · have hb := Lib.hid (show false = nameB s.data.toList by unfold nameB; rw [hl, decide_eq_false (show ¬ s.size ≤ 16 by omega)]; simp)
    have he : ((s.size : Int) == 0) = false := beq_eq_false_iff_ne.2 (by omega)
    have hd : decide (16 < (s.size : Int)) = true := by simp; omega
    clear hl h0
    go_enter Tryd.func5, Tryd.ntmps5
    go_wp2_with fail
    go_ret
    exact ⟨ret_bool hb.out, Below.refl _ _⟩
  have hnb := Lib.hid (show nameB s.data.toList = s.data.toList.all nameC by unfold nameB; rw [hl, decide_eq_true (show 1 ≤ s.size by omega), decide_eq_true (show s.size ≤ 16 by omega)]; rfl)
  have he : ((s.size : Int) == 0) = false := beq_eq_false_iff_ne.2 (by omega)
  have hd : decide (16 < (s.size : Int)) = false := by simp; omega
  have hcv := Lib.run_convert_string_bytes (P := Tryd.prog) w 9 36 5 s Tryd.underlying9 Tryd.underlying36 Tryd.underlying5
  have hcell := fun j h => Lib.bytesWorld_cell w 5 s j h
  have hbw := Joins.below_bytesWorld w.heap.size w 5 s (Nat.le_refl _)
  have hn16 : s.size ≤ 16 := by omega
  have HL := Lib.hid hl
  clear hl h0 h16
  generalize Lib.bytesWorld w 5 s = w1 at *
  generalize grownCap w s.size 0 5 = cap at *
  have HC := Lib.hid hcell
  clear hcell
  go_enter Tryd.func5, Tryd.ntmps5
  go_wp2_with fail
  generalize hT : s.data.toList = T at *
  have HT := Lib.hid hT
  clear hT hcv
  go_loop [4, 16] (fun _ i => ∃ k : Nat, k ≤ s.size ∧ i = .int .i64 (k : Int) ∧ (T.take k).all nameC = true) (fun _ i => s.size - (intOf i).toNat)
  case atStart => exact ⟨0, by omega, rfl, rfl⟩
  case round =>
    obtain ⟨k, hk, rfl, ha⟩ := hrel
    have HA := Lib.hid ha
    clear ha
    by_cases hlt : k < s.size
    · have h1 := HC.out k hlt
      have hal := Lib.hid (all_take_succ T k (by rw [HL.out]; exact hlt))
      have hno := Lib.hid (fun h => not_all (l := T) (k := k) (by rw [HL.out]; exact hlt) h)
      have hnc := Lib.hid (show nameC (T.getD k 0) = decide (97 ≤ (T.getD k 0).toNat ∧ (T.getD k 0).toNat ≤ 122 ∨ 48 ≤ (T.getD k 0).toNat ∧ (T.getD k 0).toNat ≤ 57 ∨ (T.getD k 0).toNat = 95) from rfl)
      have hbyte : (T.getD k 0).toNat < 256 := UInt8.toNat_lt _
      generalize nameC (T.getD k 0) = nc at *
      generalize (T.getD k 0).toNat = z at *
      rcases zones z with hz | hz | hz | hz | hz | hz | hz
      · have t1 : decide ((z : Int) < 97) = true := by rw [decide_eq_true_iff]; omega
        have t2 : decide (122 < (z : Int)) = false := by rw [decide_eq_false_iff_not]; omega
        have t3 : decide ((z : Int) < 48) = true := by rw [decide_eq_true_iff]; omega
        have t4 : decide (57 < (z : Int)) = false := by rw [decide_eq_false_iff_not]; omega
        have t5 : ((z : Int) != 95) = true := by rw [bne_iff_ne]; omega
        have hncv := Lib.hid (show nc = false by rw [hnc.out, decide_eq_false_iff_not]; omega)
        clear hz
        go_wp2_with fail
        go_ret
        exact ⟨ret_bool (by rw [HT.out, hnb.out, hno.out hncv.out]), hbw⟩
      · have t1 : decide ((z : Int) < 97) = true := by rw [decide_eq_true_iff]; omega
        have t2 : decide (122 < (z : Int)) = false := by rw [decide_eq_false_iff_not]; omega
        have t3 : decide ((z : Int) < 48) = false := by rw [decide_eq_false_iff_not]; omega
        have t4 : decide (57 < (z : Int)) = false := by rw [decide_eq_false_iff_not]; omega
        have t5 : ((z : Int) != 95) = true := by rw [bne_iff_ne]; omega
        have hncv := Lib.hid (show nc = true by rw [hnc.out, decide_eq_true_iff]; omega)
        clear hz
        go_wp2_with fail
        go_round
        case rel => exact ⟨k + 1, by omega, by go_num, by rw [hal.out, HA.out, hncv.out]; rfl⟩
        case measure => simp [intOf]; omega
      · have t1 : decide ((z : Int) < 97) = true := by rw [decide_eq_true_iff]; omega
        have t2 : decide (122 < (z : Int)) = false := by rw [decide_eq_false_iff_not]; omega
        have t3 : decide ((z : Int) < 48) = false := by rw [decide_eq_false_iff_not]; omega
        have t4 : decide (57 < (z : Int)) = true := by rw [decide_eq_true_iff]; omega
        have t5 : ((z : Int) != 95) = true := by rw [bne_iff_ne]; omega
        have hncv := Lib.hid (show nc = false by rw [hnc.out, decide_eq_false_iff_not]; omega)
        clear hz
        go_wp2_with fail
        go_ret
        exact ⟨ret_bool (by rw [HT.out, hnb.out, hno.out hncv.out]), hbw⟩
      · have t1 : decide ((z : Int) < 97) = true := by rw [decide_eq_true_iff]; omega
        have t2 : decide (122 < (z : Int)) = false := by rw [decide_eq_false_iff_not]; omega
        have t3 : decide ((z : Int) < 48) = false := by rw [decide_eq_false_iff_not]; omega
        have t4 : decide (57 < (z : Int)) = true := by rw [decide_eq_true_iff]; omega
        have t5 : ((z : Int) != 95) = false := by rw [bne_eq_false_iff_eq]; omega
        have hncv := Lib.hid (show nc = true by rw [hnc.out, decide_eq_true_iff]; omega)
        clear hz
        go_wp2_with fail
        go_round
        case rel => exact ⟨k + 1, by omega, by go_num, by rw [hal.out, HA.out, hncv.out]; rfl⟩
        case measure => simp [intOf]; omega
      · have t1 : decide ((z : Int) < 97) = true := by rw [decide_eq_true_iff]; omega
        have t2 : decide (122 < (z : Int)) = false := by rw [decide_eq_false_iff_not]; omega
        have t3 : decide ((z : Int) < 48) = false := by rw [decide_eq_false_iff_not]; omega
        have t4 : decide (57 < (z : Int)) = true := by rw [decide_eq_true_iff]; omega
        have t5 : ((z : Int) != 95) = true := by rw [bne_iff_ne]; omega
        have hncv := Lib.hid (show nc = false by rw [hnc.out, decide_eq_false_iff_not]; omega)
        clear hz
        go_wp2_with fail
        go_ret
        exact ⟨ret_bool (by rw [HT.out, hnb.out, hno.out hncv.out]), hbw⟩
      · have t1 : decide ((z : Int) < 97) = false := by rw [decide_eq_false_iff_not]; omega
        have t2 : decide (122 < (z : Int)) = false := by rw [decide_eq_false_iff_not]; omega
        have t3 : decide ((z : Int) < 48) = false := by rw [decide_eq_false_iff_not]; omega
        have t4 : decide (57 < (z : Int)) = true := by rw [decide_eq_true_iff]; omega
        have t5 : ((z : Int) != 95) = true := by rw [bne_iff_ne]; omega
        have hncv := Lib.hid (show nc = true by rw [hnc.out, decide_eq_true_iff]; omega)
        clear hz
        go_wp2_with fail
        go_round
        case rel => exact ⟨k + 1, by omega, by go_num, by rw [hal.out, HA.out, hncv.out]; rfl⟩
        case measure => simp [intOf]; omega
      · have t1 : decide ((z : Int) < 97) = false := by rw [decide_eq_false_iff_not]; omega
        have t2 : decide (122 < (z : Int)) = true := by rw [decide_eq_true_iff]; omega
        have t3 : decide ((z : Int) < 48) = false := by rw [decide_eq_false_iff_not]; omega
        have t4 : decide (57 < (z : Int)) = true := by rw [decide_eq_true_iff]; omega
        have t5 : ((z : Int) != 95) = true := by rw [bne_iff_ne]; omega
        have hncv := Lib.hid (show nc = false by rw [hnc.out, decide_eq_false_iff_not]; omega)
        clear hz
        go_wp2_with fail
        go_ret
        exact ⟨ret_bool (by rw [HT.out, hnb.out, hno.out hncv.out]), hbw⟩
    · have hfin := Lib.hid (show T.all nameC = true by
        have := HA.out
        rwa [List.take_of_length_le (by rw [HL.out]; omega)] at this)
      go_wp2_with fail
      go_ret
      exact ⟨ret_bool (by rw [HT.out, hnb.out, hfin.out]), hbw⟩
end Go.Proofs.YtklmgogppljolaaDoor
