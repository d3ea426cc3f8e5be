/- Contracts of the reference's Code (05) and Cause (printed by gen_refa.py). -/
import Derived.Test.YtjcbohbpkodkoaaGreatDoorQ4
import Derived.Test.YtjcbohbpkodkoaaGreatDoorQ2
import Derived.Test.YtjcbohbpkodkoaaGreatDoorQ3
import Derived.Test.YtjcbohbpkodkoaaGreatDoorQ5
import Derived.OwnWalk
import Derived.Deep.QuietTactic
import Derived.BigQuiet
namespace Go.Proofs.YtjcbohbpkodkoaaGreatDoor
open Go.RowKit Go.Shelf Num

set_option maxHeartbeats 4000000 in
set_option maxRecDepth 100000 in
theorem rcur_any (s : ByteArray) (w : World) (hs : s.size ≤ maxLen) : Calls Tryz.prog 126 #[.string s] w fun e w' => e = .returned (.bool (curB s.data.toList)) ∧ w = w' := by
  unfold maxLen at hs
  have hl : s.data.toList.length = s.size := rfl
  have hnb := Lib.hid (show curB s.data.toList = (s.data.toList.all upC && decide (s.size = 3)) from rfl)
  have HL := Lib.hid hl
  clear hl
  have hget : ∀ k (h : k < s.size), s.data.toList.getD k 0 = s[k] := fun k h => by rw [List.getD_eq_getElem?_getD, List.getElem?_eq_getElem (by simpa using h)]; rfl
  have HG := Lib.hid hget
  clear hget
  go_enter Tryz.func126, Tryz.ntmps126
  go_wp2_with fail
  go_loop [3] (fun i => ∃ k : Nat, k ≤ s.size ∧ i = .int .i64 (k : Int) ∧ Hid ((s.data.toList.take k).all upC = true)) (fun i => s.size - (intOf i).toNat)
  case atStart => exact ⟨0, by omega, rfl, rfl⟩
  case round =>
    obtain ⟨k, hk, rfl, HA⟩ := hrel
    by_cases hlt : k < s.size
    · have hal := Lib.hid (allp_take_succ upC s.data.toList k (by rw [HL.out]; exact hlt))
      have hno := Lib.hid (fun h => notp_all (p := upC) (l := s.data.toList) (k := k) (by rw [HL.out]; exact hlt) h)
      have hnc := Lib.hid (show upC (s.data.toList.getD k 0) = decide (65 ≤ (s[k]).toNat ∧ (s[k]).toNat ≤ 90) by rw [HG.out k hlt]; rfl)
      have hzz := zones3 s[k].toNat
      generalize upC (s.data.toList.getD k 0) = nc at *
      have hki : (k : Int) < (s.size : Int) := by omega
      rcases hzz with hz | hz | hz
      · have t1 : decide ((s[k].toNat : Int) < 65) = true := by rw [decide_eq_true_iff]; omega
        have hncv := Lib.hid (show nc = false by rw [hnc.out, decide_eq_false_iff_not]; omega)
        clear hz
        go_wp2_with fail
        go_ret
        exact ⟨ret_bool (by rw [hnb.out, hno.out hncv.out, Bool.false_and]), rfl⟩
      · have t1 : decide ((s[k].toNat : Int) < 65) = false := by rw [decide_eq_false_iff_not]; omega
        have t2 : decide (90 < (s[k].toNat : Int)) = false := by rw [decide_eq_false_iff_not]; omega
        have hncv := Lib.hid (show nc = true by rw [hnc.out, decide_eq_true_iff]; omega)
        clear hz
        go_wp2_with fail
        go_round
        case rel => exact ⟨k + 1, by omega, by go_num, by show _ = _; rw [hal.out, HA.out, hncv.out]; rfl⟩
        case measure => simp [intOf]; omega
      · have t1 : decide ((s[k].toNat : Int) < 65) = false := by rw [decide_eq_false_iff_not]; omega
        have t2 : decide (90 < (s[k].toNat : Int)) = true := by rw [decide_eq_true_iff]; omega
        have hncv := Lib.hid (show nc = false by rw [hnc.out, decide_eq_false_iff_not]; omega)
        clear hz
        go_wp2_with fail
        go_ret
        exact ⟨ret_bool (by rw [hnb.out, hno.out hncv.out, Bool.false_and]), rfl⟩
    · have hfin := Lib.hid (show s.data.toList.all upC = true by
        have := HA.out
        rwa [List.take_of_length_le (by rw [HL.out]; omega)] at this)
      by_cases h1 : s.size = 3
      · have d1 : ((s.size : Int) == 3) = true := by rw [beq_iff_eq]; omega
        have hv := Lib.hid (show true = curB s.data.toList by rw [hnb.out, hfin.out, decide_eq_true h1]; rfl)
        clear h1
        go_wp2_with fail
        go_ret
        exact ⟨ret_bool hv.out, rfl⟩
      · have d1 : ((s.size : Int) == 3) = false := beq_eq_false_iff_ne.2 (by omega)
        have hv := Lib.hid (show false = curB s.data.toList by rw [hnb.out, decide_eq_false h1]; simp)
        clear h1
        go_wp2_with fail
        go_ret
        exact ⟨ret_bool hv.out, rfl⟩
set_option maxHeartbeats 4000000 in
set_option maxRecDepth 100000 in
theorem rcause_any (s : ByteArray) (w : World) (hs : s.size ≤ maxLen) : Calls Tryz.prog 124 #[.string s] w fun e w' => e = .returned (.bool (causeB s.data.toList)) ∧ w = w' := by
  unfold maxLen at hs
  have hl : s.data.toList.length = s.size := rfl
  have hnb := Lib.hid (show causeB s.data.toList = (s.data.toList.all causeC && (decide (1 ≤ s.size) && decide (s.size ≤ 48))) from rfl)
  have HL := Lib.hid hl
  clear hl
  have hget : ∀ k (h : k < s.size), s.data.toList.getD k 0 = s[k] := fun k h => by rw [List.getD_eq_getElem?_getD, List.getElem?_eq_getElem (by simpa using h)]; rfl
  have HG := Lib.hid hget
  clear hget
  by_cases h0 : s.size < 1
  · have d1 : decide ((s.size : Int) < 1) = true := by rw [decide_eq_true_iff]; omega
    have hv := Lib.hid (show false = causeB s.data.toList by rw [hnb.out, decide_eq_false (show ¬ 1 ≤ s.size by omega)]; simp)
    go_enter Tryz.func124, Tryz.ntmps124
    go_wp2_with fail
    go_ret
    exact ⟨ret_bool hv.out, rfl⟩
  have d1 : decide ((s.size : Int) < 1) = false := by rw [decide_eq_false_iff_not]; omega
  by_cases h48 : 48 < s.size
  · have d2 : decide (48 < (s.size : Int)) = true := by rw [decide_eq_true_iff]; omega
    have hv := Lib.hid (show false = causeB s.data.toList by rw [hnb.out, decide_eq_false (show ¬ s.size ≤ 48 by omega)]; simp)
    go_enter Tryz.func124, Tryz.ntmps124
    go_wp2_with fail
    go_ret
    exact ⟨ret_bool hv.out, rfl⟩
  have d2 : decide (48 < (s.size : Int)) = false := by rw [decide_eq_false_iff_not]; omega
  have hnb2 := Lib.hid (show causeB s.data.toList = s.data.toList.all causeC by rw [hnb.out, decide_eq_true (show 1 ≤ s.size by omega), decide_eq_true (show s.size ≤ 48 by omega)]; simp)
  clear hnb
  go_enter Tryz.func124, Tryz.ntmps124
  go_wp2_with fail
  go_loop [3, 4] (fun i _ => ∃ k : Nat, k ≤ s.size ∧ i = .int .i64 (k : Int) ∧ Hid ((s.data.toList.take k).all causeC = true)) (fun i _ => s.size - (intOf i).toNat)
  case atStart => exact ⟨0, by omega, rfl, rfl⟩
  case round =>
    obtain ⟨k, hk, rfl, HA⟩ := hrel
    by_cases hlt : k < s.size
    · have hal := Lib.hid (allp_take_succ causeC s.data.toList k (by rw [HL.out]; exact hlt))
      have hno := Lib.hid (fun h => notp_all (p := causeC) (l := s.data.toList) (k := k) (by rw [HL.out]; exact hlt) h)
      have hnc := Lib.hid (show causeC (s.data.toList.getD k 0) = decide (97 ≤ (s[k]).toNat ∧ (s[k]).toNat ≤ 122 ∨ 48 ≤ (s[k]).toNat ∧ (s[k]).toNat ≤ 57 ∨ (s[k]).toNat = 95 ∨ (s[k]).toNat = 45 ∨ (s[k]).toNat = 32) by rw [HG.out k hlt]; rfl)
      have hzz := zones11 s[k].toNat
      generalize causeC (s.data.toList.getD k 0) = nc at *
      have hki : (k : Int) < (s.size : Int) := by omega
      rcases hzz with hz | hz | hz | hz | hz | hz | hz | hz | hz | hz | hz
      · have t1 : decide (97 ≤ (s[k].toNat : Int)) = false := by rw [decide_eq_false_iff_not]; omega
        have t2 : decide ((s[k].toNat : Int) ≤ 122) = true := by rw [decide_eq_true_iff]; omega
        have t3 : decide (48 ≤ (s[k].toNat : Int)) = false := by rw [decide_eq_false_iff_not]; omega
        have t4 : decide ((s[k].toNat : Int) ≤ 57) = true := by rw [decide_eq_true_iff]; omega
        have t5 : ((s[k].toNat : Int) == 95) = false := beq_eq_false_iff_ne.2 (by omega)
        have t6 : ((s[k].toNat : Int) == 45) = false := beq_eq_false_iff_ne.2 (by omega)
        have t7 : ((s[k].toNat : Int) == 32) = false := beq_eq_false_iff_ne.2 (by omega)
        have hncv := Lib.hid (show nc = false by rw [hnc.out, decide_eq_false_iff_not]; omega)
        clear hz
        go_wp2_with fail
        go_ret
        exact ⟨ret_bool (by rw [hnb2.out, hno.out hncv.out]), rfl⟩
      · have t1 : decide (97 ≤ (s[k].toNat : Int)) = false := by rw [decide_eq_false_iff_not]; omega
        have t2 : decide ((s[k].toNat : Int) ≤ 122) = true := by rw [decide_eq_true_iff]; omega
        have t3 : decide (48 ≤ (s[k].toNat : Int)) = false := by rw [decide_eq_false_iff_not]; omega
        have t4 : decide ((s[k].toNat : Int) ≤ 57) = true := by rw [decide_eq_true_iff]; omega
        have t5 : ((s[k].toNat : Int) == 95) = false := beq_eq_false_iff_ne.2 (by omega)
        have t6 : ((s[k].toNat : Int) == 45) = false := beq_eq_false_iff_ne.2 (by omega)
        have t7 : ((s[k].toNat : Int) == 32) = true := by rw [beq_iff_eq]; omega
        have hncv := Lib.hid (show nc = true by rw [hnc.out, decide_eq_true_iff]; omega)
        clear hz
        go_wp2_with fail
        go_round
        case rel => exact ⟨k + 1, by omega, by go_num, by show _ = _; rw [hal.out, HA.out, hncv.out]; rfl⟩
        case measure => simp [intOf]; omega
      · have t1 : decide (97 ≤ (s[k].toNat : Int)) = false := by rw [decide_eq_false_iff_not]; omega
        have t2 : decide ((s[k].toNat : Int) ≤ 122) = true := by rw [decide_eq_true_iff]; omega
        have t3 : decide (48 ≤ (s[k].toNat : Int)) = false := by rw [decide_eq_false_iff_not]; omega
        have t4 : decide ((s[k].toNat : Int) ≤ 57) = true := by rw [decide_eq_true_iff]; omega
        have t5 : ((s[k].toNat : Int) == 95) = false := beq_eq_false_iff_ne.2 (by omega)
        have t6 : ((s[k].toNat : Int) == 45) = false := beq_eq_false_iff_ne.2 (by omega)
        have t7 : ((s[k].toNat : Int) == 32) = false := beq_eq_false_iff_ne.2 (by omega)
        have hncv := Lib.hid (show nc = false by rw [hnc.out, decide_eq_false_iff_not]; omega)
        clear hz
        go_wp2_with fail
        go_ret
        exact ⟨ret_bool (by rw [hnb2.out, hno.out hncv.out]), rfl⟩
      · have t1 : decide (97 ≤ (s[k].toNat : Int)) = false := by rw [decide_eq_false_iff_not]; omega
        have t2 : decide ((s[k].toNat : Int) ≤ 122) = true := by rw [decide_eq_true_iff]; omega
        have t3 : decide (48 ≤ (s[k].toNat : Int)) = false := by rw [decide_eq_false_iff_not]; omega
        have t4 : decide ((s[k].toNat : Int) ≤ 57) = true := by rw [decide_eq_true_iff]; omega
        have t5 : ((s[k].toNat : Int) == 95) = false := beq_eq_false_iff_ne.2 (by omega)
        have t6 : ((s[k].toNat : Int) == 45) = true := by rw [beq_iff_eq]; omega
        have t7 : ((s[k].toNat : Int) == 32) = false := beq_eq_false_iff_ne.2 (by omega)
        have hncv := Lib.hid (show nc = true by rw [hnc.out, decide_eq_true_iff]; omega)
        clear hz
        go_wp2_with fail
        go_round
        case rel => exact ⟨k + 1, by omega, by go_num, by show _ = _; rw [hal.out, HA.out, hncv.out]; rfl⟩
        case measure => simp [intOf]; omega
      · have t1 : decide (97 ≤ (s[k].toNat : Int)) = false := by rw [decide_eq_false_iff_not]; omega
        have t2 : decide ((s[k].toNat : Int) ≤ 122) = true := by rw [decide_eq_true_iff]; omega
        have t3 : decide (48 ≤ (s[k].toNat : Int)) = false := by rw [decide_eq_false_iff_not]; omega
        have t4 : decide ((s[k].toNat : Int) ≤ 57) = true := by rw [decide_eq_true_iff]; omega
        have t5 : ((s[k].toNat : Int) == 95) = false := beq_eq_false_iff_ne.2 (by omega)
        have t6 : ((s[k].toNat : Int) == 45) = false := beq_eq_false_iff_ne.2 (by omega)
        have t7 : ((s[k].toNat : Int) == 32) = false := beq_eq_false_iff_ne.2 (by omega)
        have hncv := Lib.hid (show nc = false by rw [hnc.out, decide_eq_false_iff_not]; omega)
        clear hz
        go_wp2_with fail
        go_ret
        exact ⟨ret_bool (by rw [hnb2.out, hno.out hncv.out]), rfl⟩
      · have t1 : decide (97 ≤ (s[k].toNat : Int)) = false := by rw [decide_eq_false_iff_not]; omega
        have t2 : decide ((s[k].toNat : Int) ≤ 122) = true := by rw [decide_eq_true_iff]; omega
        have t3 : decide (48 ≤ (s[k].toNat : Int)) = true := by rw [decide_eq_true_iff]; omega
        have t4 : decide ((s[k].toNat : Int) ≤ 57) = true := by rw [decide_eq_true_iff]; omega
        have t5 : ((s[k].toNat : Int) == 95) = false := beq_eq_false_iff_ne.2 (by omega)
        have t6 : ((s[k].toNat : Int) == 45) = false := beq_eq_false_iff_ne.2 (by omega)
        have t7 : ((s[k].toNat : Int) == 32) = false := beq_eq_false_iff_ne.2 (by omega)
        have hncv := Lib.hid (show nc = true by rw [hnc.out, decide_eq_true_iff]; omega)
        clear hz
        go_wp2_with fail
        go_round
        case rel => exact ⟨k + 1, by omega, by go_num, by show _ = _; rw [hal.out, HA.out, hncv.out]; rfl⟩
        case measure => simp [intOf]; omega
      · have t1 : decide (97 ≤ (s[k].toNat : Int)) = false := by rw [decide_eq_false_iff_not]; omega
        have t2 : decide ((s[k].toNat : Int) ≤ 122) = true := by rw [decide_eq_true_iff]; omega
        have t3 : decide (48 ≤ (s[k].toNat : Int)) = true := by rw [decide_eq_true_iff]; omega
        have t4 : decide ((s[k].toNat : Int) ≤ 57) = false := by rw [decide_eq_false_iff_not]; omega
        have t5 : ((s[k].toNat : Int) == 95) = false := beq_eq_false_iff_ne.2 (by omega)
        have t6 : ((s[k].toNat : Int) == 45) = false := beq_eq_false_iff_ne.2 (by omega)
        have t7 : ((s[k].toNat : Int) == 32) = false := beq_eq_false_iff_ne.2 (by omega)
        have hncv := Lib.hid (show nc = false by rw [hnc.out, decide_eq_false_iff_not]; omega)
        clear hz
        go_wp2_with fail
        go_ret
        exact ⟨ret_bool (by rw [hnb2.out, hno.out hncv.out]), rfl⟩
      · have t1 : decide (97 ≤ (s[k].toNat : Int)) = false := by rw [decide_eq_false_iff_not]; omega
        have t2 : decide ((s[k].toNat : Int) ≤ 122) = true := by rw [decide_eq_true_iff]; omega
        have t3 : decide (48 ≤ (s[k].toNat : Int)) = true := by rw [decide_eq_true_iff]; omega
        have t4 : decide ((s[k].toNat : Int) ≤ 57) = false := by rw [decide_eq_false_iff_not]; omega
        have t5 : ((s[k].toNat : Int) == 95) = true := by rw [beq_iff_eq]; omega
        have t6 : ((s[k].toNat : Int) == 45) = false := beq_eq_false_iff_ne.2 (by omega)
        have t7 : ((s[k].toNat : Int) == 32) = false := beq_eq_false_iff_ne.2 (by omega)
        have hncv := Lib.hid (show nc = true by rw [hnc.out, decide_eq_true_iff]; omega)
        clear hz
        go_wp2_with fail
        go_round
        case rel => exact ⟨k + 1, by omega, by go_num, by show _ = _; rw [hal.out, HA.out, hncv.out]; rfl⟩
        case measure => simp [intOf]; omega
      · have t1 : decide (97 ≤ (s[k].toNat : Int)) = false := by rw [decide_eq_false_iff_not]; omega
        have t2 : decide ((s[k].toNat : Int) ≤ 122) = true := by rw [decide_eq_true_iff]; omega
        have t3 : decide (48 ≤ (s[k].toNat : Int)) = true := by rw [decide_eq_true_iff]; omega
        have t4 : decide ((s[k].toNat : Int) ≤ 57) = false := by rw [decide_eq_false_iff_not]; omega
        have t5 : ((s[k].toNat : Int) == 95) = false := beq_eq_false_iff_ne.2 (by omega)
        have t6 : ((s[k].toNat : Int) == 45) = false := beq_eq_false_iff_ne.2 (by omega)
        have t7 : ((s[k].toNat : Int) == 32) = false := beq_eq_false_iff_ne.2 (by omega)
        have hncv := Lib.hid (show nc = false by rw [hnc.out, decide_eq_false_iff_not]; omega)
        clear hz
        go_wp2_with fail
        go_ret
        exact ⟨ret_bool (by rw [hnb2.out, hno.out hncv.out]), rfl⟩
      · have t1 : decide (97 ≤ (s[k].toNat : Int)) = true := by rw [decide_eq_true_iff]; omega
        have t2 : decide ((s[k].toNat : Int) ≤ 122) = true := by rw [decide_eq_true_iff]; omega
        have t3 : decide (48 ≤ (s[k].toNat : Int)) = true := by rw [decide_eq_true_iff]; omega
        have t4 : decide ((s[k].toNat : Int) ≤ 57) = false := by rw [decide_eq_false_iff_not]; omega
        have t5 : ((s[k].toNat : Int) == 95) = false := beq_eq_false_iff_ne.2 (by omega)
        have t6 : ((s[k].toNat : Int) == 45) = false := beq_eq_false_iff_ne.2 (by omega)
        have t7 : ((s[k].toNat : Int) == 32) = false := beq_eq_false_iff_ne.2 (by omega)
        have hncv := Lib.hid (show nc = true by rw [hnc.out, decide_eq_true_iff]; omega)
        clear hz
        go_wp2_with fail
        go_round
        case rel => exact ⟨k + 1, by omega, by go_num, by show _ = _; rw [hal.out, HA.out, hncv.out]; rfl⟩
        case measure => simp [intOf]; omega
      · have t1 : decide (97 ≤ (s[k].toNat : Int)) = true := by rw [decide_eq_true_iff]; omega
        have t2 : decide ((s[k].toNat : Int) ≤ 122) = false := by rw [decide_eq_false_iff_not]; omega
        have t3 : decide (48 ≤ (s[k].toNat : Int)) = true := by rw [decide_eq_true_iff]; omega
        have t4 : decide ((s[k].toNat : Int) ≤ 57) = false := by rw [decide_eq_false_iff_not]; omega
        have t5 : ((s[k].toNat : Int) == 95) = false := beq_eq_false_iff_ne.2 (by omega)
        have t6 : ((s[k].toNat : Int) == 45) = false := beq_eq_false_iff_ne.2 (by omega)
        have t7 : ((s[k].toNat : Int) == 32) = false := beq_eq_false_iff_ne.2 (by omega)
        have hncv := Lib.hid (show nc = false by rw [hnc.out, decide_eq_false_iff_not]; omega)
        clear hz
        go_wp2_with fail
        go_ret
        exact ⟨ret_bool (by rw [hnb2.out, hno.out hncv.out]), rfl⟩
    · have hfin := Lib.hid (show s.data.toList.all causeC = true by
        have := HA.out
        rwa [List.take_of_length_le (by rw [HL.out]; omega)] at this)
      have hki : decide ((k : Int) < (s.size : Int)) = false := by rw [decide_eq_false_iff_not]; omega
      go_wp2_with fail
      go_ret
      exact ⟨ret_bool (by rw [hnb2.out, hfin.out]), rfl⟩
end Go.Proofs.YtjcbohbpkodkoaaGreatDoor

/- Contracts of the reference's Segments and Check of accounts (turned from wip/acc RefS, RefC). -/
namespace Go.Proofs.YtjcbohbpkodkoaaGreatDoor
open Go.RowKit Num

theorem ba_get (c : List UInt8) (n : Nat) (h : n < c.length) : (⟨c.toArray⟩ : ByteArray)[n]'h = c[n] := rfl
set_option maxRecDepth 100000 in
theorem info9 : (Tryz.prog.info? 9).map (fun i => (i.zero, i.size, i.bytes)) = some (some (.string ⟨#[]⟩), 1, 16) := by kernel_rfl
theorem segs_len : ∀ (l : List UInt8), (segs l).length ≤ l.length + 1
  | [] => by simp [segs]
  | c :: r => by
    have ih := segs_len r
    rw [segs]
    split
    · simp; omega
    · split
      · simp
      · rename_i h t e
        rw [e] at ih
        simp at ih ⊢
        omega
def SVs (l : List (List UInt8)) : List Value := l.map fun x => Value.string ⟨x.toArray⟩
/-- v is a slice of strings of the call's own (from block B on), with the strings l. -/
def OwnS (B : Nat) (w : World) (v : Value) (l : List (List UInt8)) : Prop := w.ownsRow B 9 1 v l.length (SVs l)
theorem OwnS.fresh (w : World) : OwnS w.heap.size (w.alloc (.cells #[] 9)) (.slice (some ⟨w.heap.size, 0, none⟩) 0 0) [] :=
  ⟨by simp [SVs], .inr ⟨w.heap.size, 0, #[], rfl, Nat.le_refl _, heap_alloc_new w _, Nat.le_refl _, by unfold maxLen; omega, rfl, rfl⟩⟩
theorem op_append_strs {o : Oper} {a : Act} {K : Act → World → Prop} {Q : Exit → Act → World → Prop} (s x : Operand)
    (ho : o.op = .call { callee := .builtin .append, args := #[s, x], argTypes := #[23, 23] })
    (B : Nat) (v : Value) (ns : List (List UInt8)) (w : World) (zs : List (List UInt8)) (hs : a.eval s = v) (hown : OwnS B w v ns) (hx : a.eval x = .slice (some ⟨w.heap.size, 0, none⟩) zs.length zs.length)
    (hB : B ≤ w.heap.size) (hn : ns.length + zs.length ≤ 8796093022208)
    (h : ∀ v' w', OwnS B w' v' (ns ++ zs) → Below B w w' → K (a.put o.dst v') w') : o.wp Tryz.prog a (w.alloc (.cells ⟨SVs zs⟩ 9)) K Q := by
  obtain ⟨i0, hi, hz0, hz1, hz2⟩ := info_parts info9
  refine wp_append_own _ s x 23 ho B 9 i0 (.string ⟨#[]⟩) 1 16 Tryz.underlying23 hi hz0 hz1 hz2 rfl (by decide) v ns.length (SVs ns) hs (World.ownsRow.alloc hown _) ⟨w.heap.size, 0, none⟩ zs.length zs.length (SVs zs) hx (by simp [SVs]) ?_ ?_ ?_ ?_ ?_ ?_
  · intro j u hu
    have hadd : (⟨w.heap.size, 0, none⟩ : Addr).add j = ⟨w.heap.size, j, none⟩ := by unfold Addr.add; split <;> simp_all
    rw [hadd, cell_of_row _ _ _ _ _ _ (heap_alloc_new w _)]
    simpa using hu
  · intro u hu
    simp only [SVs, List.mem_map] at hu
    obtain ⟨z, _, rfl⟩ := hu
    rfl
  · simp only [maxLen]; omega
  · omega
  · simp; omega
  · intro v' w' h2 h3 _
    refine h v' w' ?_ ?_
    · unfold OwnS
      rw [List.length_append]
      simpa [SVs] using h2
    · have hlt := World.ownsRow.lt hown
      exact ((Below.refl B w).alloc hB _).grown h3 (by simp; omega) (fun k hk => (hlt k hk).1)
theorem wp_append_strs {ops : Array Oper} {rest : List Oper} {o : Oper} {a : Act} {Q : Exit → Act → World → Prop} (hgd : o.guard = none) (s x : Operand)
    (ho : o.op = .call { callee := .builtin .append, args := #[s, x], argTypes := #[23, 23] })
    (B : Nat) (v : Value) (ns : List (List UInt8)) (w : World) (zs : List (List UInt8)) (hs : a.eval s = v) (hown : OwnS B w v ns) (hx : a.eval x = .slice (some ⟨w.heap.size, 0, none⟩) zs.length zs.length)
    (hB : B ≤ w.heap.size) (hn : ns.length + zs.length ≤ 8796093022208)
    (h : ∀ v' w', OwnS B w' v' (ns ++ zs) → Below B w w' → wpList Tryz.prog ops Q rest (a.put o.dst v') w') : wpList Tryz.prog ops Q (o :: rest) a (w.alloc (.cells ⟨SVs zs⟩ 9)) :=
  wpList_plain hgd fun _ hK => op_append_strs s x ho B v ns w zs hs hown hx hB hn fun v' w' h2 h3 => hK _ _ (h v' w' h2 h3)
theorem OwnS.cells {B : Nat} {w : World} {v : Value} {l : List (List UInt8)} (h : OwnS B w v l) : ∃ A c, v = .slice A l.length c ∧ l.length ≤ c ∧ c ≤ 9223372036854775807 ∧ (0 < l.length → ∃ g, A = some ⟨g, 0, none⟩ ∧ g < w.heap.size ∧ ∀ k, k < l.length → w.cell? ⟨g, k, none⟩ = some (.string ⟨(l.getD k []).toArray⟩)) := by
  rcases h.2 with ⟨rfl, h0⟩ | ⟨g, cap, cur, rfl, _, hg, hc, hm, hsz, htake⟩
  · exact ⟨none, 0, by rw [h0], by omega, by omega, fun hh => by omega⟩
  · refine ⟨_, _, rfl, hc, by unfold maxLen at hm; omega, fun _ => ⟨g, rfl, ?_, fun k hk => ?_⟩⟩
    · rcases Nat.lt_or_ge g w.heap.size with h' | h'
      · exact h'
      · rw [Array.getElem?_eq_none h'] at hg; cases hg
    · rw [cell_of_row _ _ _ _ _ _ hg]
      have h1 : (cur.toList.take (l.length * 1))[k]? = (SVs l)[k]? := by rw [htake]
      rw [List.getElem?_take, if_pos (by omega)] at h1
      rw [← Array.getElem?_toList, h1]
      simp [SVs, hk]
theorem OwnS.below {B : Nat} {w w' : World} {v : Value} {l : List (List UInt8)} (h : OwnS B w v l) (hb : Below w.heap.size w w') : OwnS B w' v l := by
  rcases h.2 with ⟨rfl, h0⟩ | ⟨g, cap, cur, rfl, hB, hg, hr⟩
  · exact ⟨h.1, .inl ⟨rfl, h0⟩⟩
  · refine ⟨h.1, .inr ⟨g, cap, cur, rfl, hB, ?_, hr⟩⟩
    rw [hb.block]
    · exact hg
    · rcases Nat.lt_or_ge g w.heap.size with h' | h'
      · exact h'
      · rw [Array.getElem?_eq_none h'] at hg; cases hg
theorem ba_eta (b : ByteArray) : (⟨b.data.toList.toArray⟩ : ByteArray) = b := rfl
theorem ext_mid (s : List UInt8) (f k : Nat) : ((⟨s.toArray⟩ : ByteArray).extract f k).data.toList = (s.drop f).take (k - f) := by
  rw [ByteArray.data_extract]
  simp [List.extract_eq_take_drop]
def RetL (l : List (List UInt8)) (w : World) (e : Ending) (w' : World) : Prop := ∃ v, e = .returned v ∧ OwnS w.heap.size w' v l ∧ Below w.heap.size w w'
/-- what is cut so far -/
structure Cut (s : List UInt8) (o : List (List UInt8)) (f k : Nat) : Prop where
  le : f ≤ k
  num : o.length ≤ f
  all : segs s = o ++ segs (s.drop f)
  no : 46 ∉ (s.drop f).take (k - f)
theorem Cut.dot {s : List UInt8} {o : List (List UInt8)} {f k : Nat} (h : Cut s o f k) (hk : k < s.length) (hd : s[k] = 46) : Cut s (o ++ [(s.drop f).take (k - f)]) (k + 1) (k + 1) := by
  have hle := h.le
  refine ⟨Nat.le_refl _, by have := h.num; simp; omega, ?_, by simp⟩
  have e : s.drop f = (s.drop f).take (k - f) ++ 46 :: s.drop (k + 1) := by
    conv => lhs; rw [← List.take_append_drop (k - f) (s.drop f)]
    rw [List.drop_drop, show f + (k - f) = k by omega, List.drop_eq_getElem_cons hk, hd]
  rw [h.all]
  conv => lhs; rw [e]
  rw [segs_split h.no]
  simp
theorem Cut.go {s : List UInt8} {o : List (List UInt8)} {f k : Nat} (h : Cut s o f k) (hk : k < s.length) (hd : s[k] ≠ 46) : Cut s o f (k + 1) := by
  have hle := h.le
  refine ⟨by omega, h.num, h.all, ?_⟩
  rw [show k + 1 - f = (k - f) + 1 by omega, List.take_succ_eq_append_getElem (by simp; omega), List.mem_append]
  rintro (h' | h')
  · exact h.no h'
  · rw [List.mem_singleton, List.getElem_drop] at h'
    simp only [show f + (k - f) = k by omega] at h'
    exact hd h'.symm
theorem Cut.fin {s : List UInt8} {o : List (List UInt8)} {f k : Nat} (h : Cut s o f k) (hk : s.length ≤ k) : segs s = o ++ [s.drop f] := by
  have hno := h.no
  rw [List.take_of_length_le (by simp; omega)] at hno
  rw [h.all, segs_none hno]
set_option maxHeartbeats 1000000 in
set_option maxRecDepth 100000 in
theorem rSegs_any (s : List UInt8) (w : World) (hs : s.length ≤ 4294967296) : Calls Tryz.prog 160 #[.string ⟨s.toArray⟩] w (RetL (segs s) w) := by
  go_enter Tryz.func160, Tryz.ntmps160
  go_wp2_with fail
  go_loopw [3, 4, 5] (fun v g i wr => ∃ (k f : Nat) (o : List (List UInt8)), k ≤ s.length ∧ i = .int .i64 (k : Int) ∧ g = .int .i64 (f : Int) ∧ OwnS w.heap.size wr v o ∧ Hid (Cut s o f k) ∧ Below w.heap.size w wr) (fun _ _ i _ => s.length - (intOf i).toNat)
  case atStart => exact ⟨0, 0, [], by omega, rfl, rfl, OwnS.fresh w, ⟨Nat.le_refl _, Nat.le_refl _, rfl, by simp⟩, (Below.refl _ _).alloc (Nat.le_refl _) _⟩
  case round =>
    obtain ⟨k, f, o, hk, rfl, rfl, hown, hcut, hbw⟩ := hrel
    have hfk := hcut.out.le
    have hof := hcut.out.num
    by_cases hlt : k < s.length
    · by_cases hd : s[k] = 46
      · have q : (((⟨s.toArray⟩ : ByteArray)[k]'hlt).toNat == (46 : Int)) = true := by rw [ba_get, hd]; rfl
        have HC := Lib.hid (hcut.out.dot hlt hd)
        clear hd
        obtain ⟨X, hX⟩ : ∃ X : List UInt8, X = ((⟨s.toArray⟩ : ByteArray).extract f k).data.toList := ⟨_, rfl⟩
        have hx : (⟨s.toArray⟩ : ByteArray).extract f k = ⟨X.toArray⟩ := by rw [hX]
        rw [ext_mid] at hX
        rw [← hX] at HC
        clear hX hcut
        have b1 : (f : Int) ≤ (k : Int) := by omega
        have b2 : (k : Int) ≤ (s.length : Int) := by omega
        go_wp2_with (at_builtin; refine wp_append_strs rfl (.tmp 17) (.tmp 22) rfl w.heap.size _ o wr [X] rfl hown rfl hbw.size (by simp; omega) ?_; intro v' w5 hown' hbw'; clear hown hx q b1 b2)
        go_roundw
        case rel =>
          refine ⟨k + 1, k + 1, _, by omega, by go_num, by go_num, hown', ?_, hbw.trans hbw'⟩
          exact HC
        case measure => simp [intOf]; omega
      · have q : (((⟨s.toArray⟩ : ByteArray)[k]'hlt).toNat == (46 : Int)) = false := by
          rw [ba_get]
          exact beq_eq_false_iff_ne.2 (fun e => hd (UInt8.toNat_inj.1 (by rw [show (46 : UInt8).toNat = 46 from rfl]; omega)))
        have HC := Lib.hid (hcut.out.go hlt hd)
        clear hd
        go_wp2_with fail
        go_roundw
        case rel => exact ⟨k + 1, f, o, by omega, by go_num, rfl, hown, HC.out, hbw⟩
        case measure => simp [intOf]; omega
    · have HC := Lib.hid (hcut.out.fin (by omega))
      obtain ⟨X, hX⟩ : ∃ X : List UInt8, X = ((⟨s.toArray⟩ : ByteArray).extract f s.length).data.toList := ⟨_, rfl⟩
      have hx : (⟨s.toArray⟩ : ByteArray).extract f s.length = ⟨X.toArray⟩ := by rw [hX]
      rw [ext_mid, List.take_of_length_le (by simp)] at hX
      rw [← hX] at HC
      have b1 : (f : Int) ≤ (s.length : Int) := by omega
      clear hX hcut
      go_wp2_with (at_builtin; refine wp_append_strs rfl (.tmp 26) (.tmp 30) rfl w.heap.size _ o wr [X] rfl hown rfl hbw.size (by simp; omega) ?_; intro v' w5 hown' hbw'; clear hown hx b1)
      go_ret
      refine ⟨_, rfl, ?_, hbw.trans hbw'⟩
      rw [HC.out]
      exact hown'
theorem segs_mem : ∀ (l x : List UInt8), x ∈ segs l → x.length ≤ l.length
  | [], x, h => by simp [segs] at h; simp [h]
  | c :: r, x, h => by
    rw [segs] at h
    split at h
    · rcases List.mem_cons.1 h with rfl | h
      · simp
      · have := segs_mem r x h; simp; omega
    · split at h
      · simp at h; simp [h]
      · rename_i a t e
        rcases List.mem_cons.1 h with rfl | h
        · have := segs_mem r a (by rw [e]; simp); simp; omega
        · have := segs_mem r x (by rw [e]; simp [h]); simp; omega
theorem all_snoc (l : List (List UInt8)) (k : Nat) (h : k < l.length) : (l.take (k + 1)).all nameB = ((l.take k).all nameB && nameB (l.getD k [])) := by
  rw [List.take_succ_eq_append_getElem h, List.all_append, List.getD_eq_getElem?_getD, List.getElem?_eq_getElem h]
  simp
set_option maxHeartbeats 1000000 in
set_option maxRecDepth 100000 in
theorem rCheck_any (s : List UInt8) (w : World) (hs : s.length ≤ 4294967296) : Calls Tryz.prog 125 #[.string ⟨s.toArray⟩] w fun e w' => e = .returned (.int .i64 (chkA s)) ∧ Below w.heap.size w w' := by
  have hc := Lib.hid (show chkA s = if codeB s then 0 else 3 from rfl)
  have hcb := Lib.hid (show codeB s = (decide ((segs s).length ≤ 6) && (segs s).all nameB) from rfl)
  have HSEG := Lib.hid (fun w => rSegs_any s w hs)
  have HMEM := Lib.hid (segs_mem s)
  have hsl := Lib.hid hs
  have HSL := Lib.hid (segs_len s)
  clear hs
  go_enter Tryz.func125, Tryz.ntmps125
  go_wp2_with fail
  refine (HSEG.out _).mono ?_
  rintro e w1 ⟨v, rfl, hown, hb1⟩
  generalize segs s = l at *
  obtain ⟨A, c, rfl, hlc, hct, hcell⟩ := hown.cells
  obtain ⟨n, hn⟩ : ∃ n, n = l.length := ⟨_, rfl⟩
  rw [← hn] at hlc hcell ⊢
  have HN := Lib.hid hn
  have HCELL := Lib.hid hcell
  clear hn hcell hown
  go_wp2_with fail
  go_loop [4] (fun i => ∃ k : Nat, k ≤ n ∧ i = .int .i64 (k : Int) ∧ Hid ((l.take k).all nameB = true)) (fun i => n - (intOf i).toNat)
  case atStart => exact ⟨0, by omega, rfl, Lib.hid rfl⟩
  case round =>
    obtain ⟨k, hk, rfl, ha⟩ := hrel
    by_cases hlt : k < n
    · have hsn := Lib.hid (all_snoc l k (by rw [← HN.out]; exact hlt))
      obtain ⟨g, rfl, hg, hcell⟩ := HCELL.out (by omega)
      have h1 := hcell k hlt
      clear hcell
      have hmem := Lib.hid (show l.getD k [] ∈ l by rw [List.getD_eq_getElem?_getD, List.getElem?_eq_getElem (by rw [← HN.out]; exact hlt)]; exact List.getElem_mem _)
      generalize l.getD k [] = x at *
      have hnm := Lib.hid (fun w => rname_any ⟨x.toArray⟩ w (by have := HMEM.out x hmem.out; have := hsl.out; unfold maxLen; show x.length ≤ _; omega))
      cases hx : nameB x
      · have hv := Lib.hid (show (3 : Int) = chkA s by
          rw [hc.out, hcb.out, show l.all nameB = false from List.all_eq_false.2 ⟨x, hmem.out, by rw [hx]; decide⟩, Bool.and_false]; rfl)
        have HX := Lib.hid hx
        clear hx
        go_wp2_with fail
        refine (hnm.out _).mono ?_
        rintro e w2 ⟨rfl, rfl⟩
        rw [show nameB (ByteArray.mk x.toArray).data.toList = false from HX.out]
        go_wp2_with fail
        go_ret
        exact ⟨congrArg (fun z => Ending.returned (.int .i64 z)) hv.out, hb1⟩
      · have HX := Lib.hid hx
        clear hx
        go_wp2_with fail
        refine (hnm.out _).mono ?_
        rintro e w2 ⟨rfl, rfl⟩
        rw [show nameB (ByteArray.mk x.toArray).data.toList = true from HX.out]
        go_wp2_with fail
        go_round
        case rel => exact ⟨k + 1, by omega, by go_num, Lib.hid (by rw [hsn.out, ha.out, HX.out]; rfl)⟩
        case measure => simp [intOf]; omega
    · have hfin := Lib.hid (show l.all nameB = true by
        have := ha.out
        rwa [List.take_of_length_le (by rw [← HN.out]; omega)] at this)
      by_cases h6 : 6 < n
      · have hd : decide (6 < (n : Int)) = true := by simp; omega
        have hv := Lib.hid (show (3 : Int) = chkA s by rw [hc.out, hcb.out, ← HN.out, decide_eq_false (by omega)]; rfl)
        go_wp2_with fail
        go_ret
        exact ⟨congrArg (fun z => Ending.returned (.int .i64 z)) hv.out, hb1⟩
      · have hd : decide (6 < (n : Int)) = false := by simp; omega
        have hv := Lib.hid (show (0 : Int) = chkA s by rw [hc.out, hcb.out, ← HN.out, decide_eq_true (by omega), hfin.out]; rfl)
        go_wp2_with fail
        go_ret
        exact ⟨congrArg (fun z => Ending.returned (.int .i64 z)) hv.out, hb1⟩
end Go.Proofs.YtjcbohbpkodkoaaGreatDoor

/- Contracts of the reference's numbers (01): digits, Canonical, Check, short, Compare, Sign, Neg, Long (printed by gen_refd.py). -/
namespace Go.Proofs.YtjcbohbpkodkoaaGreatDoor
open Go.RowKit Go.Shelf Num

theorem ba_tail (l : List UInt8) (n : Nat) (h : n = l.length) : (⟨l.toArray⟩ : ByteArray).extract 1 n = ⟨l.tail.toArray⟩ := by
  subst h
  rw [← ba_eta ((⟨l.toArray⟩ : ByteArray).extract 1 l.length), ext_mid, List.take_of_length_le (by simp), List.drop_one]
theorem lead_nil : lead [] = [] := rfl
theorem lead_zero (r : List UInt8) : lead (48 :: r) = lead r := by simp [lead]
theorem lead_stop (c : UInt8) (r : List UInt8) (h : c ≠ 48) : lead (c :: r) = c :: r := by
  have : (c == 48) = false := beq_eq_false_iff_ne.2 h
  simp [lead, this]
theorem digit_zones (z : Nat) : z < 48 ∨ (48 ≤ z ∧ z ≤ 57) ∨ 57 < z := by omega
theorem sgn_first (c : UInt8) (r : List UInt8) : sgn (c :: r) = decide (c = 45) ∧ body (c :: r) = if c = 45 then r else c :: r := by
  by_cases h : c = 45
  · subst h; exact ⟨rfl, rfl⟩
  · have hp := prefix_minus (c :: r)
    have e3 : (45 == c) = false := by simpa using Ne.symm h
    rw [← hp.1, ← hp.2, decide_eq_false h, if_neg h]
    exact ⟨by simp [Lib.hasPrefix, List.isPrefixOf, e3], by simp [Lib.trimPrefix, Lib.hasPrefix, List.isPrefixOf, e3]⟩
def RdgPost (l : List UInt8) (w : World) (e : Ending) (w' : World) : Prop := e = .returned (.tuple #[.string ⟨(dgs l).toArray⟩, .bool (neg l)]) ∧ w = w'
theorem u8_45 (c : UInt8) : (((c.toNat : Nat) : Int) == 45) = decide (c = 45) := by
  rw [Bool.eq_iff_iff]; simp only [beq_iff_eq, decide_eq_true_eq, ← UInt8.toNat_inj, UInt8.reduceToNat]; omega
theorem u8_48 (c : UInt8) : (((c.toNat : Nat) : Int) == 48) = decide (c = 48) := by
  rw [Bool.eq_iff_iff]; simp only [beq_iff_eq, decide_eq_true_eq, ← UInt8.toNat_inj, UInt8.reduceToNat]; omega

set_option maxHeartbeats 4000000 in
set_option maxRecDepth 100000 in
theorem rdig_any (l : List UInt8) (w : World) (hs : l.length ≤ 1000000) : Calls Tryz.prog 121 #[.string ⟨l.toArray⟩] w (RdgPost l w) := by
  have HD := Lib.hid (show dgs l = if (body l).all isDig then lead (body l) else [] from rfl)
  have HN := Lib.hid (show neg l = (sgn l && !(dgs l).isEmpty) from rfl)
  have HNO := Lib.hid (show (body l).all isDig = false → dgs l = [] ∧ neg l = false from fun h => by
    have e : dgs l = [] := by rw [HD.out, h]; rfl
    exact ⟨e, by rw [HN.out, e]; simp⟩)
  have HYES := Lib.hid (show (body l).all isDig = true → dgs l = lead (body l) ∧ neg l = (sgn l && !(lead (body l)).isEmpty) from fun h => by
    have e : dgs l = lead (body l) := by rw [HD.out, h]; rfl
    exact ⟨e, by rw [HN.out, e]⟩)
  have HQ := Lib.hid (show ∀ e, e = .returned (.tuple #[.string ⟨(dgs l).toArray⟩, .bool (neg l)]) → RdgPost l w e w from fun e h => ⟨h, rfl⟩)
  have hbl : (body l).length ≤ 1000000 := by
    have : (body l).length ≤ l.length := by unfold body; split <;> simp
    omega
  generalize RdgPost l w = Post at *
  clear HD HN
  by_cases h0 : 0 < l.length
  case neg =>
    have hl : l = [] := List.eq_nil_of_length_eq_zero (by omega)
    have hsg : sgn l = false := by rw [hl]; rfl
    have hbd : body l = l := by rw [hl]; rfl
    rw [hbd] at HNO hbl
    rw [hsg, hbd] at HYES
    have hz : decide ((0 : Int) < (l.length : Int)) = false := by rw [decide_eq_false_iff_not]; omega
    generalize l = b at *
    clear hl hsg hbd
    go_enter Tryz.func121, Tryz.ntmps121
    go_wp2_with fail
    go_loop [6] (fun i => ∃ k : Nat, k ≤ b.length ∧ i = .int .i64 (k : Int) ∧ Hid ((b.take k).all isDig = true)) (fun i => b.length - (intOf i).toNat)
    case atStart => exact ⟨0, by omega, rfl, rfl⟩
    case round =>
      obtain ⟨k, hk, rfl, HA⟩ := hrel
      by_cases hlt : k < b.length
      · have hal := Lib.hid (allp_take_succ isDig b k hlt)
        have hno := Lib.hid (fun h => notp_all (p := isDig) (l := b) (k := k) hlt h)
        have hg : b.getD k 0 = b[k] := by rw [List.getD_eq_getElem?_getD, List.getElem?_eq_getElem hlt]; rfl
        have hnc := Lib.hid (show isDig (b.getD k 0) = (decide (48 ≤ (b[k]).toNat) && decide ((b[k]).toNat ≤ 57)) by rw [hg]; rfl)
        have hzz := digit_zones b[k].toNat
        have hba := ba_get b k hlt
        generalize isDig (b.getD k 0) = nc at *
        clear hg
        have hki : (k : Int) < (b.length : Int) := by omega
        rcases hzz with hz | hz | hz
        · have t1 : decide ((((⟨b.toArray⟩ : ByteArray)[k]'hlt).toNat : Int) < 48) = true := by rw [hba, decide_eq_true_iff]; omega
          have hncv := Lib.hid (show nc = false by rw [hnc.out, decide_eq_false (by omega)]; rfl)
          have hv := Lib.hid (HNO.out (hno.out hncv.out))
          clear hz hba
          go_wp2_with fail
          exact HQ.out _ (by rw [hv.out.1, hv.out.2])
        · have t1 : decide ((((⟨b.toArray⟩ : ByteArray)[k]'hlt).toNat : Int) < 48) = false := by rw [hba, decide_eq_false_iff_not]; omega
          have t2 : decide (57 < (((⟨b.toArray⟩ : ByteArray)[k]'hlt).toNat : Int)) = false := by rw [hba, decide_eq_false_iff_not]; omega
          have hncv := Lib.hid (show nc = true by rw [hnc.out, decide_eq_true (by omega), decide_eq_true (by omega)]; rfl)
          clear hz hba
          go_wp2_with fail
          go_round
          case rel => exact ⟨k + 1, by omega, by go_num, by show _ = _; rw [hal.out, HA.out, hncv.out]; rfl⟩
          case measure => simp [intOf]; omega
        · have t1 : decide ((((⟨b.toArray⟩ : ByteArray)[k]'hlt).toNat : Int) < 48) = false := by rw [hba, decide_eq_false_iff_not]; omega
          have t2 : decide (57 < (((⟨b.toArray⟩ : ByteArray)[k]'hlt).toNat : Int)) = true := by rw [hba, decide_eq_true_iff]; omega
          have hncv := Lib.hid (show nc = false by rw [hnc.out, decide_eq_false (show ¬ (b[k]).toNat ≤ 57 by omega)]; simp)
          have hv := Lib.hid (HNO.out (hno.out hncv.out))
          clear hz hba
          go_wp2_with fail
          exact HQ.out _ (by rw [hv.out.1, hv.out.2])
      · have hfin := Lib.hid (HYES.out (by
          have := HA.out
          rwa [List.take_of_length_le (by omega)] at this))
        have hki : decide ((k : Int) < (b.length : Int)) = false := by rw [decide_eq_false_iff_not]; omega
        go_wp2_with fail
        go_loop [4] (fun s => ∃ u : List UInt8, s = .string ⟨u.toArray⟩ ∧ Hid (lead u = lead b)) (fun s => match s with | .string t => t.size | _ => 0)
        case atStart => exact ⟨b, rfl, rfl⟩
        case round =>
          obtain ⟨u, rfl, HU⟩ := hrel
          by_cases h0 : 0 < u.length
          · have hb0 := ba_get u 0 h0
            have h8 := u8_48 u[0]
            rw [← hb0] at h8
            obtain ⟨c, r, hu⟩ : ∃ c r, u = c :: r := by
              cases u with
              | nil => simp at h0
              | cons c r => exact ⟨c, r, rfl⟩
            have hu0 : u[0] = c := by simp [hu]
            by_cases hc : c = 48
            · have q : ((((⟨u.toArray⟩ : ByteArray)[0]'h0).toNat : Int) == 48) = true := by rw [h8, hb0, hu0, decide_eq_true hc]
              have hx : (⟨u.toArray⟩ : ByteArray).extract 1 u.length = ⟨u.tail.toArray⟩ := ba_tail u _ rfl
              have HU2 := Lib.hid (show lead u.tail = lead b by rw [← HU.out, hu, hc, lead_zero]; rfl)
              have hl1 : (1 : Int) ≤ (u.length : Int) := by omega
              clear h8 hb0 hu hu0 hc
              go_wp2_with fail
              go_round
              case rel => exact ⟨u.tail, rfl, HU2.out⟩
              case measure => simp [ByteArray.size]; omega
            · have q : ((((⟨u.toArray⟩ : ByteArray)[0]'h0).toNat : Int) == 48) = false := by rw [h8, hb0, hu0, decide_eq_false hc]
              have HU2 := Lib.hid (show lead b = u by rw [← HU.out, hu, lead_stop _ _ hc])
              have hne := Lib.hid (show u.isEmpty = false by rw [hu]; rfl)
              have hd0 : decide ((0 : Int) < (u.length : Int)) = true := by rw [decide_eq_true_iff]; omega
              clear h8 hb0 hu hu0 hc
              go_wp2_with fail
              exact HQ.out _ (by rw [hfin.out.1, hfin.out.2, HU2.out, hne.out]; rfl)
          · have hu : u = [] := List.eq_nil_of_length_eq_zero (by omega)
            subst hu
            have HU2 := Lib.hid (show lead b = [] by rw [← HU.out]; rfl)
            clear h0
            go_wp2_with fail
            exact HQ.out _ (by rw [hfin.out.1, hfin.out.2, HU2.out]; rfl)
  obtain ⟨c, r, hl⟩ : ∃ c r, l = c :: r := by
    cases l with
    | nil => simp at h0
    | cons c r => exact ⟨c, r, rfl⟩
  have hg0 : l[0] = c := by simp [hl]
  have hsg : sgn l = decide (c = 45) := by rw [hl]; exact (sgn_first c r).1
  have hbd : body l = if c = 45 then r else l := by rw [hl]; exact (sgn_first c r).2
  have hx : (⟨l.toArray⟩ : ByteArray).extract 1 l.length = ⟨r.toArray⟩ := by rw [ba_tail l _ rfl, hl]; rfl
  have hl1 : (1 : Int) ≤ (l.length : Int) := by omega
  clear hl
  · skip
    by_cases hc : c = 45
    · rw [decide_eq_true hc] at hsg
      rw [if_pos hc] at hbd
      have q : ((((⟨l.toArray⟩ : ByteArray)[0]'h0).toNat : Int) == 45) = true := by rw [ba_get, hg0, u8_45, decide_eq_true hc]
      rw [hbd] at HNO hbl
      rw [hsg, hbd] at HYES
      generalize r = b at *
      clear hg0
      clear hc hsg hbd
      go_enter Tryz.func121, Tryz.ntmps121
      go_wp2_with fail
      go_loop [6] (fun i => ∃ k : Nat, k ≤ b.length ∧ i = .int .i64 (k : Int) ∧ Hid ((b.take k).all isDig = true)) (fun i => b.length - (intOf i).toNat)
      case atStart => exact ⟨0, by omega, rfl, rfl⟩
      case round =>
        obtain ⟨k, hk, rfl, HA⟩ := hrel
        by_cases hlt : k < b.length
        · have hal := Lib.hid (allp_take_succ isDig b k hlt)
          have hno := Lib.hid (fun h => notp_all (p := isDig) (l := b) (k := k) hlt h)
          have hg : b.getD k 0 = b[k] := by rw [List.getD_eq_getElem?_getD, List.getElem?_eq_getElem hlt]; rfl
          have hnc := Lib.hid (show isDig (b.getD k 0) = (decide (48 ≤ (b[k]).toNat) && decide ((b[k]).toNat ≤ 57)) by rw [hg]; rfl)
          have hzz := digit_zones b[k].toNat
          have hba := ba_get b k hlt
          generalize isDig (b.getD k 0) = nc at *
          clear hg
          have hki : (k : Int) < (b.length : Int) := by omega
          rcases hzz with hz | hz | hz
          · have t1 : decide ((((⟨b.toArray⟩ : ByteArray)[k]'hlt).toNat : Int) < 48) = true := by rw [hba, decide_eq_true_iff]; omega
            have hncv := Lib.hid (show nc = false by rw [hnc.out, decide_eq_false (by omega)]; rfl)
            have hv := Lib.hid (HNO.out (hno.out hncv.out))
            clear hz hba
            go_wp2_with fail
            exact HQ.out _ (by rw [hv.out.1, hv.out.2])
          · have t1 : decide ((((⟨b.toArray⟩ : ByteArray)[k]'hlt).toNat : Int) < 48) = false := by rw [hba, decide_eq_false_iff_not]; omega
            have t2 : decide (57 < (((⟨b.toArray⟩ : ByteArray)[k]'hlt).toNat : Int)) = false := by rw [hba, decide_eq_false_iff_not]; omega
            have hncv := Lib.hid (show nc = true by rw [hnc.out, decide_eq_true (by omega), decide_eq_true (by omega)]; rfl)
            clear hz hba
            go_wp2_with fail
            go_round
            case rel => exact ⟨k + 1, by omega, by go_num, by show _ = _; rw [hal.out, HA.out, hncv.out]; rfl⟩
            case measure => simp [intOf]; omega
          · have t1 : decide ((((⟨b.toArray⟩ : ByteArray)[k]'hlt).toNat : Int) < 48) = false := by rw [hba, decide_eq_false_iff_not]; omega
            have t2 : decide (57 < (((⟨b.toArray⟩ : ByteArray)[k]'hlt).toNat : Int)) = true := by rw [hba, decide_eq_true_iff]; omega
            have hncv := Lib.hid (show nc = false by rw [hnc.out, decide_eq_false (show ¬ (b[k]).toNat ≤ 57 by omega)]; simp)
            have hv := Lib.hid (HNO.out (hno.out hncv.out))
            clear hz hba
            go_wp2_with fail
            exact HQ.out _ (by rw [hv.out.1, hv.out.2])
        · have hfin := Lib.hid (HYES.out (by
            have := HA.out
            rwa [List.take_of_length_le (by omega)] at this))
          have hki : decide ((k : Int) < (b.length : Int)) = false := by rw [decide_eq_false_iff_not]; omega
          go_wp2_with fail
          go_loop [4] (fun s => ∃ u : List UInt8, s = .string ⟨u.toArray⟩ ∧ Hid (lead u = lead b)) (fun s => match s with | .string t => t.size | _ => 0)
          case atStart => exact ⟨b, rfl, rfl⟩
          case round =>
            obtain ⟨u, rfl, HU⟩ := hrel
            by_cases h0 : 0 < u.length
            · have hb0 := ba_get u 0 h0
              have h8 := u8_48 u[0]
              rw [← hb0] at h8
              obtain ⟨c, r, hu⟩ : ∃ c r, u = c :: r := by
                cases u with
                | nil => simp at h0
                | cons c r => exact ⟨c, r, rfl⟩
              have hu0 : u[0] = c := by simp [hu]
              by_cases hc : c = 48
              · have q : ((((⟨u.toArray⟩ : ByteArray)[0]'h0).toNat : Int) == 48) = true := by rw [h8, hb0, hu0, decide_eq_true hc]
                have hx : (⟨u.toArray⟩ : ByteArray).extract 1 u.length = ⟨u.tail.toArray⟩ := ba_tail u _ rfl
                have HU2 := Lib.hid (show lead u.tail = lead b by rw [← HU.out, hu, hc, lead_zero]; rfl)
                have hl1 : (1 : Int) ≤ (u.length : Int) := by omega
                clear h8 hb0 hu hu0 hc
                go_wp2_with fail
                go_round
                case rel => exact ⟨u.tail, rfl, HU2.out⟩
                case measure => simp [ByteArray.size]; omega
              · have q : ((((⟨u.toArray⟩ : ByteArray)[0]'h0).toNat : Int) == 48) = false := by rw [h8, hb0, hu0, decide_eq_false hc]
                have HU2 := Lib.hid (show lead b = u by rw [← HU.out, hu, lead_stop _ _ hc])
                have hne := Lib.hid (show u.isEmpty = false by rw [hu]; rfl)
                have hd0 : decide ((0 : Int) < (u.length : Int)) = true := by rw [decide_eq_true_iff]; omega
                clear h8 hb0 hu hu0 hc
                go_wp2_with fail
                exact HQ.out _ (by rw [hfin.out.1, hfin.out.2, HU2.out, hne.out]; rfl)
            · have hu : u = [] := List.eq_nil_of_length_eq_zero (by omega)
              subst hu
              have HU2 := Lib.hid (show lead b = [] by rw [← HU.out]; rfl)
              clear h0
              go_wp2_with fail
              exact HQ.out _ (by rw [hfin.out.1, hfin.out.2, HU2.out]; rfl)
    · rw [decide_eq_false hc] at hsg
      rw [if_neg hc] at hbd
      have q : ((((⟨l.toArray⟩ : ByteArray)[0]'h0).toNat : Int) == 45) = false := by rw [ba_get, hg0, u8_45, decide_eq_false hc]
      rw [hbd] at HNO hbl
      rw [hsg, hbd] at HYES
      clear hx hl1
      generalize l = b at *
      clear hc hsg hbd hg0
      go_enter Tryz.func121, Tryz.ntmps121
      go_wp2_with fail
      go_loop [6] (fun i => ∃ k : Nat, k ≤ b.length ∧ i = .int .i64 (k : Int) ∧ Hid ((b.take k).all isDig = true)) (fun i => b.length - (intOf i).toNat)
      case atStart => exact ⟨0, by omega, rfl, rfl⟩
      case round =>
        obtain ⟨k, hk, rfl, HA⟩ := hrel
        by_cases hlt : k < b.length
        · have hal := Lib.hid (allp_take_succ isDig b k hlt)
          have hno := Lib.hid (fun h => notp_all (p := isDig) (l := b) (k := k) hlt h)
          have hg : b.getD k 0 = b[k] := by rw [List.getD_eq_getElem?_getD, List.getElem?_eq_getElem hlt]; rfl
          have hnc := Lib.hid (show isDig (b.getD k 0) = (decide (48 ≤ (b[k]).toNat) && decide ((b[k]).toNat ≤ 57)) by rw [hg]; rfl)
          have hzz := digit_zones b[k].toNat
          have hba := ba_get b k hlt
          generalize isDig (b.getD k 0) = nc at *
          clear hg
          have hki : (k : Int) < (b.length : Int) := by omega
          rcases hzz with hz | hz | hz
          · have t1 : decide ((((⟨b.toArray⟩ : ByteArray)[k]'hlt).toNat : Int) < 48) = true := by rw [hba, decide_eq_true_iff]; omega
            have hncv := Lib.hid (show nc = false by rw [hnc.out, decide_eq_false (by omega)]; rfl)
            have hv := Lib.hid (HNO.out (hno.out hncv.out))
            clear hz hba
            go_wp2_with fail
            exact HQ.out _ (by rw [hv.out.1, hv.out.2])
          · have t1 : decide ((((⟨b.toArray⟩ : ByteArray)[k]'hlt).toNat : Int) < 48) = false := by rw [hba, decide_eq_false_iff_not]; omega
            have t2 : decide (57 < (((⟨b.toArray⟩ : ByteArray)[k]'hlt).toNat : Int)) = false := by rw [hba, decide_eq_false_iff_not]; omega
            have hncv := Lib.hid (show nc = true by rw [hnc.out, decide_eq_true (by omega), decide_eq_true (by omega)]; rfl)
            clear hz hba
            go_wp2_with fail
            go_round
            case rel => exact ⟨k + 1, by omega, by go_num, by show _ = _; rw [hal.out, HA.out, hncv.out]; rfl⟩
            case measure => simp [intOf]; omega
          · have t1 : decide ((((⟨b.toArray⟩ : ByteArray)[k]'hlt).toNat : Int) < 48) = false := by rw [hba, decide_eq_false_iff_not]; omega
            have t2 : decide (57 < (((⟨b.toArray⟩ : ByteArray)[k]'hlt).toNat : Int)) = true := by rw [hba, decide_eq_true_iff]; omega
            have hncv := Lib.hid (show nc = false by rw [hnc.out, decide_eq_false (show ¬ (b[k]).toNat ≤ 57 by omega)]; simp)
            have hv := Lib.hid (HNO.out (hno.out hncv.out))
            clear hz hba
            go_wp2_with fail
            exact HQ.out _ (by rw [hv.out.1, hv.out.2])
        · have hfin := Lib.hid (HYES.out (by
            have := HA.out
            rwa [List.take_of_length_le (by omega)] at this))
          have hki : decide ((k : Int) < (b.length : Int)) = false := by rw [decide_eq_false_iff_not]; omega
          go_wp2_with fail
          go_loop [4] (fun s => ∃ u : List UInt8, s = .string ⟨u.toArray⟩ ∧ Hid (lead u = lead b)) (fun s => match s with | .string t => t.size | _ => 0)
          case atStart => exact ⟨b, rfl, rfl⟩
          case round =>
            obtain ⟨u, rfl, HU⟩ := hrel
            by_cases h0 : 0 < u.length
            · have hb0 := ba_get u 0 h0
              have h8 := u8_48 u[0]
              rw [← hb0] at h8
              obtain ⟨c, r, hu⟩ : ∃ c r, u = c :: r := by
                cases u with
                | nil => simp at h0
                | cons c r => exact ⟨c, r, rfl⟩
              have hu0 : u[0] = c := by simp [hu]
              by_cases hc : c = 48
              · have q : ((((⟨u.toArray⟩ : ByteArray)[0]'h0).toNat : Int) == 48) = true := by rw [h8, hb0, hu0, decide_eq_true hc]
                have hx : (⟨u.toArray⟩ : ByteArray).extract 1 u.length = ⟨u.tail.toArray⟩ := ba_tail u _ rfl
                have HU2 := Lib.hid (show lead u.tail = lead b by rw [← HU.out, hu, hc, lead_zero]; rfl)
                have hl1 : (1 : Int) ≤ (u.length : Int) := by omega
                clear h8 hb0 hu hu0 hc
                go_wp2_with fail
                go_round
                case rel => exact ⟨u.tail, rfl, HU2.out⟩
                case measure => simp [ByteArray.size]; omega
              · have q : ((((⟨u.toArray⟩ : ByteArray)[0]'h0).toNat : Int) == 48) = false := by rw [h8, hb0, hu0, decide_eq_false hc]
                have HU2 := Lib.hid (show lead b = u by rw [← HU.out, hu, lead_stop _ _ hc])
                have hne := Lib.hid (show u.isEmpty = false by rw [hu]; rfl)
                have hd0 : decide ((0 : Int) < (u.length : Int)) = true := by rw [decide_eq_true_iff]; omega
                clear h8 hb0 hu hu0 hc
                go_wp2_with fail
                exact HQ.out _ (by rw [hfin.out.1, hfin.out.2, HU2.out, hne.out]; rfl)
            · have hu : u = [] := List.eq_nil_of_length_eq_zero (by omega)
              subst hu
              have HU2 := Lib.hid (show lead b = [] by rw [← HU.out]; rfl)
              clear h0
              go_wp2_with fail
              exact HQ.out _ (by rw [hfin.out.1, hfin.out.2, HU2.out]; rfl)
end Go.Proofs.YtjcbohbpkodkoaaGreatDoor

/- Contracts of the reference's numbers: short, Canonical, Check, Neg, Long. -/
namespace Go.Proofs.YtjcbohbpkodkoaaGreatDoor
open Go.RowKit Go.Shelf Num

theorem take_dig {s : List UInt8} {k : Nat} (h : s.all isDig = true) (hk : k < s.length) : digV (s.take (k + 1)) = 10 * digV (s.take k) + (s[k].toNat - 48) ∧ digV (s.take k) < 10 ^ k ∧ 48 ≤ s[k].toNat ∧ s[k].toNat ≤ 57 := by
  have e : s.take (k + 1) = s.take k ++ [s[k]] := List.take_succ_eq_append_getElem hk
  have hd : isDig s[k] = true := List.all_eq_true.1 h _ (List.getElem_mem hk)
  have hl : (s.take k).length = k := by rw [List.length_take]; omega
  have h2 := digV_lt (s.take k) (List.all_eq_true.2 fun x hx => List.all_eq_true.1 h x (List.mem_of_mem_take hx))
  rw [hl] at h2
  unfold isDig at hd
  rw [Bool.and_eq_true, decide_eq_true_iff, decide_eq_true_iff] at hd
  exact ⟨by rw [e, digV_snoc]; rfl, h2, hd⟩
def ShPost (l : List UInt8) (w : World) (e : Ending) (w' : World) : Prop := e = .returned (.tuple #[.int .i64 (if (dgs l).length ≤ 17 then val l else 0), .bool (decide ((dgs l).length ≤ 17))]) ∧ w = w'
set_option maxHeartbeats 4000000 in
set_option maxRecDepth 100000 in
theorem short_any (l : List UInt8) (w : World) (hs : l.length ≤ 1000000) : Calls Tryz.prog 161 #[.string ⟨l.toArray⟩] w (ShPost l w) := by
  have C := Lib.hid (rdig_any l w hs)
  have HP := Lib.hid (fun e (h : e = Ending.returned (.tuple #[.int .i64 (if (dgs l).length ≤ 17 then val l else 0), .bool (decide ((dgs l).length ≤ 17))])) => (show ShPost l w e w from ⟨h, rfl⟩))
  have HV := Lib.hid (show val l = if neg l then -(digV (dgs l) : Int) else digV (dgs l) from rfl)
  have HA := Lib.hid (dgs_all l)
  have hl2 : (dgs l).length ≤ 1000000 := Nat.le_trans (dgs_len l) hs
  unfold RdgPost at C
  generalize ShPost l w = Post at *
  generalize val l = v at *
  generalize neg l = ng at *
  generalize dgs l = s at *
  go_enter Tryz.func161, Tryz.ntmps161
  go_wp2_with fail
  refine C.out.mono ?_
  rintro e w' ⟨rfl, rfl⟩
  clear C
  by_cases h17 : s.length ≤ 17
  case neg =>
    have t1 : decide (17 < (s.length : Int)) = true := by rw [decide_eq_true_iff]; omega
    rw [if_neg h17, decide_eq_false h17] at HP
    go_wp2_with fail
    exact HP.out _ rfl
  rw [if_pos h17, decide_eq_true h17] at HP
  have t1 : decide (17 < (s.length : Int)) = false := by rw [decide_eq_false_iff_not]; omega
  go_wp2_with fail
  go_loop [7, 6] (fun i n => ∃ k : Nat, k ≤ s.length ∧ i = .int .i64 (k : Int) ∧ n = .int .i64 (digV (s.take k) : Int)) (fun i _ => s.length - (intOf i).toNat)
  case atStart => exact ⟨0, by omega, rfl, rfl⟩
  case round =>
    obtain ⟨k, hk, rfl, rfl⟩ := hrel
    by_cases hlt : k < s.length
    · have hki : (k : Int) < (s.length : Int) := by omega
      obtain ⟨h1, h2, h3, h4⟩ := take_dig HA.out hlt
      have hp : 10 ^ k ≤ 10 ^ 16 := Nat.pow_le_pow_right (by omega) (by omega)
      have hba := ba_get s k hlt
      have hN : digV (List.take k s) < 10 ^ 16 := by omega
      have HT := Lib.hid h1
      clear h1 h2 hp
      obtain ⟨N2, hN2⟩ : ∃ N2, digV (List.take (k + 1) s) = N2 := ⟨_, rfl⟩
      rw [hN2] at HT
      have HN2 := Lib.hid hN2
      clear hN2
      generalize digV (List.take k s) = N at *
      rw [← hba] at h3 h4 HT
      have w1 : IntKind.u8.wrap ((((⟨s.toArray⟩ : ByteArray)[k]'hlt).toNat : Int) - 48) = ((((⟨s.toArray⟩ : ByteArray)[k]'hlt).toNat - 48 : Nat) : Int) := by
        rw [IntWalk.u8_in _ (by omega)]; omega
      have w2 : IntKind.i64.wrap ((((⟨s.toArray⟩ : ByteArray)[k]'hlt).toNat - 48 : Nat) : Int) = ((((⟨s.toArray⟩ : ByteArray)[k]'hlt).toNat - 48 : Nat) : Int) := IntWalk.i64_in _ (by omega)
      have w3 : IntKind.i64.wrap (10 * (N : Int)) = 10 * (N : Int) := IntWalk.i64_in _ (by omega)
      have w4 : IntKind.i64.wrap (10 * (N : Int) + ((((⟨s.toArray⟩ : ByteArray)[k]'hlt).toNat - 48 : Nat) : Int)) = (N2 : Int) := by
        rw [IntWalk.i64_in _ (by omega), HT.out]; omega
      clear hba
      go_wp2_with fail
      go_round
      case rel => exact ⟨k + 1, by omega, by go_num, by rw [HN2.out]⟩
      case measure => simp [intOf]; omega
    · have hkn : k = s.length := by omega
      subst hkn
      rw [List.take_length]
      have hb := digV_lt s HA.out
      have hp : 10 ^ s.length ≤ 10 ^ 17 := Nat.pow_le_pow_right (by omega) h17
      have hN : digV s < 10 ^ 17 := by omega
      clear hb hp
      generalize digV s = N at *
      have hki : ¬ (s.length : Int) < (s.length : Int) := by omega
      cases ng
      · have hv := HV.out
        rw [if_neg (by decide)] at hv
        subst hv
        go_wp2_with fail
        exact HP.out _ rfl
      · have hv := HV.out
        rw [if_pos rfl] at hv
        subst hv
        have w1 : IntKind.i64.wrap (-(N : Int)) = -(N : Int) := IntWalk.i64_in _ (by omega)
        go_wp2_with fail
        exact HP.out _ rfl
/-- it returned v, and the world is as it was -/
def RetP (v : Value) (w : World) (e : Ending) (w' : World) : Prop := e = .returned v ∧ w = w'
set_option maxRecDepth 100000 in
set_option maxHeartbeats 1000000 in
theorem rcan_any (l : List UInt8) (w : World) (hs : l.length ≤ 100000) : Calls Tryz.prog 87 #[.string ⟨l.toArray⟩] w (RetP (.string ⟨(can l).toArray⟩) w) := by
  have C := Lib.hid (rdig_any l w (by omega))
  have HT := Lib.hid (show can l = if neg l then 45 :: dgs l else dgs l from txt_val l)
  have hl2 : (dgs l).length ≤ 100000 := Nat.le_trans (dgs_len l) hs
  unfold RdgPost at C
  have HP := Lib.hid (fun e (h : e = Ending.returned (.string ⟨(can l).toArray⟩)) => (show RetP (.string ⟨(can l).toArray⟩) w e w from ⟨h, rfl⟩))
  generalize RetP (.string ⟨(can l).toArray⟩) w = Post at *
  generalize can l = m at *
  generalize neg l = ng at *
  generalize dgs l = s at *
  have hcat := fun W => cat_run [45] s (45 :: s) (by simp; omega) rfl W
  go_enter Tryz.func87, Tryz.ntmps87
  go_wp2_with fail
  refine C.out.mono ?_
  rintro e w' ⟨rfl, rfl⟩
  clear C
  cases ng
  · have hm := HT.out
    rw [if_neg (by decide)] at hm
    subst hm
    clear hcat
    go_wp2_with fail
    exact HP.out _ rfl
  · have hm := HT.out
    rw [if_pos rfl] at hm
    subst hm
    go_wp2_with fail
    exact HP.out _ rfl
set_option maxRecDepth 100000 in
set_option maxHeartbeats 1000000 in
theorem rchk_any (l : List UInt8) (w : World) (hs : l.length ≤ 100000) : Calls Tryz.prog 127 #[.string ⟨l.toArray⟩] w (RetP (.int .i64 (chkI l)) w) := by
  have C := Lib.hid (rcan_any l w hs)
  have hcan := Lib.hid (show chkI l = if can l = l then 0 else 1 from rfl)
  unfold RetP at C
  generalize can l = m at *
  by_cases he : m = l
  · have hc2 := Lib.hid (show chkI l = 0 by rw [hcan.out, if_pos he])
    subst he
    go_enter Tryz.func127, Tryz.ntmps127
    go_wp2_with fail
    refine C.out.mono ?_
    rintro e w' ⟨rfl, rfl⟩
    go_wp2_with fail
    go_ret
    exact ⟨by rw [hc2.out]; rfl, rfl⟩
  · have hne : (l == m) = false := beq_eq_false_iff_ne.2 (Ne.symm he)
    have hne2 : (m == l) = false := beq_eq_false_iff_ne.2 he
    have hc2 := Lib.hid (show chkI l = 1 by rw [hcan.out, if_neg he])
    go_enter Tryz.func127, Tryz.ntmps127
    go_wp2_with fail
    refine C.out.mono ?_
    rintro e w' ⟨rfl, rfl⟩
    go_wp2_with fail
    go_ret
    exact ⟨by rw [hc2.out]; rfl, rfl⟩
theorem txt_opp (l : List UInt8) : txt (- val l) = if neg l = true ∨ dgs l = [] then dgs l else 45 :: dgs l := by
  have hd := dgs_val l
  by_cases hn : neg l = true
  · rw [if_pos (.inl hn), val, if_pos hn, Int.neg_neg, txt, if_neg (by omega), Int.natAbs_natCast]; exact hd.symm
  · by_cases h0 : dgs l = []
    · rw [if_pos (.inr h0), val, if_neg hn, h0]; exact txt_zero
    · have := digV_pos (dgs_all l) (dgs_head l) h0
      rw [if_neg (by rintro (h | h); exact hn h; exact h0 h), val, if_neg hn, txt, if_pos (by omega), Int.natAbs_neg, Int.natAbs_natCast, ← hd]
set_option maxRecDepth 100000 in
set_option maxHeartbeats 1000000 in
theorem rlong_any (l : List UInt8) (w : World) (hs : l.length ≤ 100000) : Calls Tryz.prog 30 #[.string ⟨l.toArray⟩] w (RetP (.bool (decide (13 < l.length))) w) := by
  have h : decide (13 < l.length) = decide ((13 : Int) < (l.length : Int)) := by
    rw [Bool.eq_iff_iff, decide_eq_true_iff, decide_eq_true_iff]; omega
  rw [h]
  go_enter Tryz.func30, Tryz.ntmps30
  go_wp2_with fail
  go_ret
  exact ⟨rfl, rfl⟩
end Go.Proofs.YtjcbohbpkodkoaaGreatDoor

/- Contracts of the reference's numbers: Of, Add by the short road, Compare, Sign. -/
namespace Go.Proofs.YtjcbohbpkodkoaaGreatDoor
open Go.RowKit Go.Shelf Num

theorem encode_dig {c : Nat} (h0 : 48 ≤ c) (h1 : c ≤ 57) : Utf8.encode (c : Int) = ⟨[UInt8.ofNat c].toArray⟩ := by
  have : c = 48 ∨ c = 49 ∨ c = 50 ∨ c = 51 ∨ c = 52 ∨ c = 53 ∨ c = 54 ∨ c = 55 ∨ c = 56 ∨ c = 57 := by omega
  rcases this with rfl | rfl | rfl | rfl | rfl | rfl | rfl | rfl | rfl | rfl <;> rfl
theorem of_step {n M : Int} {T : List UInt8} (h : dig n.natAbs = dig M.natAbs ++ T) (h0 : M ≠ 0) : dig n.natAbs = dig (M.natAbs / 10) ++ UInt8.ofNat (48 + M.natAbs % 10) :: T := by
  rw [h, dig_pos (show M.natAbs ≠ 0 by omega)]; simp
set_option maxRecDepth 100000 in
set_option maxHeartbeats 4000000 in
theorem rof_any (n : Int) (w : World) (h0 : -9223372036854775808 ≤ n) (h1 : n ≤ 9223372036854775807) : Calls Tryz.prog 53 #[.int .i64 n] w (RetP (.string ⟨(txt n).toArray⟩) w) := by
  have HT := Lib.hid (show txt n = if n < 0 then 45 :: dig n.natAbs else dig n.natAbs from rfl)
  have HL := Lib.hid (dig_len (n := n.natAbs) (k := 19) (by omega))
  have HP := Lib.hid (fun e (h : e = Ending.returned (.string ⟨(txt n).toArray⟩)) => (show RetP (.string ⟨(txt n).toArray⟩) w e w from ⟨h, rfl⟩))
  generalize RetP (.string ⟨(txt n).toArray⟩) w = Post at *
  by_cases hz : n = 0
  · subst hz
    rw [show txt 0 = [] from txt_zero] at HP
    go_enter Tryz.func53, Tryz.ntmps53
    go_wp2_with fail
    exact HP.out _ rfl
  generalize txt n = t at *
  have hzb : (n == 0) = false := beq_eq_false_iff_ne.2 hz
  go_enter Tryz.func53, Tryz.ntmps53
  go_wp2_with fail
  go_loop [3, 4, 5] (fun s m _ => ∃ (M : Int) (T : List UInt8), s = .string ⟨T.toArray⟩ ∧ m = .int .i64 M ∧ -9223372036854775808 ≤ M ∧ M ≤ 9223372036854775807 ∧ Hid (dig n.natAbs = dig M.natAbs ++ T)) (fun _ m _ => (intOf m).natAbs)
  case atStart => exact ⟨n, [], rfl, rfl, h0, h1, Lib.hid (by simp)⟩
  case round =>
    obtain ⟨M, T, rfl, rfl, hm0, hm1, HD⟩ := hrel
    have htl : T.length ≤ 19 := by
      have e := congrArg List.length HD.out
      rw [List.length_append] at e
      have := HL.out
      omega
    by_cases hM : M = 0
    · subst hM
      have hd := HD.out
      rw [show dig (0 : Int).natAbs = [] from dig_zero, List.nil_append] at hd
      rw [hd] at HT
      by_cases hn : n < 0
      · have hnb : decide (n < 0) = true := decide_eq_true hn
        have hcat := fun W => cat_run [45] T (45 :: T) (by simp; omega) rfl W
        have e := HT.out
        rw [if_pos hn] at e
        subst e
        clear hd HD HL HT
        go_wp2_with fail
        exact HP.out _ rfl
      · have hnb : decide (n < 0) = false := decide_eq_false hn
        have e := HT.out
        rw [if_neg hn] at e
        subst e
        clear hd HD HL HT
        go_wp2_with fail
        exact HP.out _ rfl
    · have hMb : (M == 0) = false := beq_eq_false_iff_ne.2 hM
      have hMb2 : (M != 0) = true := by rw [bne_iff_ne]; exact hM
      have HS := Lib.hid (of_step HD.out hM)
      have hq : M.natAbs % 10 < 10 := Nat.mod_lt _ (by decide)
      obtain ⟨c, hc⟩ : ∃ c, 48 + M.natAbs % 10 = c := ⟨_, rfl⟩
      have henc := encode_dig (c := c) (by omega) (by omega)
      have hcat := fun W => cat_run [UInt8.ofNat c] T (UInt8.ofNat c :: T) (by simp; omega) rfl W
      have v3 : IntKind.i32.wrap (c : Int) = (c : Int) := IntWalk.i32_in _ (by omega)
      rw [hc] at HS
      obtain ⟨D, hD⟩ : ∃ D, M.tmod 10 = D := ⟨_, rfl⟩
      obtain ⟨Q, hQ⟩ : ∃ Q, M.tdiv 10 = Q := ⟨_, rfl⟩
      have hDQ : D.natAbs = M.natAbs % 10 ∧ Q.natAbs = M.natAbs / 10 ∧ -9 ≤ D ∧ D ≤ 9 ∧ -9223372036854775808 ≤ Q ∧ Q ≤ 9223372036854775807 := by
        rw [← hD, ← hQ, Int.natAbs_tdiv, Int.natAbs_tmod]
        refine ⟨rfl, rfl, ?_⟩
        have e1 : (M.tmod 10).natAbs = M.natAbs % 10 := Int.natAbs_tmod _ _
        have e2 : (M.tdiv 10).natAbs = M.natAbs / 10 := Int.natAbs_tdiv _ _
        omega
      obtain ⟨d1, d2, d3, d4, d5, d6⟩ := hDQ
      have wD : IntKind.i64.wrap (M.tmod 10) = D := by rw [hD]; exact IntWalk.i64_in _ (by omega)
      have wQ : IntKind.i64.wrap (M.tdiv 10) = Q := by rw [hQ]; exact IntWalk.i64_in _ (by omega)
      have HS2 := Lib.hid (show dig n.natAbs = dig Q.natAbs ++ UInt8.ofNat c :: T by rw [d2]; exact HS.out)
      have HQ := Lib.hid (show Q.natAbs < M.natAbs by rw [d2]; omega)
      by_cases hneg : D < 0
      · have t1 : decide (D < 0) = true := decide_eq_true hneg
        have w1 : IntKind.i64.wrap (-D) = -D := IntWalk.i64_in _ (by omega)
        have w2 : IntKind.i64.wrap (48 + -D) = (c : Int) := by rw [IntWalk.i64_in _ (by omega)]; omega
        clear HD HS HL HT d2
        go_wp2_with fail
        go_round
        case rel => exact ⟨Q, _, rfl, rfl, d5, d6, HS2⟩
        case measure => exact HQ.out
      · have t1 : decide (D < 0) = false := decide_eq_false hneg
        have w2 : IntKind.i64.wrap (48 + D) = (c : Int) := by rw [IntWalk.i64_in _ (by omega)]; omega
        clear HD HS HL HT d2
        go_wp2_with fail
        go_round
        case rel => exact ⟨Q, _, rfl, rfl, d5, d6, HS2⟩
        case measure => exact HQ.out
theorem val_short {l : List UInt8} (h : (dgs l).length ≤ 17) : -100000000000000000 < val l ∧ val l < 100000000000000000 := by
  have h1 := digV_lt (dgs l) (dgs_all l)
  have h2 : 10 ^ (dgs l).length ≤ 10 ^ 17 := Nat.pow_le_pow_right (by omega) h
  have h3 : digV (dgs l) < 100000000000000000 := Nat.lt_of_lt_of_le h1 h2
  unfold val
  split <;> omega
set_option maxRecDepth 100000 in
set_option maxHeartbeats 1000000 in
theorem radd_any (a b : List UInt8) (w : World) (la : a.length ≤ 1000000) (lb : b.length ≤ 1000000) (ha : (dgs a).length ≤ 17) (hb : (dgs b).length ≤ 17) : Calls Tryz.prog 129 #[.string ⟨a.toArray⟩, .string ⟨b.toArray⟩] w (RetP (.string ⟨(txt (val a + val b)).toArray⟩) w) := by
  have C1 := short_any a w la
  have C2 := short_any b w lb
  unfold ShPost at C1 C2
  rw [if_pos ha, decide_eq_true ha] at C1
  rw [if_pos hb, decide_eq_true hb] at C2
  have H1 := Lib.hid C1
  have H2 := Lib.hid C2
  obtain ⟨a1, a2⟩ := val_short ha
  obtain ⟨b1, b2⟩ := val_short hb
  have H3 := Lib.hid (rof_any (val a + val b) w (by omega) (by omega))
  have wS : IntKind.i64.wrap (val a + val b) = val a + val b := IntWalk.i64_in _ (by omega)
  clear C1 C2 ha hb la lb
  unfold RetP at H3
  have HP := Lib.hid (fun e (h : e = Ending.returned (.string ⟨(txt (val a + val b)).toArray⟩)) => (show RetP (.string ⟨(txt (val a + val b)).toArray⟩) w e w from ⟨h, rfl⟩))
  generalize RetP (.string ⟨(txt (val a + val b)).toArray⟩) w = Post at *
  generalize txt (val a + val b) = t at *
  generalize val a = x at *
  generalize val b = y at *
  go_enter Tryz.func129, Tryz.ntmps129
  go_wp2_with fail
  refine H1.out.mono ?_
  rintro e w' ⟨rfl, rfl⟩
  go_wp2_with fail
  refine H2.out.mono ?_
  rintro e w' ⟨rfl, rfl⟩
  go_wp2_with fail
  refine H3.out.mono ?_
  rintro e w' ⟨rfl, rfl⟩
  go_wp2_with fail
  exact HP.out _ rfl
theorem digV_cmp (a b : List UInt8) : ((dgs a).length < (dgs b).length → digV (dgs a) < digV (dgs b)) ∧ ((dgs a).length = (dgs b).length → (digV (dgs a) < digV (dgs b) ↔ dgs a < dgs b)) :=
  ⟨fun h => digV_shorter (dgs_all a) (dgs_all b) (dgs_head b) h, fun h => digV_same (dgs_all a) (dgs_all b) h⟩
end Go.Proofs.YtjcbohbpkodkoaaGreatDoor

/- Contracts of the reference's compareText, CompareLines, head, fields. -/
namespace Go.Proofs.YtjcbohbpkodkoaaGreatDoor
open Go.RowKit Go.Maps Num

set_option maxRecDepth 100000 in
theorem rtxt_any (a b : List UInt8) (w : World) : Calls Tryz.prog 128 #[.string ⟨a.toArray⟩, .string ⟨b.toArray⟩] w (RetP (.int .i64 (cmpS a b)) w) := by
  have hc := Lib.hid (show cmpS a b = if a < b then -1 else if b < a then 1 else 0 from rfl)
  have hl := less_lt a b
  have hl2 := less_lt b a
  have HP := Lib.hid (fun r (h : cmpS a b = r) => (show RetP (.int .i64 (cmpS a b)) w (.returned (.int .i64 r)) w from ⟨by rw [h], rfl⟩))
  generalize RetP (.int .i64 (cmpS a b)) w = Post at *
  generalize cmpS a b = c at *
  by_cases h : a < b
  · have t1 : Op.bytesLess a b = true := by rw [hl]; exact decide_eq_true h
    have hv := Lib.hid (show c = -1 by rw [hc.out, if_pos h])
    clear h hl hl2
    go_enter Tryz.func128, Tryz.ntmps128
    go_wp2_with fail
    exact HP.out _ hv.out
  · have t1 : Op.bytesLess a b = false := by rw [hl]; exact decide_eq_false h
    by_cases h2 : b < a
    · have t2 : (a == b) = false := beq_eq_false_iff_ne.2 (fun e => by subst e; exact List.lt_irrefl _ h2)
      have t3 : Op.bytesLess b a = true := by rw [hl2]; exact decide_eq_true h2
      have hv := Lib.hid (show c = 1 by rw [hc.out, if_neg h, if_pos h2])
      clear h h2 hl hl2
      go_enter Tryz.func128, Tryz.ntmps128
      go_wp2_with fail
      exact HP.out _ hv.out
    · have t2 : (a == b) = true := beq_iff_eq.2 (lt_tri a b h h2)
      have t3 : Op.bytesLess b a = false := by rw [hl2]; exact decide_eq_false h2
      have hv := Lib.hid (show c = 0 by rw [hc.out, if_neg h, if_neg h2])
      clear h h2 hl hl2
      go_enter Tryz.func128, Tryz.ntmps128
      go_wp2_with fail
      exact HP.out _ hv.out
set_option maxRecDepth 100000 in
set_option maxHeartbeats 1000000 in
theorem rcl_any (a c m a2 c2 m2 : List UInt8) (w : World) : Calls Tryz.prog 92 #[.agg #[.string ⟨a.toArray⟩, .string ⟨c.toArray⟩, .string ⟨m.toArray⟩], .agg #[.string ⟨a2.toArray⟩, .string ⟨c2.toArray⟩, .string ⟨m2.toArray⟩]] w (IntPost (cmpKy (a, c) (a2, c2)) w) := by
  have h1 := fun W => rtxt_any a a2 W
  have h2 := fun W => rtxt_any c c2 W
  unfold RetP at h1 h2
  have hh := Lib.hid (show cmpKy (a, c) (a2, c2) = if cmpS a a2 ≠ 0 then cmpS a a2 else cmpS c c2 from rfl)
  have hbx : Below w.heap.size w ((w.alloc (.cells #[.string ⟨a.toArray⟩, .string ⟨c.toArray⟩, .string ⟨m.toArray⟩] 68)).alloc (.cells #[.string ⟨a2.toArray⟩, .string ⟨c2.toArray⟩, .string ⟨m2.toArray⟩] 68)) := ((Below.refl _ w).alloc (Nat.le_refl _) _).alloc (by simp) _
  have HP := Lib.hid (fun r (h : cmpKy (a, c) (a2, c2) = r) => (show IntPost (cmpKy (a, c) (a2, c2)) w (.returned (.int .i64 r)) _ from ⟨by rw [h], hbx⟩))
  generalize IntPost (cmpKy (a, c) (a2, c2)) w = Post at *
  generalize cmpKy (a, c) (a2, c2) = r at *
  generalize cmpS a a2 = x at *
  generalize cmpS c c2 = y at *
  have H1 := Lib.hid h1
  have H2 := Lib.hid h2
  clear h1 h2 hbx
  go_enter Tryz.func92, Tryz.ntmps92
  go_wp2_with fail
  refine (H1.out _).mono ?_
  rintro e w1 ⟨rfl, rfl⟩
  by_cases hx : x = 0
  · have hr := Lib.hid (show r = y by rw [hh.out, if_neg (by omega)])
    subst hx
    go_wp2_with fail
    refine (H2.out _).mono ?_
    rintro e w1 ⟨rfl, rfl⟩
    go_wp2_with fail
    exact HP.out _ hr.out
  · have hr := Lib.hid (show r = x by rw [hh.out, if_pos hx])
    have t1 : (x == 0) = false := beq_eq_false_iff_ne.2 hx
    have t2 : (x != 0) = true := by rw [bne_iff_ne]; exact hx
    go_wp2_with fail
    exact HP.out _ hr.out
set_option maxRecDepth 100000 in
theorem rhead_any (d : Int) (l : List UInt8) (A : Option Addr) (n c : Nat) (w : World) (hl : l.length ≤ maxLen) :
    Calls Tryz.prog 90 #[.agg #[.int .i64 d, .string ⟨l.toArray⟩, .slice A n c]] w (IntPost (headI d l) w) := by
  have h1 := fun W => rcause_any ⟨l.toArray⟩ W hl
  have e1 : (⟨l.toArray⟩ : ByteArray).data.toList = l := rfl
  rw [e1] at h1
  have hh := Lib.hid (show headI d l = if d < -25567 ∨ 84005 < d then 13 else if causeB l then 0 else 23 from rfl)
  have hbx : Below w.heap.size w (w.alloc (.cells #[.int .i64 d, .string ⟨l.toArray⟩, .slice A n c] 40)) := (Below.refl _ w).alloc (Nat.le_refl _) _
  generalize causeB l = cb at *
  have H1 := Lib.hid h1
  clear h1 e1
  by_cases ha : d < -25567
  · have t1 : decide (d < -25567) = true := decide_eq_true ha
    have hv := Lib.hid (show headI d l = 13 by rw [hh.out, if_pos (.inl ha)])
    clear ha
    go_enter Tryz.func90, Tryz.ntmps90
    go_wp2_with fail
    go_ret
    exact ⟨by rw [hv.out]; rfl, hbx⟩
  by_cases hb : 84005 < d
  · have t1 : decide (d < -25567) = false := decide_eq_false ha
    have t2 : decide (84005 < d) = true := decide_eq_true hb
    have hv := Lib.hid (show headI d l = 13 by rw [hh.out, if_pos (.inr hb)])
    clear ha hb
    go_enter Tryz.func90, Tryz.ntmps90
    go_wp2_with fail
    go_ret
    exact ⟨by rw [hv.out]; rfl, hbx⟩
  have t1 : decide (d < -25567) = false := decide_eq_false ha
  have t2 : decide (84005 < d) = false := decide_eq_false hb
  have hv := Lib.hid (show headI d l = if cb then 0 else 23 by rw [hh.out, if_neg (by omega)])
  clear ha hb
  cases cb
  · go_enter Tryz.func90, Tryz.ntmps90
    go_wp2_with fail
    refine (H1.out _).mono ?_
    rintro e w1 ⟨rfl, rfl⟩
    go_wp2_with fail
    go_ret
    exact ⟨by rw [hv.out]; rfl, hbx⟩
  · go_enter Tryz.func90, Tryz.ntmps90
    go_wp2_with fail
    refine (H1.out _).mono ?_
    rintro e w1 ⟨rfl, rfl⟩
    go_wp2_with fail
    go_ret
    exact ⟨by rw [hv.out]; rfl, hbx⟩
set_option maxRecDepth 100000 in
set_option maxHeartbeats 1000000 in
theorem rfld_any (a c m : List UInt8) (w : World) (hx : Sml (a, c, m)) : Calls Tryz.prog 91 #[.agg #[.string ⟨a.toArray⟩, .string ⟨c.toArray⟩, .string ⟨m.toArray⟩]] w (IntPost (lineI (a, c, m)) w) := by
  obtain ⟨ha, hc, hmm⟩ := hx
  simp only at ha hc hmm
  have h1 := fun W => rCheck_any a W (by omega)
  have h2 := fun W => rcur_any ⟨c.toArray⟩ W (show c.length ≤ maxLen by unfold maxLen; omega)
  have h3 := fun W => rchk_any m W (by omega)
  have e1 : (⟨c.toArray⟩ : ByteArray).data.toList = c := rfl
  rw [e1] at h2
  unfold RetP at h3
  have hh := Lib.hid (show lineI (a, c, m) = if codeB a then if curB c then chkI m else 12 else 3 from rfl)
  have hA := Lib.hid (show chkA a = if codeB a then 0 else 3 from rfl)
  have hk : chkI m = 0 ∨ chkI m = 1 := by unfold chkI; split <;> simp
  have HP := Lib.hid (fun W r (h : lineI (a, c, m) = r) (hb : Below w.heap.size w W) => (show IntPost (lineI (a, c, m)) w (.returned (.int .i64 r)) W from ⟨by rw [h], hb⟩))
  have hbx : Below w.heap.size w (w.alloc (.cells #[.string ⟨a.toArray⟩, .string ⟨c.toArray⟩, .string ⟨m.toArray⟩] 68)) := (Below.refl _ w).alloc (Nat.le_refl _) _
  have x1 : (w.alloc (.cells #[.string ⟨a.toArray⟩, .string ⟨c.toArray⟩, .string ⟨m.toArray⟩] 68)).cell? ⟨w.heap.size, 1, none⟩ = some (.string ⟨c.toArray⟩) := by go_simp
  have x2 : (w.alloc (.cells #[.string ⟨a.toArray⟩, .string ⟨c.toArray⟩, .string ⟨m.toArray⟩] 68)).cell? ⟨w.heap.size, 2, none⟩ = some (.string ⟨m.toArray⟩) := by go_simp
  have HBX := Lib.hid hbx
  generalize IntPost (lineI (a, c, m)) w = Post at *
  generalize lineI (a, c, m) = r at *
  generalize chkI m = km at *
  generalize chkA a = ka at *
  generalize codeB a = ba at *
  generalize curB c = bc at *
  have H1 := Lib.hid h1
  have H2 := Lib.hid h2
  have H3 := Lib.hid h3
  clear h1 h2 h3 hbx e1
  go_enter Tryz.func91, Tryz.ntmps91
  go_wp2_with fail
  refine (H1.out _).mono ?_
  rintro e w1 ⟨rfl, hb1⟩
  have y1 := (hb1.cell (p := ⟨w.heap.size, 1, none⟩) (by simp)).trans x1
  have y2 := (hb1.cell (p := ⟨w.heap.size, 2, none⟩) (by simp)).trans x2
  have B1 := Lib.hid (HBX.out.trans (hb1.mono (by simp)))
  clear hb1 x1 x2
  cases ba
  · have e := hA.out
    rw [if_neg (by decide)] at e
    subst e
    have hr := Lib.hid (show r = 3 by rw [hh.out]; rfl)
    go_wp2_with fail
    exact HP.out _ _ hr.out B1.out
  · have e := hA.out
    rw [if_pos rfl] at e
    subst e
    have hr := Lib.hid (show r = if bc then km else 12 by rw [hh.out]; rfl)
    go_wp2_with fail
    refine (H2.out _).mono ?_
    rintro e w2 ⟨rfl, rfl⟩
    cases bc
    · have hr := Lib.hid (show r = 12 by rw [hr.out]; rfl)
      go_wp2_with fail
      exact HP.out _ _ hr.out B1.out
    · have hr := Lib.hid (show r = km by rw [hr.out]; rfl)
      go_wp2_with fail
      refine (H3.out _).mono ?_
      rintro e w2 ⟨rfl, rfl⟩
      rcases hk with rfl | rfl
      · go_wp2_with fail
        exact HP.out _ _ hr.out B1.out
      · go_wp2_with fail
        exact HP.out _ _ hr.out B1.out
end Go.Proofs.YtjcbohbpkodkoaaGreatDoor

/- Contract of the reference's balances. -/
namespace Go.Proofs.YtjcbohbpkodkoaaGreatDoor
open Go.RowKit Go.Maps Num

theorem Below.drN {B : Nat} {w W : World} (h : Below B w W) (k : Nat) : Below B w (W.drewN k) := ⟨h.os, h.tape, h.output, h.size, h.block⟩
def num13 : Nat := 10 ^ 13
theorem dgs_txt (v : Int) : dgs (txt v) = dig v.natAbs := by
  rw [dgs_val]
  have h := val_txt v
  unfold val at h
  split at h <;> (congr 1; omega)
theorem dgs_txt_len {v : Int} {k : Nat} (h : v.natAbs < 10 ^ k) : (dgs (txt v)).length ≤ k := by
  rw [dgs_txt]; exact dig_len h
theorem curT_13 (l : List Ln) (h : ∀ x ∈ l, x.2.2.length ≤ 13) (c : List UInt8) : (curT l c).natAbs ≤ l.length * num13 := by
  induction l with
  | nil => simp [curT]
  | cons x r ih =>
    have h1 : (val x.2.2).natAbs < num13 := Nat.lt_of_lt_of_le (val_bd _) (Nat.pow_le_pow_right (by omega) (h x (by simp)))
    have h2 := ih fun y hy => h y (List.mem_cons_of_mem _ hy)
    rw [curT_cons, List.length_cons, Nat.add_mul]
    split <;> omega
theorem curT_dgs (l : List Ln) (h : ∀ x ∈ l, x.2.2.length ≤ 13) (hn : l.length ≤ 1000) (c : List UInt8) : (dgs (txt (curT l c))).length ≤ 17 ∧ (txt (curT l c)).length ≤ 1000000 := by
  have h1 := curT_13 l h c
  have h2 : l.length * num13 ≤ 1000 * num13 := Nat.mul_le_mul_right _ hn
  have h3 : 1000 * num13 < 10 ^ 17 := by decide
  have h4 : (curT l c).natAbs < 10 ^ 17 := by omega
  exact ⟨dgs_txt_len h4, by have := txt_bd h4; omega⟩
theorem dgs_13 {m : List UInt8} (h : m.length ≤ 13) : (dgs m).length ≤ 17 := by have := dgs_len m; omega
/-- the sum of a currency over the first k lines -/
def sumC (l : List Ln) (cu : List UInt8) (k : Nat) : List UInt8 := txt (curT (l.take k) cu)
theorem sumC_zero (l : List Ln) (cu : List UInt8) : sumC l cu 0 = [] := txt_zero
theorem sumC_next (l : List Ln) (cu : List UInt8) (k : Nat) (h : k < l.length) : sumC l cu (k + 1) = if (l.getD k ln0).2.1 = cu then txt (val (sumC l cu k) + val (l.getD k ln0).2.2) else sumC l cu k := by
  unfold sumC
  rw [take_ln l k h, curT_snoc, val_txt]
  split
  · rfl
  · rw [Int.add_zero]
theorem sumC_sm (l : List Ln) (cu : List UInt8) (k : Nat) (h : ∀ x ∈ l, x.2.2.length ≤ 13) (hn : l.length ≤ 1000) : (dgs (sumC l cu k)).length ≤ 17 ∧ (sumC l cu k).length ≤ 1000000 :=
  curT_dgs _ (fun x hx => h x (List.mem_of_mem_take hx)) (by rw [List.length_take]; omega) cu
theorem sumC_all (l : List Ln) (cu : List UInt8) (n : Nat) (h : l.length = n) : sumC l cu n = txt (curT l cu) := by
  unfold sumC; rw [List.take_of_length_le (by omega)]
set_option maxRecDepth 100000 in
set_option maxHeartbeats 4000000 in
theorem rbal_any (A : Option Addr) (n c : Nat) (l : List Ln) (w : World) (hl : Lns w A n c l) (hs : ∀ x ∈ l, x.2.2.length ≤ 13) : Calls Tryz.prog 93 #[.slice A n c] w (BoolPost (balB l) w) := by
  have hn := hl.small
  have L1 := Lib.hid hl
  have ll := Lib.hid hl.len
  have HS := Lib.hid hs
  have HP := Lib.hid (fun W b (h : balB l = b) (hb : Below w.heap.size w W) => (show BoolPost (balB l) w (.returned (.bool b)) W from ⟨by rw [h], hb⟩))
  have HTRUE := Lib.hid (fun h => balB_true (l := l) h)
  have HFALSE := Lib.hid (fun x hx h => balB_false (l := l) (x := x) hx h)
  generalize BoolPost (balB l) w = Post at *
  clear hl hs
  go_enter Tryz.func93, Tryz.ntmps93
  go_wp2_with fail
  go_loopw [3, 4, 5] (fun i _ _ wr => ∃ k : Nat, k ≤ n ∧ i = .int .i64 (k : Int) ∧ Hid (∀ x ∈ l.take k, txt (curT l x.2.1) = []) ∧ Hid (Below w.heap.size w wr)) (fun i _ _ _ => n - (intOf i).toNat)
  case atStart => exact ⟨0, by omega, rfl, Lib.hid (by simp), Lib.hid (Below.refl _ _)⟩
  case round =>
    obtain ⟨k, hk, rfl, HZ, HB⟩ := hrel
    by_cases hlt : k < n
    · have hkl : k < l.length := by rw [ll.out]; exact hlt
      obtain ⟨b1, o1, rfl, hb1, hc1⟩ := L1.out.at_ (by omega)
      have HC := Lib.hid hc1
      have hki : (k : Int) < (n : Int) := by omega
      have HTK := Lib.hid (take_ln l k hkl)
      have HM := Lib.hid (lnAt_mem l k hkl)
      have HK := Lib.hid (hc1 k hlt)
      clear hc1 hkl
      obtain ⟨x, hx⟩ : ∃ x, l.getD k ln0 = x := ⟨_, rfl⟩
      rw [hx] at HTK HM HK
      clear hx
      have H0 := Lib.hid (sumC_zero l x.2.1)
      go_wp2_with fail
      go_loopw [4, 5] (fun s j wx => ∃ q : Nat, q ≤ n ∧ j = .int .i64 (q : Int) ∧ s = .string ⟨(sumC l x.2.1 q).toArray⟩ ∧ Hid (Below w.heap.size w wx)) (fun _ j _ => n - (intOf j).toNat)
      case atStart => exact ⟨0, by omega, rfl, by rw [H0.out], HB⟩
      case round =>
        obtain ⟨q, hq, rfl, rfl, HBi⟩ := hrel
        by_cases hltq : q < n
        · have hql : q < l.length := by rw [ll.out]; exact hltq
          have hqi : (q : Int) < (n : Int) := by omega
          obtain ⟨p0, p1, p2⟩ := HC.out q hltq
          obtain ⟨x0, x1, x2⟩ := HK.out
          have r1 := (HBi.out.cell (p := ⟨b1, o1 + q * 3 + 1, none⟩) hb1).trans p1
          have r2 := (HBi.out.cell (p := ⟨b1, o1 + q * 3 + 2, none⟩) hb1).trans p2
          have s1 := (HBi.out.cell (p := ⟨b1, o1 + k * 3 + 1, none⟩) hb1).trans x1
          have HNX := Lib.hid (sumC_next l x.2.1 q hql)
          have HSM := Lib.hid (sumC_sm l x.2.1 q HS.out (by rw [ll.out]; exact hn))
          have H13 := Lib.hid (HS.out _ (lnAt_mem l q hql))
          clear p0 p1 p2 x0 x1 x2 hql
          generalize l.getD q ln0 = y at *
          obtain ⟨ya, yc, ym⟩ := y
          obtain ⟨xa, xc, xm⟩ := x
          simp only at r1 r2 s1 HNX HSM H13
          obtain ⟨S2, hS2⟩ : ∃ S2, sumC l xc (q + 1) = S2 := ⟨_, rfl⟩
          rw [hS2] at HNX
          have HS2 := Lib.hid hS2
          clear hS2
          have hB8 := Lib.hid (fun nq => Below.drN HBi.out nq)
          by_cases hc : yc = xc
          · subst hc
            have e := HNX.out
            rw [if_pos rfl] at e
            have HA := Lib.hid (fun W => radd_any (sumC l yc q) ym W HSM.out.2 (by have := H13.out; omega) HSM.out.1 (dgs_13 H13.out))
            unfold RetP at HA
            rw [← e] at HA
            clear e HNX
            generalize sumC l yc q = S at *
            go_wp2_with fail
            go_quiet (fail)
            go_wp2_with fail
            refine (HA.out _).mono ?_
            rintro e w' ⟨rfl, rfl⟩
            go_wp2_with fail
            go_roundw
            case rel => exact ⟨q + 1, by omega, by go_num, by rw [HS2.out], Lib.hid (hB8.out _)⟩
            case measure => simp [intOf]; omega
          · have hcb : (yc == xc) = false := beq_eq_false_iff_ne.2 hc
            have e := HNX.out
            rw [if_neg hc] at e
            generalize sumC l xc q = S at *
            subst e
            clear HNX
            go_wp2_with fail
            go_quiet (fail)
            go_wp2_with fail
            go_roundw
            case rel => exact ⟨q + 1, by omega, by go_num, by rw [HS2.out], Lib.hid (hB8.out _)⟩
            case measure => simp [intOf]; omega
        · have hqn : q = n := by omega
          subst hqn
          have e := sumC_all l x.2.1 q ll.out
          rw [e]
          clear e
          have HF := Lib.hid (HFALSE.out x HM.out)
          have HZ2 := Lib.hid (show txt (curT l x.2.1) = [] → ∀ y ∈ l.take (k + 1), txt (curT l y.2.1) = [] from fun h y hy => by
            rw [HTK.out] at hy
            rcases List.mem_append.1 hy with h1 | h1
            · exact HZ.out y h1
            · rw [List.mem_singleton.1 h1]; exact h)
          have hqi : ¬ (q : Int) < (q : Int) := by omega
          generalize txt (curT l x.2.1) = S at *
          rcases S with _ | ⟨c1, cr⟩
          · have HZ3 := Lib.hid (HZ2.out rfl)
            go_wp2_with fail
            go_roundw
            case rel => exact ⟨k + 1, by omega, by go_num, HZ3, HBi⟩
            case measure => simp [intOf]; omega
          · have hv := Lib.hid (HF.out (by simp))
            go_wp2_with fail
            exact HP.out _ _ hv.out HBi.out
    · have hkn : k = n := by omega
      subst hkn
      have hv := Lib.hid (HTRUE.out (by
        have h := HZ.out
        rwa [List.take_of_length_le (by rw [ll.out]; exact Nat.le_refl _)] at h))
      have hki : ¬ (k : Int) < (k : Int) := by omega
      go_wp2_with fail
      exact HP.out _ _ hv.out HB.out
end Go.Proofs.YtjcbohbpkodkoaaGreatDoor

/- Contract of the reference's Compare of entries. -/
namespace Go.Proofs.YtjcbohbpkodkoaaGreatDoor
open Go.RowKit Go.Maps Num

theorem cmpLs_out (l m : List Ln) (k : Nat) (hk : k ≤ l.length) (hp : k ≤ m.length) (h : k = l.length ∨ k = m.length) : cmpLs cmpL (l.drop k) (m.drop k) = if l.length < m.length then -1 else if m.length < l.length then 1 else 0 := by
  rcases h with h | h
  · rw [List.drop_of_length_le (by omega)]
    cases e : m.drop k with
    | nil => rw [if_neg (by have := congrArg List.length e; simp at this; omega), if_neg (by omega)]; rfl
    | cons y r => rw [if_pos (by have := congrArg List.length e; simp at this; omega)]; rfl
  · cases e : l.drop k with
    | nil => rw [List.drop_of_length_le (l := m) (by omega), if_neg (by omega), if_neg (by have := congrArg List.length e; simp at this; omega)]; rfl
    | cons y r => rw [List.drop_of_length_le (l := m) (by omega), if_neg (by have := congrArg List.length e; simp at this; omega), if_pos (by have := congrArg List.length e; simp at this; omega)]; rfl
end Go.Proofs.YtjcbohbpkodkoaaGreatDoor

/- Putting an amount into lines, plain; reads of rows of three cells. -/
namespace Go.Proofs.YtjcbohbpkodkoaaGreatDoor
open Go.RowKit Go.Maps Num

/-- put into lines of which the first k lie ahead -/
theorem putL_at (l : List Ln) (x : Ln) (k : Nat) (h : ∀ y ∈ l.take k, cmpK y x < 0) : putL l x = l.take k ++ putL (l.drop k) x := by
  induction l generalizing k with
  | nil => simp
  | cons y r ih =>
    cases k with
    | zero => simp
    | succ k =>
      rw [List.take_succ_cons, List.drop_succ_cons, List.cons_append, ← ih k fun z hz => h z (by rw [List.take_succ_cons]; exact List.mem_cons_of_mem _ hz)]
      show (if cmpK y x < 0 then y :: putL r x else _) = _
      rw [if_pos (h y (by simp))]
def putX (x : Ln) : List Ln := if val x.2.2 = 0 then [] else [x]
theorem putL_end {l : List Ln} {x : Ln} {k : Nat} (h : ∀ y ∈ l.take k, cmpK y x < 0) (hk : l.length ≤ k) : putL l x = (l.take k ++ putX x) ++ l.drop k := by
  rw [putL_at l x k h, List.drop_of_length_le hk, List.append_nil]; rfl
theorem putL_eq {l : List Ln} {x y : Ln} {k : Nat} (h : ∀ y ∈ l.take k, cmpK y x < 0) (hd : l.drop k = y :: l.drop (k + 1)) (hc : cmpK y x = 0) : putL l x = (l.take k ++ putX (x.1, x.2.1, txt (val y.2.2 + val x.2.2))) ++ l.drop (k + 1) := by
  rw [putL_at l x k h, hd, List.append_assoc]
  congr 1
  show (if cmpK y x < 0 then _ else if cmpK y x = 0 then _ else _) = _
  rw [if_neg (by omega), if_pos hc]
  unfold putX
  simp only [val_txt]
  split <;> rfl
theorem putL_gt {l : List Ln} {x y : Ln} {k : Nat} (h : ∀ y ∈ l.take k, cmpK y x < 0) (hd : l.drop k = y :: l.drop (k + 1)) (hc : 0 < cmpK y x) : putL l x = (l.take k ++ putX x) ++ l.drop k := by
  rw [putL_at l x k h, hd, List.append_assoc]
  congr 1
  show (if cmpK y x < 0 then _ else if cmpK y x = 0 then _ else _) = _
  rw [if_neg (by omega), if_neg (by omega)]
  unfold putX
  split <;> rfl
theorem sign_zero (v : Int) : ((cmpI v 0 != 0) = true ↔ v ≠ 0) := by
  unfold cmpI
  rw [bne_iff_ne]
  split
  · omega
  · split <;> omega
theorem rds3 {W : World} {b o n c : Nat} {l : List Ln} (h : rowL.Rds W (some ⟨b, o, none⟩) n c l) (k : Nat) (hk : k < n) :
    W.cell? ⟨b, o + k * 3, none⟩ = some (.string ⟨(l.getD k ln0).1.toArray⟩) ∧ W.cell? ⟨b, o + k * 3 + 1, none⟩ = some (.string ⟨(l.getD k ln0).2.1.toArray⟩) ∧ W.cell? ⟨b, o + k * 3 + 2, none⟩ = some (.string ⟨(l.getD k ln0).2.2.toArray⟩) :=
  ⟨h.cell rowL_ok ln0 k 0 _ hk rfl, h.cell rowL_ok ln0 k 1 _ hk rfl, h.cell rowL_ok ln0 k 2 _ hk rfl⟩
/-- an amount as it stands in a normal form of k short lines -/
def Amk (k : Nat) (y : Ln) : Prop := (y.2.2.length ≤ 13 ∨ ∃ v, y.2.2 = txt v) ∧ (val y.2.2).natAbs ≤ k * num13
theorem Amk.up {k : Nat} {y : Ln} (h : Amk k y) : Amk (k + 1) y := ⟨h.1, by have := h.2; rw [Nat.add_mul]; omega⟩
theorem val_13 {m : List UInt8} (h : m.length ≤ 13) : (val m).natAbs ≤ num13 :=
  Nat.le_of_lt (Nat.lt_of_lt_of_le (val_bd _) (Nat.pow_le_pow_right (by omega) h))
theorem putL_amk {k : Nat} {l : List Ln} {x : Ln} (h : ∀ y ∈ l, Amk k y) (hx : x.2.2.length ≤ 13) : (putL l x).length ≤ l.length + 1 ∧ ∀ y ∈ putL l x, Amk (k + 1) y := by
  have hx1 := val_13 hx
  have hX : Amk (k + 1) x := ⟨.inl hx, by rw [Nat.add_mul]; omega⟩
  induction l with
  | nil =>
    unfold putL
    split
    · exact ⟨by simp, fun y hy => by cases hy⟩
    · exact ⟨by simp, fun y hy => by rw [List.mem_singleton.1 hy]; exact hX⟩
  | cons z r ih =>
    obtain ⟨i1, i2⟩ := ih fun y hy => h y (List.mem_cons_of_mem _ hy)
    have hz := h z (by simp)
    have hr := fun y hy => (h y (List.mem_cons_of_mem _ hy)).up
    unfold putL
    split
    · refine ⟨by simp only [List.length_cons]; omega, fun y hy => ?_⟩
      rcases List.mem_cons.1 hy with rfl | hy
      · exact hz.up
      · exact i2 y hy
    · split
      · split
        · exact ⟨by simp only [List.length_cons]; omega, hr⟩
        · refine ⟨by simp, fun y hy => ?_⟩
          rcases List.mem_cons.1 hy with rfl | hy
          · refine ⟨.inr ⟨_, rfl⟩, ?_⟩
            simp only [val_txt]
            have := hz.2
            rw [Nat.add_mul]; omega
          · exact hr y hy
      · split
        · refine ⟨by simp, fun y hy => ?_⟩
          rcases List.mem_cons.1 hy with rfl | hy
          · exact hz.up
          · exact hr y hy
        · refine ⟨by simp, fun y hy => ?_⟩
          rcases List.mem_cons.1 hy with rfl | hy
          · exact hX
          · rcases List.mem_cons.1 hy with rfl | hy
            · exact hz.up
            · exact hr y hy
theorem nrmL_amk (l : List Ln) (hl : ∀ x ∈ l, x.2.2.length ≤ 13) (k : Nat) (hk : k ≤ l.length) : (nrmL (l.take k)).length ≤ k ∧ ∀ y ∈ nrmL (l.take k), Amk k y := by
  induction k with
  | zero => exact ⟨by simp [nrmL], fun y hy => by simp [nrmL] at hy⟩
  | succ k ih =>
    obtain ⟨i1, i2⟩ := ih (by omega)
    rw [take_ln l k (by omega), nrmL_snoc]
    obtain ⟨p1, p2⟩ := putL_amk i2 (hl _ (lnAt_mem l k (by omega)))
    exact ⟨by omega, p2⟩
theorem amk_short {k : Nat} {y : Ln} (h : Amk k y) (hk : k ≤ 1000) : (dgs y.2.2).length ≤ 17 ∧ y.2.2.length ≤ 1000000 := by
  obtain ⟨h1, h2⟩ := h
  rcases h1 with h1 | ⟨v, h1⟩
  · exact ⟨dgs_13 h1, by omega⟩
  · rw [h1, val_txt] at h2
    have h3 : k * num13 ≤ 1000 * num13 := Nat.mul_le_mul_right _ hk
    have h4 : 1000 * num13 < 10 ^ 17 := by decide
    have h5 : v.natAbs < 10 ^ 17 := by omega
    rw [h1]
    exact ⟨dgs_txt_len h5, by have := txt_bd h5; omega⟩
theorem amk_100 {k : Nat} {y : Ln} (h : Amk k y) (hk : k ≤ 1000) : y.2.2.length ≤ 20 := by
  obtain ⟨h1, h2⟩ := h
  rcases h1 with h1 | ⟨v, h1⟩
  · omega
  · rw [h1, val_txt] at h2
    have h3 : k * num13 ≤ 1000 * num13 := Nat.mul_le_mul_right _ hk
    have h4 : 1000 * num13 < 10 ^ 17 := by decide
    have := txt_bd (show v.natAbs < 10 ^ 17 by omega)
    rw [h1]; omega
end Go.Proofs.YtjcbohbpkodkoaaGreatDoor

/- Contract of the reference's GreatOne, for any entry. -/
namespace Go.Proofs.YtjcbohbpkodkoaaGreatDoor
open Go.RowKit Go.Maps Num

def lnG (x : Ln) : Bool := decide (60 < x.1.length) || decide (60 < x.2.1.length) || decide (13 < x.2.2.length)
/-- larger than the statements examine -/
def g1B (c : List UInt8) (l : List Ln) : Bool := decide (60 < c.length) || (decide (8 < l.length) && decide (l.length ≤ 64)) || decide (66 < l.length) || l.any lnG
set_option maxRecDepth 100000 in
theorem rlong_all (l : List UInt8) (w : World) : Calls Tryz.prog 30 #[.string ⟨l.toArray⟩] w (RetP (.bool (decide (13 < l.length))) w) := by
  have h : decide (13 < l.length) = decide ((13 : Int) < (l.length : Int)) := by
    rw [Bool.eq_iff_iff, decide_eq_true_iff, decide_eq_true_iff]; omega
  rw [h]
  go_enter Tryz.func30, Tryz.ntmps30
  go_wp2_with fail
  go_ret
  exact ⟨rfl, rfl⟩
theorem any_take {l : List Ln} {k : Nat} (h : k < l.length) (hg : lnG (l.getD k ln0) = true) : l.any lnG = true := List.any_eq_true.2 ⟨_, lnAt_mem l k h, hg⟩
theorem any_none {l : List Ln} (h : ∀ x ∈ l, lnG x = false) : l.any lnG = false := by
  rw [List.any_eq_false]
  exact fun x hx => by rw [h x hx]; decide
set_option maxRecDepth 100000 in
set_option maxHeartbeats 8000000 in
theorem rgreat1_any (d : Int) (cz : List UInt8) (A : Option Addr) (n c : Nat) (l : List Ln) (w : World) (hl : rowL.Rds w A n c l) : Calls Tryz.prog 16 #[.agg (enV d cz A n c)] w (BoolPost (g1B cz l) w) := by
  have ll := Lib.hid hl.len
  have hB0 : Below w.heap.size w (w.alloc (.cells #[.int .i64 d, .string ⟨cz.toArray⟩, .slice A n c] 40)) := (Below.refl _ w).alloc (Nat.le_refl _) _
  obtain ⟨⟨c0, c1, c2⟩, _⟩ := cells3 (heap_alloc_new w (.cells #[.int .i64 d, .string ⟨cz.toArray⟩, .slice A n c] 40))
  have HP := Lib.hid (fun W b (h : g1B cz l = b) (hb : Below w.heap.size w W) => (show BoolPost (g1B cz l) w (.returned (.bool b)) W from ⟨by rw [h], hb⟩))
  have HG := Lib.hid (show g1B cz l = (decide (60 < cz.length) || (decide (8 < n) && decide (n ≤ 64)) || decide (66 < n) || l.any lnG) by rw [← hl.len]; rfl)
  generalize BoolPost (g1B cz l) w = Post at *
  generalize g1B cz l = r at *
  have B0 := Lib.hid hB0
  have L1 := Lib.hid hl
  clear hl hB0
  unfold enV
  go_enter Tryz.func16, Tryz.ntmps16
  by_cases h1 : 60 < cz.length
  · have t1 : decide (60 < (cz.length : Int)) = true := by rw [decide_eq_true_iff]; omega
    have hv := Lib.hid (show r = true by rw [HG.out, decide_eq_true h1]; rfl)
    clear h1
    go_wp2_with fail
    exact HP.out _ _ hv.out B0.out
  have t1 : decide (60 < (cz.length : Int)) = false := by rw [decide_eq_false_iff_not]; omega
  have HG1 := Lib.hid (show r = ((decide (8 < n) && decide (n ≤ 64)) || decide (66 < n) || l.any lnG) by rw [HG.out, decide_eq_false h1, Bool.false_or])
  clear HG h1
  by_cases h2 : 8 < n ∧ n ≤ 64
  · have t2 : decide (8 < (n : Int)) = true := by rw [decide_eq_true_iff]; omega
    have t3 : decide ((n : Int) ≤ 64) = true := by rw [decide_eq_true_iff]; omega
    have hv := Lib.hid (show r = true by rw [HG1.out, decide_eq_true h2.1, decide_eq_true h2.2]; rfl)
    clear h2
    go_wp2_with fail
    exact HP.out _ _ hv.out B0.out
  have HG2 := Lib.hid (show r = (decide (66 < n) || l.any lnG) by
    rw [HG1.out, show (decide (8 < n) && decide (n ≤ 64)) = false by rw [← Bool.decide_and]; exact decide_eq_false h2, Bool.false_or])
  clear HG1
  by_cases h3 : 66 < n
  · have t2 : decide (8 < (n : Int)) = true := by rw [decide_eq_true_iff]; omega
    have t3 : decide ((n : Int) ≤ 64) = false := by rw [decide_eq_false_iff_not]; omega
    have t4 : decide (66 < (n : Int)) = true := by rw [decide_eq_true_iff]; omega
    have hv := Lib.hid (show r = true by rw [HG2.out, decide_eq_true h3]; rfl)
    clear h2 h3
    go_wp2_with fail
    exact HP.out _ _ hv.out B0.out
  have HG3 := Lib.hid (show r = l.any lnG by rw [HG2.out, decide_eq_false h3, Bool.false_or])
  have t4 : decide (66 < (n : Int)) = false := by rw [decide_eq_false_iff_not]; omega
  clear HG2
  have hn66 : n ≤ 66 := by omega
  by_cases h8 : 8 < n
  · have t2 : decide (8 < (n : Int)) = true := by rw [decide_eq_true_iff]; omega
    have t3 : decide ((n : Int) ≤ 64) = false := by rw [decide_eq_false_iff_not]; omega
    clear h8
    go_wp2_with fail
    generalize w.alloc (.cells #[.int .i64 d, .string ⟨cz.toArray⟩, .slice A n c] 40) = w1 at *
    have X0 := Lib.hid c2
    clear c0 c1 c2
    go_loopw [4] (fun i wr => ∃ k : Nat, k ≤ n ∧ i = .int .i64 (k : Int) ∧ Hid (∀ x ∈ l.take k, lnG x = false) ∧ Hid (Below w1.heap.size w1 wr)) (fun i _ => n - (intOf i).toNat)
    case atStart => exact ⟨0, by omega, rfl, Lib.hid (by simp), Lib.hid (Below.refl _ _)⟩
    case round =>
      obtain ⟨k, hk, rfl, HE, HC⟩ := hrel
      have HB := Lib.hid (below_next B0.out HC.out ⟨rfl, rfl, rfl, rfl⟩)
      have a02 := (HC.out.cell (p := ⟨w.heap.size, 2, none⟩) (block_lt_of_cell X0.out)).trans X0.out
      by_cases hlt : k < n
      · have hkl : k < l.length := by rw [ll.out]; exact hlt
        obtain ⟨b1, o1, rfl, hb1, _⟩ := L1.out.at_ (by omega)
        obtain ⟨p0, p1, p2⟩ := rds3 (L1.out.below HB.out) k hlt
        have hki : (k : Int) < (n : Int) := by omega
        have HT := Lib.hid (fun h => HG3.out.trans (any_take hkl h))
        have HTK := Lib.hid (take_ln l k hkl)
        clear hkl
        generalize l.getD k ln0 = y at *
        obtain ⟨ya, yc, ym⟩ := y
        simp only at p0 p1 p2
        have LC := Lib.hid (fun W => rlong_all ym W)
        unfold RetP at LC
        have HY := Lib.hid (show lnG (ya, yc, ym) = (decide (60 < ya.length) || decide (60 < yc.length) || decide (13 < ym.length)) from rfl)
        obtain ⟨gy, hgy⟩ : ∃ gy, lnG (ya, yc, ym) = gy := ⟨_, rfl⟩
        rw [hgy] at HT HY
        have HYG := Lib.hid hgy
        clear hgy
        by_cases g1 : 60 < ya.length
        · have u1 : decide (60 < (ya.length : Int)) = true := by rw [decide_eq_true_iff]; omega
          have hv := Lib.hid (HT.out (by rw [HY.out, decide_eq_true g1]; rfl))
          clear g1
          go_wp2_with fail
          exact HP.out _ _ hv.out HB.out
        have u1 : decide (60 < (ya.length : Int)) = false := by rw [decide_eq_false_iff_not]; omega
        by_cases g2 : 60 < yc.length
        · have u2 : decide (60 < (yc.length : Int)) = true := by rw [decide_eq_true_iff]; omega
          have hv := Lib.hid (HT.out (by rw [HY.out, decide_eq_false g1, decide_eq_true g2]; rfl))
          clear g1 g2
          go_wp2_with fail
          exact HP.out _ _ hv.out HB.out
        have u2 : decide (60 < (yc.length : Int)) = false := by rw [decide_eq_false_iff_not]; omega
        have HY2 := Lib.hid (show gy = decide (13 < ym.length) by rw [HY.out, decide_eq_false g1, decide_eq_false g2]; rfl)
        clear HY g1 g2
        generalize decide (13 < ym.length) = lg at *
        go_wp2_with fail
        refine (LC.out _).mono ?_
        rintro e w' ⟨rfl, rfl⟩
        cases lg
        · have HE2 := Lib.hid (show ∀ x ∈ l.take (k + 1), lnG x = false from fun x hx => by
            rw [HTK.out] at hx
            rcases List.mem_append.1 hx with h | h
            · exact HE.out x h
            · rw [List.mem_singleton.1 h]; exact HYG.out.trans HY2.out)
          go_wp2_with fail
          go_roundw
          case rel => exact ⟨k + 1, by omega, by go_num, HE2, HC⟩
          case measure => simp [intOf]; omega
        · have hv := Lib.hid (HT.out HY2.out)
          go_wp2_with fail
          exact HP.out _ _ hv.out HB.out
      · have hkn : k = n := by omega
        subst hkn
        have hki : ¬ (k : Int) < (k : Int) := by omega
        have e := HE.out
        rw [List.take_of_length_le (by rw [ll.out]; exact Nat.le_refl _)] at e
        have hv := Lib.hid (HG3.out.trans (any_none e))
        clear e HE
        go_wp2_with fail
        exact HP.out _ _ hv.out HB.out
  · have t2 : decide (8 < (n : Int)) = false := by rw [decide_eq_false_iff_not]; omega
    clear h8
    go_wp2_with fail
    generalize w.alloc (.cells #[.int .i64 d, .string ⟨cz.toArray⟩, .slice A n c] 40) = w1 at *
    have X0 := Lib.hid c2
    clear c0 c1 c2
    go_loopw [4] (fun i wr => ∃ k : Nat, k ≤ n ∧ i = .int .i64 (k : Int) ∧ Hid (∀ x ∈ l.take k, lnG x = false) ∧ Hid (Below w1.heap.size w1 wr)) (fun i _ => n - (intOf i).toNat)
    case atStart => exact ⟨0, by omega, rfl, Lib.hid (by simp), Lib.hid (Below.refl _ _)⟩
    case round =>
      obtain ⟨k, hk, rfl, HE, HC⟩ := hrel
      have HB := Lib.hid (below_next B0.out HC.out ⟨rfl, rfl, rfl, rfl⟩)
      have a02 := (HC.out.cell (p := ⟨w.heap.size, 2, none⟩) (block_lt_of_cell X0.out)).trans X0.out
      by_cases hlt : k < n
      · have hkl : k < l.length := by rw [ll.out]; exact hlt
        obtain ⟨b1, o1, rfl, hb1, _⟩ := L1.out.at_ (by omega)
        obtain ⟨p0, p1, p2⟩ := rds3 (L1.out.below HB.out) k hlt
        have hki : (k : Int) < (n : Int) := by omega
        have HT := Lib.hid (fun h => HG3.out.trans (any_take hkl h))
        have HTK := Lib.hid (take_ln l k hkl)
        clear hkl
        generalize l.getD k ln0 = y at *
        obtain ⟨ya, yc, ym⟩ := y
        simp only at p0 p1 p2
        have LC := Lib.hid (fun W => rlong_all ym W)
        unfold RetP at LC
        have HY := Lib.hid (show lnG (ya, yc, ym) = (decide (60 < ya.length) || decide (60 < yc.length) || decide (13 < ym.length)) from rfl)
        obtain ⟨gy, hgy⟩ : ∃ gy, lnG (ya, yc, ym) = gy := ⟨_, rfl⟩
        rw [hgy] at HT HY
        have HYG := Lib.hid hgy
        clear hgy
        by_cases g1 : 60 < ya.length
        · have u1 : decide (60 < (ya.length : Int)) = true := by rw [decide_eq_true_iff]; omega
          have hv := Lib.hid (HT.out (by rw [HY.out, decide_eq_true g1]; rfl))
          clear g1
          go_wp2_with fail
          exact HP.out _ _ hv.out HB.out
        have u1 : decide (60 < (ya.length : Int)) = false := by rw [decide_eq_false_iff_not]; omega
        by_cases g2 : 60 < yc.length
        · have u2 : decide (60 < (yc.length : Int)) = true := by rw [decide_eq_true_iff]; omega
          have hv := Lib.hid (HT.out (by rw [HY.out, decide_eq_false g1, decide_eq_true g2]; rfl))
          clear g1 g2
          go_wp2_with fail
          exact HP.out _ _ hv.out HB.out
        have u2 : decide (60 < (yc.length : Int)) = false := by rw [decide_eq_false_iff_not]; omega
        have HY2 := Lib.hid (show gy = decide (13 < ym.length) by rw [HY.out, decide_eq_false g1, decide_eq_false g2]; rfl)
        clear HY g1 g2
        generalize decide (13 < ym.length) = lg at *
        go_wp2_with fail
        refine (LC.out _).mono ?_
        rintro e w' ⟨rfl, rfl⟩
        cases lg
        · have HE2 := Lib.hid (show ∀ x ∈ l.take (k + 1), lnG x = false from fun x hx => by
            rw [HTK.out] at hx
            rcases List.mem_append.1 hx with h | h
            · exact HE.out x h
            · rw [List.mem_singleton.1 h]; exact HYG.out.trans HY2.out)
          go_wp2_with fail
          go_roundw
          case rel => exact ⟨k + 1, by omega, by go_num, HE2, HC⟩
          case measure => simp [intOf]; omega
        · have hv := Lib.hid (HT.out HY2.out)
          go_wp2_with fail
          exact HP.out _ _ hv.out HB.out
      · have hkn : k = n := by omega
        subst hkn
        have hki : ¬ (k : Int) < (k : Int) := by omega
        have e := HE.out
        rw [List.take_of_length_le (by rw [ll.out]; exact Nat.le_refl _)] at e
        have hv := Lib.hid (HG3.out.trans (any_none e))
        clear e HE
        go_wp2_with fail
        exact HP.out _ _ hv.out HB.out
end Go.Proofs.YtjcbohbpkodkoaaGreatDoor
