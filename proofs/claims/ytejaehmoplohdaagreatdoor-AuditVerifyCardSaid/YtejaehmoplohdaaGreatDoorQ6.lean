/- Contracts of the reference's numbers: short, Canonical, Check, Neg, Long. -/
import Derived.Test.YtejaehmoplohdaaGreatDoorQ5
import Derived.Test.YtejaehmoplohdaaGreatDoorQ3
import Derived.Test.YtejaehmoplohdaaGreatDoorQ4
import Derived.Deep.QuietTactic
import Derived.BigQuiet
namespace Go.Proofs.YtejaehmoplohdaaGreatDoor
open Go.RowKit Go.Shelf Num

theorem take_dig {s : List UInt8} {k : Nat} (h : s.all isDig = true) (hk : k < s.length) : digV (s.take (k + 1)) = 10 * digV (s.take k) + (s[k].toNat - 48) ∧ digV (s.take k) < 10 ^ k ∧ 48 ≤ s[k].toNat ∧ s[k].toNat ≤ 57 := by
  have e : s.take (k + 1) = s.take k ++ [s[k]] := List.take_succ_eq_append_getElem hk
  have hd : isDig s[k] = true := List.all_eq_true.1 h _ (List.getElem_mem hk)
  have hl : (s.take k).length = k := by rw [List.length_take]; omega
  have h2 := digV_lt (s.take k) (List.all_eq_true.2 fun x hx => List.all_eq_true.1 h x (List.mem_of_mem_take hx))
  rw [hl] at h2
  unfold isDig at hd
  rw [Bool.and_eq_true, decide_eq_true_iff, decide_eq_true_iff] at hd
  exact ⟨by rw [e, digV_snoc]; rfl, h2, hd⟩
def ShPost (l : List UInt8) (w : World) (e : Ending) (w' : World) : Prop := e = .returned (.tuple #[.int .i64 (if (dgs l).length ≤ 17 then val l else 0), .bool (decide ((dgs l).length ≤ 17))]) ∧ w = w'
set_option maxHeartbeats 4000000 in
set_option maxRecDepth 100000 in
theorem short_any (l : List UInt8) (w : World) (hs : l.length ≤ 1000000) : Calls Tryz.prog 124 #[.string ⟨l.toArray⟩] w (ShPost l w) := by
  have C := Lib.hid (rdig_any l w hs)
  have HP := Lib.hid (fun e (h : e = Ending.returned (.tuple #[.int .i64 (if (dgs l).length ≤ 17 then val l else 0), .bool (decide ((dgs l).length ≤ 17))])) => (show ShPost l w e w from ⟨h, rfl⟩))
  have HV := Lib.hid (show val l = if neg l then -(digV (dgs l) : Int) else digV (dgs l) from rfl)
  have HA := Lib.hid (dgs_all l)
  have hl2 : (dgs l).length ≤ 1000000 := Nat.le_trans (dgs_len l) hs
  unfold RdgPost at C
  generalize ShPost l w = Post at *
  generalize val l = v at *
  generalize neg l = ng at *
  generalize dgs l = s at *
  go_enter Tryz.func124, Tryz.ntmps124
  go_wp2_with fail
  refine C.out.mono ?_
  rintro e w' ⟨rfl, rfl⟩
  clear C
  by_cases h17 : s.length ≤ 17
  case neg =>
    have t1 : decide (17 < (s.length : Int)) = true := by rw [decide_eq_true_iff]; omega
    rw [if_neg h17, decide_eq_false h17] at HP
    go_wp2_with fail
    exact HP.out _ rfl
  rw [if_pos h17, decide_eq_true h17] at HP
  have t1 : decide (17 < (s.length : Int)) = false := by rw [decide_eq_false_iff_not]; omega
  go_wp2_with fail
  go_loop [7, 6] (fun i n => ∃ k : Nat, k ≤ s.length ∧ i = .int .i64 (k : Int) ∧ n = .int .i64 (digV (s.take k) : Int)) (fun i _ => s.length - (intOf i).toNat)
  case atStart => exact ⟨0, by omega, rfl, rfl⟩
  case round =>
    obtain ⟨k, hk, rfl, rfl⟩ := hrel
    by_cases hlt : k < s.length
    · have hki : (k : Int) < (s.length : Int) := by omega
      obtain ⟨h1, h2, h3, h4⟩ := take_dig HA.out hlt
      have hp : 10 ^ k ≤ 10 ^ 16 := Nat.pow_le_pow_right (by omega) (by omega)
      have hba := ba_get s k hlt
      have hN : digV (List.take k s) < 10 ^ 16 := by omega
      have HT := Lib.hid h1
      clear h1 h2 hp
      obtain ⟨N2, hN2⟩ : ∃ N2, digV (List.take (k + 1) s) = N2 := ⟨_, rfl⟩
      rw [hN2] at HT
      have HN2 := Lib.hid hN2
      clear hN2
      generalize digV (List.take k s) = N at *
      rw [← hba] at h3 h4 HT
      have w1 : IntKind.u8.wrap ((((⟨s.toArray⟩ : ByteArray)[k]'hlt).toNat : Int) - 48) = ((((⟨s.toArray⟩ : ByteArray)[k]'hlt).toNat - 48 : Nat) : Int) := by
        rw [IntWalk.u8_in _ (by omega)]; omega
      have w2 : IntKind.i64.wrap ((((⟨s.toArray⟩ : ByteArray)[k]'hlt).toNat - 48 : Nat) : Int) = ((((⟨s.toArray⟩ : ByteArray)[k]'hlt).toNat - 48 : Nat) : Int) := IntWalk.i64_in _ (by omega)
      have w3 : IntKind.i64.wrap (10 * (N : Int)) = 10 * (N : Int) := IntWalk.i64_in _ (by omega)
      have w4 : IntKind.i64.wrap (10 * (N : Int) + ((((⟨s.toArray⟩ : ByteArray)[k]'hlt).toNat - 48 : Nat) : Int)) = (N2 : Int) := by
        rw [IntWalk.i64_in _ (by omega), HT.out]; omega
      clear hba
      go_wp2_with fail
      go_round
      case rel => exact ⟨k + 1, by omega, by go_num, by rw [HN2.out]⟩
      case measure => simp [intOf]; omega
    · have hkn : k = s.length := by omega
      subst hkn
      rw [List.take_length]
      have hb := digV_lt s HA.out
      have hp : 10 ^ s.length ≤ 10 ^ 17 := Nat.pow_le_pow_right (by omega) h17
      have hN : digV s < 10 ^ 17 := by omega
      clear hb hp
      generalize digV s = N at *
      have hki : ¬ (s.length : Int) < (s.length : Int) := by omega
      cases ng
      · have hv := HV.out
        rw [if_neg (by decide)] at hv
        subst hv
        go_wp2_with fail
        exact HP.out _ rfl
      · have hv := HV.out
        rw [if_pos rfl] at hv
        subst hv
        have w1 : IntKind.i64.wrap (-(N : Int)) = -(N : Int) := IntWalk.i64_in _ (by omega)
        go_wp2_with fail
        exact HP.out _ rfl
/-- it returned v, and the world is as it was -/
def RetP (v : Value) (w : World) (e : Ending) (w' : World) : Prop := e = .returned v ∧ w = w'
set_option maxRecDepth 100000 in
set_option maxHeartbeats 1000000 in
theorem rcan_any (l : List UInt8) (w : World) (hs : l.length ≤ 100000) : Calls Tryz.prog 101 #[.string ⟨l.toArray⟩] w (RetP (.string ⟨(can l).toArray⟩) w) := by
  have C := Lib.hid (rdig_any l w (by omega))
  have HT := Lib.hid (show can l = if neg l then 45 :: dgs l else dgs l from txt_val l)
  have hl2 : (dgs l).length ≤ 100000 := Nat.le_trans (dgs_len l) hs
  unfold RdgPost at C
  have HP := Lib.hid (fun e (h : e = Ending.returned (.string ⟨(can l).toArray⟩)) => (show RetP (.string ⟨(can l).toArray⟩) w e w from ⟨h, rfl⟩))
  generalize RetP (.string ⟨(can l).toArray⟩) w = Post at *
  generalize can l = m at *
  generalize neg l = ng at *
  generalize dgs l = s at *
  have hcat := fun W => cat_run [45] s (45 :: s) (by simp; omega) rfl W
  go_enter Tryz.func101, Tryz.ntmps101
  go_wp2_with fail
  refine C.out.mono ?_
  rintro e w' ⟨rfl, rfl⟩
  clear C
  cases ng
  · have hm := HT.out
    rw [if_neg (by decide)] at hm
    subst hm
    clear hcat
    go_wp2_with fail
    exact HP.out _ rfl
  · have hm := HT.out
    rw [if_pos rfl] at hm
    subst hm
    go_wp2_with fail
    exact HP.out _ rfl
set_option maxRecDepth 100000 in
set_option maxHeartbeats 1000000 in
theorem rchk_any (l : List UInt8) (w : World) (hs : l.length ≤ 100000) : Calls Tryz.prog 69 #[.string ⟨l.toArray⟩] w (RetP (.int .i64 (chkI l)) w) := by
  have C := Lib.hid (rcan_any l w hs)
  have hcan := Lib.hid (show chkI l = if can l = l then 0 else 1 from rfl)
  unfold RetP at C
  generalize can l = m at *
  by_cases he : m = l
  · have hc2 := Lib.hid (show chkI l = 0 by rw [hcan.out, if_pos he])
    subst he
    go_enter Tryz.func69, Tryz.ntmps69
    go_wp2_with fail
    refine C.out.mono ?_
    rintro e w' ⟨rfl, rfl⟩
    go_wp2_with fail
    go_ret
    exact ⟨by rw [hc2.out]; rfl, rfl⟩
  · have hne : (l == m) = false := beq_eq_false_iff_ne.2 (Ne.symm he)
    have hne2 : (m == l) = false := beq_eq_false_iff_ne.2 he
    have hc2 := Lib.hid (show chkI l = 1 by rw [hcan.out, if_neg he])
    go_enter Tryz.func69, Tryz.ntmps69
    go_wp2_with fail
    refine C.out.mono ?_
    rintro e w' ⟨rfl, rfl⟩
    go_wp2_with fail
    go_ret
    exact ⟨by rw [hc2.out]; rfl, rfl⟩
theorem txt_opp (l : List UInt8) : txt (- val l) = if neg l = true ∨ dgs l = [] then dgs l else 45 :: dgs l := by
  have hd := dgs_val l
  by_cases hn : neg l = true
  · rw [if_pos (.inl hn), val, if_pos hn, Int.neg_neg, txt, if_neg (by omega), Int.natAbs_natCast]; exact hd.symm
  · by_cases h0 : dgs l = []
    · rw [if_pos (.inr h0), val, if_neg hn, h0]; exact txt_zero
    · have := digV_pos (dgs_all l) (dgs_head l) h0
      rw [if_neg (by rintro (h | h); exact hn h; exact h0 h), val, if_neg hn, txt, if_pos (by omega), Int.natAbs_neg, Int.natAbs_natCast, ← hd]
set_option maxRecDepth 100000 in
set_option maxHeartbeats 1000000 in
theorem rlong_any (l : List UInt8) (w : World) (hs : l.length ≤ 100000) : Calls Tryz.prog 31 #[.string ⟨l.toArray⟩] w (RetP (.bool (decide (13 < l.length))) w) := by
  have h : decide (13 < l.length) = decide ((13 : Int) < (l.length : Int)) := by
    rw [Bool.eq_iff_iff, decide_eq_true_iff, decide_eq_true_iff]; omega
  rw [h]
  go_enter Tryz.func31, Tryz.ntmps31
  go_wp2_with fail
  go_ret
  exact ⟨rfl, rfl⟩
end Go.Proofs.YtejaehmoplohdaaGreatDoor

/- Contracts of the reference's numbers: Of, Add by the short road, Compare, Sign. -/
namespace Go.Proofs.YtejaehmoplohdaaGreatDoor
open Go.RowKit Go.Shelf Num

theorem encode_dig {c : Nat} (h0 : 48 ≤ c) (h1 : c ≤ 57) : Utf8.encode (c : Int) = ⟨[UInt8.ofNat c].toArray⟩ := by
  have : c = 48 ∨ c = 49 ∨ c = 50 ∨ c = 51 ∨ c = 52 ∨ c = 53 ∨ c = 54 ∨ c = 55 ∨ c = 56 ∨ c = 57 := by omega
  rcases this with rfl | rfl | rfl | rfl | rfl | rfl | rfl | rfl | rfl | rfl <;> rfl
theorem of_step {n M : Int} {T : List UInt8} (h : dig n.natAbs = dig M.natAbs ++ T) (h0 : M ≠ 0) : dig n.natAbs = dig (M.natAbs / 10) ++ UInt8.ofNat (48 + M.natAbs % 10) :: T := by
  rw [h, dig_pos (show M.natAbs ≠ 0 by omega)]; simp
set_option maxRecDepth 100000 in
set_option maxHeartbeats 4000000 in
theorem rof_any (n : Int) (w : World) (h0 : -9223372036854775808 ≤ n) (h1 : n ≤ 9223372036854775807) : Calls Tryz.prog 125 #[.int .i64 n] w (RetP (.string ⟨(txt n).toArray⟩) w) := by
  have HT := Lib.hid (show txt n = if n < 0 then 45 :: dig n.natAbs else dig n.natAbs from rfl)
  have HL := Lib.hid (dig_len (n := n.natAbs) (k := 19) (by omega))
  have HP := Lib.hid (fun e (h : e = Ending.returned (.string ⟨(txt n).toArray⟩)) => (show RetP (.string ⟨(txt n).toArray⟩) w e w from ⟨h, rfl⟩))
  generalize RetP (.string ⟨(txt n).toArray⟩) w = Post at *
  by_cases hz : n = 0
  · subst hz
    rw [show txt 0 = [] from txt_zero] at HP
    go_enter Tryz.func125, Tryz.ntmps125
    go_wp2_with fail
    exact HP.out _ rfl
  generalize txt n = t at *
  have hzb : (n == 0) = false := beq_eq_false_iff_ne.2 hz
  go_enter Tryz.func125, Tryz.ntmps125
  go_wp2_with fail
  go_loop [3, 4, 5] (fun s m _ => ∃ (M : Int) (T : List UInt8), s = .string ⟨T.toArray⟩ ∧ m = .int .i64 M ∧ -9223372036854775808 ≤ M ∧ M ≤ 9223372036854775807 ∧ Hid (dig n.natAbs = dig M.natAbs ++ T)) (fun _ m _ => (intOf m).natAbs)
  case atStart => exact ⟨n, [], rfl, rfl, h0, h1, Lib.hid (by simp)⟩
  case round =>
    obtain ⟨M, T, rfl, rfl, hm0, hm1, HD⟩ := hrel
    have htl : T.length ≤ 19 := by
      have e := congrArg List.length HD.out
      rw [List.length_append] at e
      have := HL.out
      omega
    by_cases hM : M = 0
    · subst hM
      have hd := HD.out
      rw [show dig (0 : Int).natAbs = [] from dig_zero, List.nil_append] at hd
      rw [hd] at HT
      by_cases hn : n < 0
      · have hnb : decide (n < 0) = true := decide_eq_true hn
        have hcat := fun W => cat_run [45] T (45 :: T) (by simp; omega) rfl W
        have e := HT.out
        rw [if_pos hn] at e
        subst e
        clear hd HD HL HT
        go_wp2_with fail
        exact HP.out _ rfl
      · have hnb : decide (n < 0) = false := decide_eq_false hn
        have e := HT.out
        rw [if_neg hn] at e
        subst e
        clear hd HD HL HT
        go_wp2_with fail
        exact HP.out _ rfl
    · have hMb : (M == 0) = false := beq_eq_false_iff_ne.2 hM
      have hMb2 : (M != 0) = true := by rw [bne_iff_ne]; exact hM
      have HS := Lib.hid (of_step HD.out hM)
      have hq : M.natAbs % 10 < 10 := Nat.mod_lt _ (by decide)
      obtain ⟨c, hc⟩ : ∃ c, 48 + M.natAbs % 10 = c := ⟨_, rfl⟩
      have henc := encode_dig (c := c) (by omega) (by omega)
      have hcat := fun W => cat_run [UInt8.ofNat c] T (UInt8.ofNat c :: T) (by simp; omega) rfl W
      have v3 : IntKind.i32.wrap (c : Int) = (c : Int) := IntWalk.i32_in _ (by omega)
      rw [hc] at HS
      obtain ⟨D, hD⟩ : ∃ D, M.tmod 10 = D := ⟨_, rfl⟩
      obtain ⟨Q, hQ⟩ : ∃ Q, M.tdiv 10 = Q := ⟨_, rfl⟩
      have hDQ : D.natAbs = M.natAbs % 10 ∧ Q.natAbs = M.natAbs / 10 ∧ -9 ≤ D ∧ D ≤ 9 ∧ -9223372036854775808 ≤ Q ∧ Q ≤ 9223372036854775807 := by
        rw [← hD, ← hQ, Int.natAbs_tdiv, Int.natAbs_tmod]
        refine ⟨rfl, rfl, ?_⟩
        have e1 : (M.tmod 10).natAbs = M.natAbs % 10 := Int.natAbs_tmod _ _
        have e2 : (M.tdiv 10).natAbs = M.natAbs / 10 := Int.natAbs_tdiv _ _
        omega
      obtain ⟨d1, d2, d3, d4, d5, d6⟩ := hDQ
      have wD : IntKind.i64.wrap (M.tmod 10) = D := by rw [hD]; exact IntWalk.i64_in _ (by omega)
      have wQ : IntKind.i64.wrap (M.tdiv 10) = Q := by rw [hQ]; exact IntWalk.i64_in _ (by omega)
      have HS2 := Lib.hid (show dig n.natAbs = dig Q.natAbs ++ UInt8.ofNat c :: T by rw [d2]; exact HS.out)
      have HQ := Lib.hid (show Q.natAbs < M.natAbs by rw [d2]; omega)
      by_cases hneg : D < 0
      · have t1 : decide (D < 0) = true := decide_eq_true hneg
        have w1 : IntKind.i64.wrap (-D) = -D := IntWalk.i64_in _ (by omega)
        have w2 : IntKind.i64.wrap (48 + -D) = (c : Int) := by rw [IntWalk.i64_in _ (by omega)]; omega
        clear HD HS HL HT d2
        go_wp2_with fail
        go_round
        case rel => exact ⟨Q, _, rfl, rfl, d5, d6, HS2⟩
        case measure => exact HQ.out
      · have t1 : decide (D < 0) = false := decide_eq_false hneg
        have w2 : IntKind.i64.wrap (48 + D) = (c : Int) := by rw [IntWalk.i64_in _ (by omega)]; omega
        clear HD HS HL HT d2
        go_wp2_with fail
        go_round
        case rel => exact ⟨Q, _, rfl, rfl, d5, d6, HS2⟩
        case measure => exact HQ.out
theorem val_short {l : List UInt8} (h : (dgs l).length ≤ 17) : -100000000000000000 < val l ∧ val l < 100000000000000000 := by
  have h1 := digV_lt (dgs l) (dgs_all l)
  have h2 : 10 ^ (dgs l).length ≤ 10 ^ 17 := Nat.pow_le_pow_right (by omega) h
  have h3 : digV (dgs l) < 100000000000000000 := Nat.lt_of_lt_of_le h1 h2
  unfold val
  split <;> omega
set_option maxRecDepth 100000 in
set_option maxHeartbeats 1000000 in
theorem radd_any (a b : List UInt8) (w : World) (la : a.length ≤ 1000000) (lb : b.length ≤ 1000000) (ha : (dgs a).length ≤ 17) (hb : (dgs b).length ≤ 17) : Calls Tryz.prog 95 #[.string ⟨a.toArray⟩, .string ⟨b.toArray⟩] w (RetP (.string ⟨(txt (val a + val b)).toArray⟩) w) := by
  have C1 := short_any a w la
  have C2 := short_any b w lb
  unfold ShPost at C1 C2
  rw [if_pos ha, decide_eq_true ha] at C1
  rw [if_pos hb, decide_eq_true hb] at C2
  have H1 := Lib.hid C1
  have H2 := Lib.hid C2
  obtain ⟨a1, a2⟩ := val_short ha
  obtain ⟨b1, b2⟩ := val_short hb
  have H3 := Lib.hid (rof_any (val a + val b) w (by omega) (by omega))
  have wS : IntKind.i64.wrap (val a + val b) = val a + val b := IntWalk.i64_in _ (by omega)
  clear C1 C2 ha hb la lb
  unfold RetP at H3
  have HP := Lib.hid (fun e (h : e = Ending.returned (.string ⟨(txt (val a + val b)).toArray⟩)) => (show RetP (.string ⟨(txt (val a + val b)).toArray⟩) w e w from ⟨h, rfl⟩))
  generalize RetP (.string ⟨(txt (val a + val b)).toArray⟩) w = Post at *
  generalize txt (val a + val b) = t at *
  generalize val a = x at *
  generalize val b = y at *
  go_enter Tryz.func95, Tryz.ntmps95
  go_wp2_with fail
  refine H1.out.mono ?_
  rintro e w' ⟨rfl, rfl⟩
  go_wp2_with fail
  refine H2.out.mono ?_
  rintro e w' ⟨rfl, rfl⟩
  go_wp2_with fail
  refine H3.out.mono ?_
  rintro e w' ⟨rfl, rfl⟩
  go_wp2_with fail
  exact HP.out _ rfl
theorem digV_cmp (a b : List UInt8) : ((dgs a).length < (dgs b).length → digV (dgs a) < digV (dgs b)) ∧ ((dgs a).length = (dgs b).length → (digV (dgs a) < digV (dgs b) ↔ dgs a < dgs b)) :=
  ⟨fun h => digV_shorter (dgs_all a) (dgs_all b) (dgs_head b) h, fun h => digV_same (dgs_all a) (dgs_all b) h⟩
set_option maxRecDepth 100000 in
set_option maxHeartbeats 2000000 in
theorem rcmp_any (a b : List UInt8) (w : World) (la : a.length ≤ 1000000) (lb : b.length ≤ 1000000) : Calls Tryz.prog 103 #[.string ⟨a.toArray⟩, .string ⟨b.toArray⟩] w (RetP (.int .i64 (cmpV a b)) w) := by
  have C1 := Lib.hid (rdig_any a w la)
  have C2 := Lib.hid (rdig_any b w lb)
  unfold RdgPost at C1 C2
  have hca := Lib.hid (show cmpV a b = if val a < val b then -1 else if val b < val a then 1 else 0 from rfl)
  have va := Lib.hid (show val a = if neg a then -(digV (dgs a) : Int) else digV (dgs a) from rfl)
  have vb := Lib.hid (show val b = if neg b then -(digV (dgs b) : Int) else digV (dgs b) from rfl)
  have na := Lib.hid (neg_val a)
  have nb := Lib.hid (neg_val b)
  have d1 := Lib.hid (digV_cmp a b)
  have d2 := Lib.hid (digV_cmp b a)
  have la1 : (dgs a).length ≤ 1000000 := Nat.le_trans (dgs_len a) la
  have lb1 : (dgs b).length ≤ 1000000 := Nat.le_trans (dgs_len b) lb
  have HP := Lib.hid (fun r (h : cmpV a b = r) => (show RetP (.int .i64 (cmpV a b)) w (.returned (.int .i64 r)) w from ⟨by rw [h], rfl⟩))
  have less := less_lt (dgs a) (dgs b)
  have less2 := less_lt (dgs b) (dgs a)
  generalize RetP (.int .i64 (cmpV a b)) w = Post at *
  generalize cmpV a b = r at *
  generalize val a = x at *
  generalize val b = y at *
  generalize digV (dgs a) = A at *
  generalize digV (dgs b) = B at *
  generalize dgs a = s at *
  generalize dgs b = t at *
  generalize neg a = ma at *
  generalize neg b = mb at *
  have hlt : x < y → r = -1 := fun h => by rw [hca.out, if_pos h]
  have hgt : y < x → r = 1 := fun h => by rw [hca.out, if_neg (by omega), if_pos h]
  have heq : x = y → r = 0 := fun h => by rw [hca.out, if_neg (by omega), if_neg (by omega)]
  have HLT := Lib.hid hlt
  have HGT := Lib.hid hgt
  have HEQ := Lib.hid heq
  clear hlt hgt heq hca
  go_enter Tryz.func103, Tryz.ntmps103
  go_wp2_with fail
  refine C1.out.mono ?_
  rintro e w' ⟨rfl, rfl⟩
  go_wp2_with fail
  refine C2.out.mono ?_
  rintro e w' ⟨rfl, rfl⟩
  clear C1 C2
  have key : ∀ (sg : Bool), ma = sg → mb = sg → Hid ((A < B → r = if sg then 1 else -1) ∧ (B < A → r = if sg then -1 else 1) ∧ (A = B → r = 0)) := by
    intro sg e1 e2
    have e3 := va.out
    have e4 := vb.out
    rw [e1] at e3
    rw [e2] at e4
    refine Lib.hid ?_
    cases sg
    · rw [if_neg (by decide)] at e3 e4
      exact ⟨fun h => by rw [HLT.out (by omega)]; rfl, fun h => by rw [HGT.out (by omega)]; rfl, fun h => HEQ.out (by omega)⟩
    · rw [if_pos rfl] at e3 e4
      exact ⟨fun h => by rw [HGT.out (by omega)]; rfl, fun h => by rw [HLT.out (by omega)]; rfl, fun h => HEQ.out (by omega)⟩
  have fin : ∀ (sg : Bool), ma = sg → mb = sg → (s.length < t.length → Hid (r = if sg then 1 else -1)) ∧ (t.length < s.length → Hid (r = if sg then -1 else 1)) ∧ (s.length = t.length → (s < t → Hid (r = if sg then 1 else -1)) ∧ (t < s → Hid (r = if sg then -1 else 1)) ∧ (s = t → Hid (r = 0))) := by
    intro sg e1 e2
    obtain ⟨k1, k2, k3⟩ := (key sg e1 e2).out
    refine ⟨fun h => Lib.hid (k1 (d1.out.1 h)), fun h => Lib.hid (k2 (d2.out.1 h)), fun h => ⟨fun h2 => Lib.hid (k1 ((d1.out.2 h).2 h2)), fun h2 => Lib.hid (k2 ((d2.out.2 h.symm).2 h2)), fun h2 => Lib.hid (k3 ?_)⟩⟩
    have n1 : ¬ A < B := fun hh => by have := (d1.out.2 h).1 hh; rw [h2] at this; exact List.lt_irrefl _ this
    have n2 : ¬ B < A := fun hh => by have := (d2.out.2 h.symm).1 hh; rw [h2] at this; exact List.lt_irrefl _ this
    omega
  have FIN := Lib.hid fin
  have opp := Lib.hid (show (ma = true → mb = false → r = -1) ∧ (ma = false → mb = true → r = 1) from
    ⟨fun h h2 => HLT.out (by have := na.out.1 h; have := nb.out.2 h2; omega), fun h h2 => HGT.out (by have := na.out.2 h; have := nb.out.1 h2; omega)⟩)
  clear key fin HLT HGT HEQ va vb na nb d1 d2
  cases ma <;> cases mb
  case true.false =>
    have hr := Lib.hid (opp.out.1 rfl rfl)
    clear less less2
    go_wp2_with fail
    exact HP.out _ hr.out
  case false.true =>
    have hr := Lib.hid (opp.out.2 rfl rfl)
    clear less less2
    go_wp2_with fail
    exact HP.out _ hr.out
  all_goals
    obtain ⟨f1, f2, f3⟩ := FIN.out _ rfl rfl
    clear FIN opp
    rcases Nat.lt_trichotomy s.length t.length with hl | hl | hl
    · have hr := f1 hl
      have t1 : ((s.length : Int) != (t.length : Int)) = true := by rw [bne_iff_ne]; omega
      have t1' : ((s.length : Int) == (t.length : Int)) = false := by rw [beq_eq_false_iff_ne]; omega
      have t2 : decide ((s.length : Int) < (t.length : Int)) = true := by rw [decide_eq_true_iff]; omega
      clear f1 f2 f3 less less2
      go_wp2_with fail
      exact HP.out _ hr.out
    · obtain ⟨g1, g2, g3⟩ := f3 hl
      have t1 : ((s.length : Int) != (t.length : Int)) = false := by rw [bne_eq_false_iff_eq]; omega
      have t1' : ((s.length : Int) == (t.length : Int)) = true := by rw [beq_iff_eq]; omega
      have HLn := Lib.hid hl
      clear f1 f2 f3 hl
      by_cases h1 : s < t
      · have hr := g1 h1
        have u1 : Op.bytesLess s t = true := by rw [less]; exact decide_eq_true h1
        clear less less2 g1 g2 g3 h1
        go_wp2_with fail
        exact HP.out _ hr.out
      · have u1 : Op.bytesLess s t = false := by rw [less]; exact decide_eq_false h1
        by_cases h2 : t < s
        · have hr := g2 h2
          have u2 : Op.bytesLess t s = true := by rw [less2]; exact decide_eq_true h2
          have u3 : (s == t) = false := beq_eq_false_iff_ne.2 (fun e => by subst e; exact List.lt_irrefl _ h2)
          clear less less2 g1 g2 g3 h1 h2
          go_wp2_with fail
          exact HP.out _ hr.out
        · have u2 : Op.bytesLess t s = false := by rw [less2]; exact decide_eq_false h2
          have hr := g3 (lt_tri s t h1 h2)
          have u3 : (s == t) = true := beq_iff_eq.2 (lt_tri s t h1 h2)
          clear less less2 g1 g2 g3 h1 h2
          go_wp2_with fail
          exact HP.out _ hr.out
    · have hr := f2 hl
      have t1 : ((s.length : Int) != (t.length : Int)) = true := by rw [bne_iff_ne]; omega
      have t1' : ((s.length : Int) == (t.length : Int)) = false := by rw [beq_eq_false_iff_ne]; omega
      have t2 : decide ((s.length : Int) < (t.length : Int)) = false := by rw [decide_eq_false_iff_not]; omega
      clear f1 f2 f3 less less2
      go_wp2_with fail
      exact HP.out _ hr.out
set_option maxRecDepth 100000 in
theorem rsign_any (a : List UInt8) (w : World) (la : a.length ≤ 1000000) : Calls Tryz.prog 75 #[.string ⟨a.toArray⟩] w (RetP (.int .i64 (cmpI (val a) 0)) w) := by
  have C := Lib.hid (rcmp_any a [] w la (by simp))
  rw [show cmpV a [] = cmpI (val a) 0 from rfl] at C
  generalize cmpI (val a) 0 = r at *
  unfold RetP at C
  go_enter Tryz.func75, Tryz.ntmps75
  go_wp2_with fail
  refine C.out.mono ?_
  rintro e w' ⟨rfl, rfl⟩
  go_wp2_with fail
  go_ret
  exact ⟨rfl, rfl⟩
end Go.Proofs.YtejaehmoplohdaaGreatDoor

/- Contracts of the reference's compareText, CompareLines, head, fields. -/
namespace Go.Proofs.YtejaehmoplohdaaGreatDoor
open Go.RowKit Go.Maps Num

end Go.Proofs.YtejaehmoplohdaaGreatDoor

/- Contract of the reference's balances. -/
namespace Go.Proofs.YtejaehmoplohdaaGreatDoor
open Go.RowKit Go.Maps Num

theorem Below.drN {B : Nat} {w W : World} (h : Below B w W) (k : Nat) : Below B w (W.drewN k) := ⟨h.os, h.tape, h.output, h.size, h.block⟩
def num13 : Nat := 10 ^ 13
theorem dgs_txt (v : Int) : dgs (txt v) = dig v.natAbs := by
  rw [dgs_val]
  have h := val_txt v
  unfold val at h
  split at h <;> (congr 1; omega)
theorem dgs_txt_len {v : Int} {k : Nat} (h : v.natAbs < 10 ^ k) : (dgs (txt v)).length ≤ k := by
  rw [dgs_txt]; exact dig_len h
theorem curT_13 (l : List Ln) (h : ∀ x ∈ l, x.2.2.length ≤ 13) (c : List UInt8) : (curT l c).natAbs ≤ l.length * num13 := by
  induction l with
  | nil => simp [curT]
  | cons x r ih =>
    have h1 : (val x.2.2).natAbs < num13 := Nat.lt_of_lt_of_le (val_bd _) (Nat.pow_le_pow_right (by omega) (h x (by simp)))
    have h2 := ih fun y hy => h y (List.mem_cons_of_mem _ hy)
    rw [curT_cons, List.length_cons, Nat.add_mul]
    split <;> omega
theorem curT_dgs (l : List Ln) (h : ∀ x ∈ l, x.2.2.length ≤ 13) (hn : l.length ≤ 1000) (c : List UInt8) : (dgs (txt (curT l c))).length ≤ 17 ∧ (txt (curT l c)).length ≤ 1000000 := by
  have h1 := curT_13 l h c
  have h2 : l.length * num13 ≤ 1000 * num13 := Nat.mul_le_mul_right _ hn
  have h3 : 1000 * num13 < 10 ^ 17 := by decide
  have h4 : (curT l c).natAbs < 10 ^ 17 := by omega
  exact ⟨dgs_txt_len h4, by have := txt_bd h4; omega⟩
theorem dgs_13 {m : List UInt8} (h : m.length ≤ 13) : (dgs m).length ≤ 17 := by have := dgs_len m; omega
/-- the sum of a currency over the first k lines -/
def sumC (l : List Ln) (cu : List UInt8) (k : Nat) : List UInt8 := txt (curT (l.take k) cu)
theorem sumC_zero (l : List Ln) (cu : List UInt8) : sumC l cu 0 = [] := txt_zero
theorem sumC_next (l : List Ln) (cu : List UInt8) (k : Nat) (h : k < l.length) : sumC l cu (k + 1) = if (l.getD k ln0).2.1 = cu then txt (val (sumC l cu k) + val (l.getD k ln0).2.2) else sumC l cu k := by
  unfold sumC
  rw [take_ln l k h, curT_snoc, val_txt]
  split
  · rfl
  · rw [Int.add_zero]
theorem sumC_sm (l : List Ln) (cu : List UInt8) (k : Nat) (h : ∀ x ∈ l, x.2.2.length ≤ 13) (hn : l.length ≤ 1000) : (dgs (sumC l cu k)).length ≤ 17 ∧ (sumC l cu k).length ≤ 1000000 :=
  curT_dgs _ (fun x hx => h x (List.mem_of_mem_take hx)) (by rw [List.length_take]; omega) cu
theorem sumC_all (l : List Ln) (cu : List UInt8) (n : Nat) (h : l.length = n) : sumC l cu n = txt (curT l cu) := by
  unfold sumC; rw [List.take_of_length_le (by omega)]
end Go.Proofs.YtejaehmoplohdaaGreatDoor

/- Contract of the reference's Compare of entries. -/
namespace Go.Proofs.YtejaehmoplohdaaGreatDoor
open Go.RowKit Go.Maps Num

theorem cmpLs_out (l m : List Ln) (k : Nat) (hk : k ≤ l.length) (hp : k ≤ m.length) (h : k = l.length ∨ k = m.length) : cmpLs cmpL (l.drop k) (m.drop k) = if l.length < m.length then -1 else if m.length < l.length then 1 else 0 := by
  rcases h with h | h
  · rw [List.drop_of_length_le (by omega)]
    cases e : m.drop k with
    | nil => rw [if_neg (by have := congrArg List.length e; simp at this; omega), if_neg (by omega)]; rfl
    | cons y r => rw [if_pos (by have := congrArg List.length e; simp at this; omega)]; rfl
  · cases e : l.drop k with
    | nil => rw [List.drop_of_length_le (l := m) (by omega), if_neg (by omega), if_neg (by have := congrArg List.length e; simp at this; omega)]; rfl
    | cons y r => rw [List.drop_of_length_le (l := m) (by omega), if_neg (by have := congrArg List.length e; simp at this; omega), if_pos (by have := congrArg List.length e; simp at this; omega)]; rfl
end Go.Proofs.YtejaehmoplohdaaGreatDoor

/- Putting an amount into lines, plain; reads of rows of three cells. -/
namespace Go.Proofs.YtejaehmoplohdaaGreatDoor
open Go.RowKit Go.Maps Num

/-- put into lines of which the first k lie ahead -/
theorem putL_at (l : List Ln) (x : Ln) (k : Nat) (h : ∀ y ∈ l.take k, cmpK y x < 0) : putL l x = l.take k ++ putL (l.drop k) x := by
  induction l generalizing k with
  | nil => simp
  | cons y r ih =>
    cases k with
    | zero => simp
    | succ k =>
      rw [List.take_succ_cons, List.drop_succ_cons, List.cons_append, ← ih k fun z hz => h z (by rw [List.take_succ_cons]; exact List.mem_cons_of_mem _ hz)]
      show (if cmpK y x < 0 then y :: putL r x else _) = _
      rw [if_pos (h y (by simp))]
def putX (x : Ln) : List Ln := if val x.2.2 = 0 then [] else [x]
theorem putL_end {l : List Ln} {x : Ln} {k : Nat} (h : ∀ y ∈ l.take k, cmpK y x < 0) (hk : l.length ≤ k) : putL l x = (l.take k ++ putX x) ++ l.drop k := by
  rw [putL_at l x k h, List.drop_of_length_le hk, List.append_nil]; rfl
theorem putL_eq {l : List Ln} {x y : Ln} {k : Nat} (h : ∀ y ∈ l.take k, cmpK y x < 0) (hd : l.drop k = y :: l.drop (k + 1)) (hc : cmpK y x = 0) : putL l x = (l.take k ++ putX (x.1, x.2.1, txt (val y.2.2 + val x.2.2))) ++ l.drop (k + 1) := by
  rw [putL_at l x k h, hd, List.append_assoc]
  congr 1
  show (if cmpK y x < 0 then _ else if cmpK y x = 0 then _ else _) = _
  rw [if_neg (by omega), if_pos hc]
  unfold putX
  simp only [val_txt]
  split <;> rfl
theorem putL_gt {l : List Ln} {x y : Ln} {k : Nat} (h : ∀ y ∈ l.take k, cmpK y x < 0) (hd : l.drop k = y :: l.drop (k + 1)) (hc : 0 < cmpK y x) : putL l x = (l.take k ++ putX x) ++ l.drop k := by
  rw [putL_at l x k h, hd, List.append_assoc]
  congr 1
  show (if cmpK y x < 0 then _ else if cmpK y x = 0 then _ else _) = _
  rw [if_neg (by omega), if_neg (by omega)]
  unfold putX
  split <;> rfl
theorem sign_zero (v : Int) : ((cmpI v 0 != 0) = true ↔ v ≠ 0) := by
  unfold cmpI
  rw [bne_iff_ne]
  split
  · omega
  · split <;> omega
/-- an amount as it stands in a normal form of k short lines -/
def Amk (k : Nat) (y : Ln) : Prop := (y.2.2.length ≤ 13 ∨ ∃ v, y.2.2 = txt v) ∧ (val y.2.2).natAbs ≤ k * num13
theorem Amk.up {k : Nat} {y : Ln} (h : Amk k y) : Amk (k + 1) y := ⟨h.1, by have := h.2; rw [Nat.add_mul]; omega⟩
theorem val_13 {m : List UInt8} (h : m.length ≤ 13) : (val m).natAbs ≤ num13 :=
  Nat.le_of_lt (Nat.lt_of_lt_of_le (val_bd _) (Nat.pow_le_pow_right (by omega) h))
theorem putL_amk {k : Nat} {l : List Ln} {x : Ln} (h : ∀ y ∈ l, Amk k y) (hx : x.2.2.length ≤ 13) : (putL l x).length ≤ l.length + 1 ∧ ∀ y ∈ putL l x, Amk (k + 1) y := by
  have hx1 := val_13 hx
  have hX : Amk (k + 1) x := ⟨.inl hx, by rw [Nat.add_mul]; omega⟩
  induction l with
  | nil =>
    unfold putL
    split
    · exact ⟨by simp, fun y hy => by cases hy⟩
    · exact ⟨by simp, fun y hy => by rw [List.mem_singleton.1 hy]; exact hX⟩
  | cons z r ih =>
    obtain ⟨i1, i2⟩ := ih fun y hy => h y (List.mem_cons_of_mem _ hy)
    have hz := h z (by simp)
    have hr := fun y hy => (h y (List.mem_cons_of_mem _ hy)).up
    unfold putL
    split
    · refine ⟨by simp only [List.length_cons]; omega, fun y hy => ?_⟩
      rcases List.mem_cons.1 hy with rfl | hy
      · exact hz.up
      · exact i2 y hy
    · split
      · split
        · exact ⟨by simp only [List.length_cons]; omega, hr⟩
        · refine ⟨by simp, fun y hy => ?_⟩
          rcases List.mem_cons.1 hy with rfl | hy
          · refine ⟨.inr ⟨_, rfl⟩, ?_⟩
            simp only [val_txt]
            have := hz.2
            rw [Nat.add_mul]; omega
          · exact hr y hy
      · split
        · refine ⟨by simp, fun y hy => ?_⟩
          rcases List.mem_cons.1 hy with rfl | hy
          · exact hz.up
          · exact hr y hy
        · refine ⟨by simp, fun y hy => ?_⟩
          rcases List.mem_cons.1 hy with rfl | hy
          · exact hX
          · rcases List.mem_cons.1 hy with rfl | hy
            · exact hz.up
            · exact hr y hy
theorem nrmL_amk (l : List Ln) (hl : ∀ x ∈ l, x.2.2.length ≤ 13) (k : Nat) (hk : k ≤ l.length) : (nrmL (l.take k)).length ≤ k ∧ ∀ y ∈ nrmL (l.take k), Amk k y := by
  induction k with
  | zero => exact ⟨by simp [nrmL], fun y hy => by simp [nrmL] at hy⟩
  | succ k ih =>
    obtain ⟨i1, i2⟩ := ih (by omega)
    rw [take_ln l k (by omega), nrmL_snoc]
    obtain ⟨p1, p2⟩ := putL_amk i2 (hl _ (lnAt_mem l k (by omega)))
    exact ⟨by omega, p2⟩
theorem amk_short {k : Nat} {y : Ln} (h : Amk k y) (hk : k ≤ 1000) : (dgs y.2.2).length ≤ 17 ∧ y.2.2.length ≤ 1000000 := by
  obtain ⟨h1, h2⟩ := h
  rcases h1 with h1 | ⟨v, h1⟩
  · exact ⟨dgs_13 h1, by omega⟩
  · rw [h1, val_txt] at h2
    have h3 : k * num13 ≤ 1000 * num13 := Nat.mul_le_mul_right _ hk
    have h4 : 1000 * num13 < 10 ^ 17 := by decide
    have h5 : v.natAbs < 10 ^ 17 := by omega
    rw [h1]
    exact ⟨dgs_txt_len h5, by have := txt_bd h5; omega⟩
theorem amk_100 {k : Nat} {y : Ln} (h : Amk k y) (hk : k ≤ 1000) : y.2.2.length ≤ 20 := by
  obtain ⟨h1, h2⟩ := h
  rcases h1 with h1 | ⟨v, h1⟩
  · omega
  · rw [h1, val_txt] at h2
    have h3 : k * num13 ≤ 1000 * num13 := Nat.mul_le_mul_right _ hk
    have h4 : 1000 * num13 < 10 ^ 17 := by decide
    have := txt_bd (show v.natAbs < 10 ^ 17 by omega)
    rw [h1]; omega
end Go.Proofs.YtejaehmoplohdaaGreatDoor

/- Contract of the reference's GreatOne, for any entry. -/
namespace Go.Proofs.YtejaehmoplohdaaGreatDoor
open Go.RowKit Go.Maps Num

def lnG (x : Ln) : Bool := decide (60 < x.1.length) || decide (60 < x.2.1.length) || decide (13 < x.2.2.length)
/-- larger than the statements examine -/
def g1B (c : List UInt8) (l : List Ln) : Bool := decide (60 < c.length) || (decide (8 < l.length) && decide (l.length ≤ 64)) || decide (66 < l.length) || l.any lnG
set_option maxRecDepth 100000 in
theorem rlong_all (l : List UInt8) (w : World) : Calls Tryz.prog 31 #[.string ⟨l.toArray⟩] w (RetP (.bool (decide (13 < l.length))) w) := by
  have h : decide (13 < l.length) = decide ((13 : Int) < (l.length : Int)) := by
    rw [Bool.eq_iff_iff, decide_eq_true_iff, decide_eq_true_iff]; omega
  rw [h]
  go_enter Tryz.func31, Tryz.ntmps31
  go_wp2_with fail
  go_ret
  exact ⟨rfl, rfl⟩
theorem any_take {l : List Ln} {k : Nat} (h : k < l.length) (hg : lnG (l.getD k ln0) = true) : l.any lnG = true := List.any_eq_true.2 ⟨_, lnAt_mem l k h, hg⟩
theorem any_none {l : List Ln} (h : ∀ x ∈ l, lnG x = false) : l.any lnG = false := by
  rw [List.any_eq_false]
  exact fun x hx => by rw [h x hx]; decide
end Go.Proofs.YtejaehmoplohdaaGreatDoor

/- Entries, plain: what a check that succeeds says, normal forms, reversals. -/
namespace Go.Proofs.YtejaehmoplohdaaGreatDoor
open Go.RowKit Go.Maps Num

def okE (x : En) : Bool := decide (chkE x.1 x.2.1 x.2.2 = 0)
theorem chkLs_zero {p : Option Ky} {l : List Ln} (h : chkLs p l = 0) : ∀ x ∈ l, lineI x = 0 ∧ x.2.2 ≠ [] := by
  induction l generalizing p with
  | nil => intro x hx; cases hx
  | cons y r ih =>
    rw [chkLs_cons] at h
    split at h
    · omega
    · rename_i h0
      split at h
      · omega
      · rename_i h1
        split at h
        · omega
        · intro x hx
          rcases List.mem_cons.1 hx with e | e
          · subst e; exact ⟨by omega, h1⟩
          · exact ih h x e
theorem chkE_parts {d : Int} {c : List UInt8} {l : List Ln} (h : chkE d c l = 0) : headI d c = 0 ∧ 0 < l.length ∧ l.length ≤ 64 ∧ chkLs none l = 0 ∧ balB l = true := by
  unfold chkE at h
  split at h
  · omega
  · rename_i h0
    split at h
    · omega
    · rename_i h1
      split at h
      · omega
      · rename_i h2
        split at h
        · omega
        · rename_i h3
          split at h
          · rename_i h4
            exact ⟨by omega, by omega, by omega, by omega, h4⟩
          · omega
theorem lineI_canB {x : Ln} (h : lineI x = 0) : canB x = true := by
  unfold lineI at h
  split at h
  · split at h
    · unfold chkI at h
      split at h
      · rename_i h0; unfold canB; exact decide_eq_true h0
      · omega
    · omega
  · omega
theorem okE_can {x : En} (h : okE x = true) : x.2.2.all canB = true := by
  obtain ⟨_, _, _, h4, _⟩ := chkE_parts (of_decide_eq_true h)
  rw [List.all_eq_true]
  exact fun y hy => lineI_canB (chkLs_zero h4 y hy).1
theorem ok_tight {l : List En} (h : ∀ x ∈ l, okE x = true) : Tight cmpE l := fun a ha b hb e => (cmpE_zero (okE_can (h a ha)) (okE_can (h b hb))).1 e
/-- the sizes that are examined -/
structure Fit (c : List UInt8) (l : List Ln) : Prop where
  cause : c.length ≤ 60
  len : l.length ≤ 66
  ln : ∀ x ∈ l, x.1.length ≤ 60 ∧ x.2.1.length ≤ 60 ∧ x.2.2.length ≤ 13
theorem g1_fit {c : List UInt8} {l : List Ln} (h : g1B c l = false) : Fit c l := by
  unfold g1B at h
  rw [Bool.or_eq_false_iff, Bool.or_eq_false_iff, Bool.or_eq_false_iff] at h
  obtain ⟨⟨⟨h1, _⟩, h3⟩, h4⟩ := h
  refine ⟨by have := of_decide_eq_false h1; omega, by have := of_decide_eq_false h3; omega, fun x hx => ?_⟩
  have h5 := List.any_eq_false.1 h4 x hx
  unfold lnG at h5
  rw [Bool.not_eq_true, Bool.or_eq_false_iff, Bool.or_eq_false_iff] at h5
  have := of_decide_eq_false h5.1.1
  have := of_decide_eq_false h5.1.2
  have := of_decide_eq_false h5.2
  omega
theorem Fit.sml {c : List UInt8} {l : List Ln} (h : Fit c l) : ∀ x ∈ l, Sml x := fun x hx => by
  obtain ⟨h1, h2, h3⟩ := h.ln x hx
  exact ⟨by omega, by omega, by omega⟩
theorem Lns.none (w : World) : Lns w none 0 0 [] := ⟨rfl, Nat.le_refl _, by unfold maxLen; omega, by omega, fun x hx => (List.not_mem_nil hx).elim, fun h => absurd h (Nat.lt_irrefl 0)⟩
/-- an entry and a code, returned -/
def EnP (y : En) (i : Int) (w : World) (e : Ending) (w' : World) : Prop :=
  ∃ A n c, e = .returned (.tuple #[.agg (enV y.1 y.2.1 A n c), .int .i64 i]) ∧ Lns w' A n c y.2.2 ∧ Below w.heap.size w w'
def revY (d : Int) (c : List UInt8) (l : List Ln) : En := if chkE d c l = 0 then (d, c, l.map negL) else en0
def revI (d : Int) (c : List UInt8) (l : List Ln) : Int := if chkE d c l = 0 then 0 else 1
theorem rev_enp {d : Int} {c : List UInt8} {l : List Ln} {w w' : World} {e : Ending} (h : RevPost d c l w e w') : EnP (revY d c l) (revI d c l) w e w' := by
  obtain ⟨hb, h⟩ := h
  unfold revY revI
  split at h
  · rename_i h0
    obtain ⟨A, k, rfl, hL⟩ := h
    rw [if_pos h0, if_pos h0]
    exact ⟨A, _, k, rfl, hL, hb⟩
  · rename_i h0
    rw [if_neg h0, if_neg h0, h]
    exact ⟨none, 0, 0, rfl, Lns.none _, hb⟩
/-! what a check that succeeds says -/
theorem lineI_iff {x : Ln} : lineI x = 0 ↔ codeB x.1 = true ∧ curB x.2.1 = true ∧ canB x = true := by
  unfold lineI
  constructor
  · intro h
    split at h
    · rename_i h1
      split at h
      · rename_i h2
        unfold chkI at h
        split at h
        · rename_i h3; exact ⟨h1, h2, decide_eq_true h3⟩
        · omega
      · omega
    · omega
  · rintro ⟨h1, h2, h3⟩
    rw [if_pos h1, if_pos h2, chkI, if_pos (of_decide_eq_true h3)]
theorem fldI_of {l : List Ln} (h : ∀ x ∈ l, lineI x = 0) : fldI l = 0 := by
  induction l with
  | nil => rfl
  | cons x r ih => rw [fldI_cons, if_neg (by rw [h x (by simp)]; decide), ih fun y hy => h y (List.mem_cons_of_mem _ hy)]
theorem chkLs_ord {p : Option Ky} {l : List Ln} (h : chkLs p l = 0) : OrdL l ∧ ∀ q, p = some q → ∀ x ∈ l, cmpKy q (key x) = -1 := by
  induction l generalizing p with
  | nil => exact ⟨List.Pairwise.nil, fun q _ x hx => (List.not_mem_nil hx).elim⟩
  | cons y r ih =>
    rw [chkLs_cons] at h
    split at h
    · omega
    · split at h
      · omega
      · split at h
        · omega
        · rename_i h2
          obtain ⟨i1, i2⟩ := ih h
          have i3 := i2 _ rfl
          refine ⟨List.pairwise_cons.2 ⟨i3, i1⟩, fun q hq x hx => ?_⟩
          subst hq
          have h4 : cmpKy q (key y) = -1 := by
            have h5 : ¬ 0 ≤ cmpKy q (key y) := fun hc => h2 (decide_eq_true hc)
            have := cmpKy_cmp.rng q (key y)
            omega
          rcases List.mem_cons.1 hx with e | e
          · subst e; exact h4
          · exact cmpKy_cmp.tr _ _ _ h4 (i3 x e)
theorem chkLs_of {p : Option Ky} {l : List Ln} (h : ∀ x ∈ l, lineI x = 0 ∧ x.2.2 ≠ []) (ho : OrdL l) (hp : ∀ q, p = some q → ∀ x ∈ l, cmpKy q (key x) = -1) : chkLs p l = 0 := by
  induction l generalizing p with
  | nil => unfold chkLs; rfl
  | cons y r ih =>
    unfold OrdL at ho
    rw [List.pairwise_cons] at ho
    obtain ⟨h1, h2⟩ := h y (by simp)
    have h3 : ¬ ordB p (key y) = true := by
      cases p with
      | none => exact fun e => by cases e
      | some q =>
        have := hp q rfl y (by simp)
        intro e
        have : 0 ≤ cmpKy q (key y) := of_decide_eq_true e
        omega
    rw [chkLs_cons, if_neg (by rw [h1]; decide), if_neg h2, if_neg h3]
    exact ih (fun x hx => h x (List.mem_cons_of_mem _ hx)) ho.2 fun q hq x hx => by cases hq; exact ho.1 x hx
structure Vld (d : Int) (c : List UInt8) (l : List Ln) : Prop where
  head : headI d c = 0
  pos : 0 < l.length
  top : l.length ≤ 64
  ln : ∀ x ∈ l, lineI x = 0 ∧ x.2.2 ≠ []
  ord : OrdL l
  bal : balB l = true
theorem chkE_iff {d : Int} {c : List UInt8} {l : List Ln} : chkE d c l = 0 ↔ Vld d c l := by
  constructor
  · intro h
    obtain ⟨h1, h2, h3, h4, h5⟩ := chkE_parts h
    exact ⟨h1, h2, h3, chkLs_zero h4, (chkLs_ord h4).1, h5⟩
  · rintro ⟨h1, h2, h3, h4, h5, h6⟩
    have h7 := chkLs_of (p := none) h4 h5 fun q e => by cases e
    unfold chkE
    rw [if_neg (by rw [h1]; decide), if_neg (by omega), if_neg (by omega), if_neg (by rw [h7]; decide), if_pos h6]
theorem Vld.can {d : Int} {c : List UInt8} {l : List Ln} (h : Vld d c l) : ∀ x ∈ l, canB x = true := fun x hx => (lineI_iff.1 (h.ln x hx).1).2.2
theorem Vld.all {d : Int} {c : List UInt8} {l : List Ln} (h : Vld d c l) : l.all canB = true := List.all_eq_true.2 h.can
/-- the sum of a line's key is its amount -/
theorem Vld.amt {d : Int} {c : List UInt8} {l : List Ln} (h : Vld d c l) {x : Ln} (hx : x ∈ l) : txt (Num.tot l (key x)) = x.2.2 := by
  rw [tot_mem h.ord.keys hx]; exact (canB_txt (h.can x hx)).symm
theorem Vld.ne {d : Int} {c : List UInt8} {l : List Ln} (h : Vld d c l) {x : Ln} (hx : x ∈ l) : val x.2.2 ≠ 0 := val_ne (of_decide_eq_true (h.can x hx)) (h.ln x hx).2
/-! normal forms -/
structure Nrd (d : Int) (c : List UInt8) (l : List Ln) : Prop where
  head : headI d c = 0
  ln : ∀ x ∈ l, lineI x = 0
  bal : balB l = true
  top : (nrmL l).length ≤ 64
theorem nrmI_iff {d : Int} {c : List UInt8} {l : List Ln} : nrmI d c l = 0 ↔ Nrd d c l := by
  unfold nrmI
  constructor
  · intro h
    split at h
    · omega
    · split at h
      · omega
      · split at h
        · omega
        · split at h
          · omega
          · rename_i h1 h2 h3 h4
            exact ⟨by omega, fldI_zero (by omega), by simpa using h3, by omega⟩
  · rintro ⟨h1, h2, h3, h4⟩
    rw [if_neg (by rw [h1]; decide), if_neg (by rw [fldI_of h2]; decide), if_neg (by rw [h3]; decide), if_neg (by omega)]
theorem Nrd.can {d : Int} {c : List UInt8} {l : List Ln} (h : Nrd d c l) : ∀ x ∈ l, canB x = true := fun x hx => (lineI_iff.1 (h.ln x hx)).2.2
theorem Nrd.of {d : Int} {c : List UInt8} {l : List Ln} (h : Nrd d c l) : NormOf l (nrmL l) := nrmL_of l h.can
theorem Vld.nrm {d : Int} {c : List UInt8} {l : List Ln} (h : Vld d c l) : nrmL l = l := nrmL_self h.ord fun x hx => ⟨h.can x hx, (h.ln x hx).2⟩
theorem Vld.nrd {d : Int} {c : List UInt8} {l : List Ln} (h : Vld d c l) : Nrd d c l := ⟨h.head, fun x hx => (h.ln x hx).1, h.bal, by rw [h.nrm]; exact h.top⟩
theorem nrm_key {l out : List Ln} (h : NormOf l out) {z : Ln} (hz : z ∈ out) : ∃ x ∈ l, key x = key z := by
  by_cases e : ∃ x ∈ l, key x = key z
  · exact e
  · exact absurd (tot_none fun x hx ek => e ⟨x, hx, ek⟩) ((h.mem z).1 hz).2
theorem Nrd.nln {d : Int} {c : List UInt8} {l : List Ln} (h : Nrd d c l) : ∀ z ∈ nrmL l, lineI z = 0 ∧ z.2.2 ≠ [] := fun z hz => by
  obtain ⟨x, hx, e⟩ := nrm_key h.of hz
  obtain ⟨h1, h2, _⟩ := lineI_iff.1 (h.ln x hx)
  have h3 := h.of.amt z hz
  simp only [key, Prod.mk.injEq] at e
  exact ⟨lineI_iff.2 ⟨by rw [← e.1]; exact h1, by rw [← e.2]; exact h2, h3.1⟩, h3.2⟩
theorem Nrd.self {d : Int} {c : List UInt8} {l : List Ln} (h : Nrd d c l) : nrmL (nrmL l) = nrmL l := nrmL_self h.of.ord h.of.amt
theorem Nrd.again {d : Int} {c : List UInt8} {l : List Ln} (h : Nrd d c l) : Nrd d c (nrmL l) :=
  ⟨h.head, fun z hz => (h.nln z hz).1, by rw [balB_of_tot h.of.tot]; exact h.bal, by rw [h.self]; exact h.top⟩
theorem Nrd.vld {d : Int} {c : List UInt8} {l : List Ln} (h : Nrd d c l) (h0 : 0 < (nrmL l).length) : Vld d c (nrmL l) :=
  ⟨h.head, h0, h.top, h.nln, h.of.ord, by rw [balB_of_tot h.of.tot]; exact h.bal⟩
/-- a list with the same sums, whose lines are well formed, has the same normal form -/
theorem Nrd.same {d : Int} {c : List UInt8} {l m : List Ln} (h : Nrd d c l) (hm : ∀ x ∈ m, lineI x = 0) (ht : ∀ k, tot m k = tot l k) : Nrd d c m ∧ nrmL m = nrmL l := by
  have e := nrmL_tot (fun x hx => (lineI_iff.1 (hm x hx)).2.2) h.can ht
  exact ⟨⟨h.head, hm, by rw [balB_of_tot ht]; exact h.bal, by rw [e]; exact h.top⟩, e⟩
/-! reversals -/
theorem canB_t {a b : List UInt8} {v : Int} : canB (a, b, txt v) = true := by
  unfold canB can
  rw [val_txt]
  exact decide_eq_true rfl
theorem negL_key (x : Ln) : key (negL x) = key x := rfl
theorem negL_val (x : Ln) : val (negL x).2.2 = - val x.2.2 := val_txt _
theorem negL_twice {x : Ln} (h : canB x = true) : negL (negL x) = x := by
  unfold negL
  rw [val_txt, Int.neg_neg, ← canB_txt h]
theorem Vld.neg {d : Int} {c : List UInt8} {l : List Ln} (h : Vld d c l) : Vld d c (l.map negL) := by
  refine ⟨h.head, by rw [List.length_map]; exact h.pos, by rw [List.length_map]; exact h.top, fun z hz => ?_, ?_, ?_⟩
  · obtain ⟨x, hx, rfl⟩ := List.mem_map.1 hz
    obtain ⟨h1, h2, _⟩ := lineI_iff.1 (h.ln x hx).1
    refine ⟨lineI_iff.2 ⟨h1, h2, canB_t⟩, fun e => ?_⟩
    have := h.ne hx
    have := txt_nil.1 e
    omega
  · exact List.Pairwise.map negL (fun a b h => h) h.ord
  · rw [balB_iff]
    intro q
    have := curT_opp l q
    have h2 := balB_iff.1 h.bal q
    show curT (l.map oppL) q = 0
    omega
theorem Vld.twice {d : Int} {c : List UInt8} {l : List Ln} (h : Vld d c l) : (l.map negL).map negL = l := by
  rw [List.map_map]
  conv => rhs; rw [← List.map_id l]
  exact List.map_congr_left fun x hx => negL_twice (h.can x hx)
theorem Vld.both {d : Int} {c : List UInt8} {l : List Ln} (h : Vld d c l) : Nrd d c (l ++ l.map negL) ∧ nrmL (l ++ l.map negL) = [] := by
  have hl : ∀ x ∈ l ++ l.map negL, lineI x = 0 := fun x hx => by
    rcases List.mem_append.1 hx with e | e
    · exact (h.ln x e).1
    · exact (h.neg.ln x e).1
  have ht : ∀ k, tot (l ++ l.map negL) k = tot [] k := fun k => by
    have := tot_opp l k
    rw [tot_append, tot_nil]
    show tot l k + tot (l.map oppL) k = 0
    omega
  have e : nrmL (l ++ l.map negL) = [] := by
    rw [nrmL_tot (m := []) (fun x hx => (lineI_iff.1 (hl x hx)).2.2) (fun x hx => (List.not_mem_nil hx).elim) ht]; rfl
  exact ⟨⟨h.head, hl, by rw [balB_of_tot ht]; rfl, by rw [e]; decide⟩, e⟩
theorem Vld.opp {d : Int} {c : List UInt8} {l : List Ln} (h : Vld d c l) {x : Ln} (hx : x ∈ l) : Num.tot (l.map negL) (key x) = - val x.2.2 := by
  have := tot_opp l (key x)
  rw [tot_mem h.ord.keys hx] at this
  exact this
theorem neg_len {c : List UInt8} {l : List Ln} (h : Fit c l) : ∀ z ∈ l.map negL, z.2.2.length ≤ 14 := fun z hz => by
  obtain ⟨x, hx, rfl⟩ := List.mem_map.1 hz
  have h1 := val_bd x.2.2
  have h2 : 10 ^ x.2.2.length ≤ 10 ^ 13 := Nat.pow_le_pow_right (by omega) (h.ln x hx).2.2
  have := txt_bd (v := - val x.2.2) (k := 13) (by omega)
  exact this
theorem nrm_len {c : List UInt8} {l : List Ln} (h : Fit c l) : ∀ z ∈ nrmL l, z.2.2.length ≤ 20 := fun z hz => by
  have h1 := (nrmL_amk l (fun x hx => (h.ln x hx).2.2) l.length (Nat.le_refl _)).2
  rw [List.take_length] at h1
  exact amk_100 (h1 z hz) (by have := h.len; omega)
/-! the order -/
theorem cmpE_ne_rev {d : Int} {c : List UInt8} {l : List Ln} (h : Vld d c l) : cmpE (d, c, l) (d, c, l.map negL) ≠ 0 := by
  intro e
  have e1 := (cmpE_zero (a := (d, c, l)) (b := (d, c, l.map negL)) h.all h.neg.all).1 e
  have e2 : l = l.map negL := congrArg (fun q : En => q.2.2) e1
  obtain ⟨x, hx⟩ := List.exists_mem_of_length_pos h.pos
  have h1 := h.opp hx
  rw [← e2, tot_mem h.ord.keys hx] at h1
  have := h.ne hx
  omega
theorem cmp3 {x y z : En} : ¬ (cmpE x y ≤ 0 ∧ cmpE y z ≤ 0 ∧ min (cmpE x y) (cmpE y z) < cmpE x z) ∧ ¬ (0 ≤ cmpE x y ∧ 0 ≤ cmpE y z ∧ cmpE x z < max (cmpE x y) (cmpE y z)) := by
  have hc := cmpE_cmp
  have r1 := hc.rng x y
  have r2 := hc.rng y z
  have r3 := hc.rng x z
  have e1 := hc.eqv x y z
  have e2 := hc.eqv' y z x
  have t1 := hc.tr x y z
  have t2 := hc.ge x y z
  constructor
  · rintro ⟨h1, h2, h3⟩
    rcases r1 with r1 | r1 | r1 <;> rcases r2 with r2 | r2 | r2 <;> omega
  · rintro ⟨h1, h2, h3⟩
    rcases r1 with r1 | r1 | r1 <;> rcases r2 with r2 | r2 | r2 <;> omega
end Go.Proofs.YtejaehmoplohdaaGreatDoor

/- Ledgers, plain: the lines of entries, trial balances, lists of balances. -/
namespace Go.Proofs.YtejaehmoplohdaaGreatDoor
open Go.RowKit Go.Maps Num

/-- the lines of the entries whose day is accepted -/
def flat (l : List En) (p : Int → Bool) : List Ln := l.flatMap fun e => if p e.1 then e.2.2 else []
theorem flat_nil (p : Int → Bool) : flat [] p = [] := rfl
theorem flat_cons (e : En) (l : List En) (p : Int → Bool) : flat (e :: l) p = (if p e.1 then e.2.2 else []) ++ flat l p := rfl
theorem flat_snoc (l : List En) (e : En) (p : Int → Bool) : flat (l ++ [e]) p = flat l p ++ if p e.1 then e.2.2 else [] := by simp [flat]
theorem flat_append (a b : List En) (p : Int → Bool) : flat (a ++ b) p = flat a p ++ flat b p := by simp [flat]
theorem flat_mem {l : List En} {p : Int → Bool} {x : Ln} (h : x ∈ flat l p) : ∃ e ∈ l, p e.1 = true ∧ x ∈ e.2.2 := by
  obtain ⟨e, he, hx⟩ := List.mem_flatMap.1 h
  split at hx
  · rename_i hp; exact ⟨e, he, hp, hx⟩
  · exact (List.not_mem_nil hx).elim
/-- valid entries -/
def OkL (l : List En) : Prop := ∀ e ∈ l, okE e = true
theorem OkL.vld {l : List En} (h : OkL l) {e : En} (he : e ∈ l) : Vld e.1 e.2.1 e.2.2 := chkE_iff.1 (of_decide_eq_true (h e he))
theorem OkL.ln {l : List En} (h : OkL l) (p : Int → Bool) : ∀ x ∈ flat l p, lineI x = 0 := fun x hx => by
  obtain ⟨e, he, _, hx⟩ := flat_mem hx
  exact ((h.vld he).ln x hx).1
theorem OkL.can {l : List En} (h : OkL l) (p : Int → Bool) : ∀ x ∈ flat l p, canB x = true := fun x hx => (lineI_iff.1 (h.ln p x hx)).2.2
theorem OkL.of {l : List En} (h : OkL l) (p : Int → Bool) : NormOf (flat l p) (nrmL (flat l p)) := nrmL_of _ (h.can p)
theorem OkL.cur {l : List En} (h : OkL l) (p : Int → Bool) (c : List UInt8) : curT (flat l p) c = 0 := by
  induction l with
  | nil => rfl
  | cons e r ih =>
    rw [flat_cons, curT_append, ih fun x hx => h x (List.mem_cons_of_mem _ hx)]
    split
    · rw [balB_iff.1 (h.vld (e := e) (by simp)).bal c]; rfl
    · rfl
theorem OkL.tail {e : En} {l : List En} (h : OkL (e :: l)) : OkL l := fun x hx => h x (List.mem_cons_of_mem _ hx)
/-- a list of balances, as it is checked -/
def listB (l : List Ln) : Bool := decide (chkLs none l = 0)
theorem listB_iff {l : List Ln} : listB l = true ↔ (∀ x ∈ l, lineI x = 0 ∧ x.2.2 ≠ []) ∧ OrdL l := by
  unfold listB
  rw [decide_eq_true_iff]
  exact ⟨fun h => ⟨chkLs_zero h, (chkLs_ord h).1⟩, fun h => chkLs_of h.1 h.2 fun q e => by cases e⟩
theorem norm_lineI {ls out : List Ln} (hn : NormOf ls out) (hl : ∀ x ∈ ls, lineI x = 0) : ∀ z ∈ out, lineI z = 0 ∧ z.2.2 ≠ [] := fun z hz => by
  obtain ⟨x, hx, e⟩ := nrm_key hn hz
  obtain ⟨h1, h2, _⟩ := lineI_iff.1 (hl x hx)
  have h3 := hn.amt z hz
  simp only [key, Prod.mk.injEq] at e
  exact ⟨lineI_iff.2 ⟨by rw [← e.1]; exact h1, by rw [← e.2]; exact h2, h3.1⟩, h3.2⟩
theorem norm_listB {ls out : List Ln} (hn : NormOf ls out) (hl : ∀ x ∈ ls, lineI x = 0) : listB out = true := listB_iff.2 ⟨norm_lineI hn hl, hn.ord⟩
theorem OkL.list {l : List En} (h : OkL l) (p : Int → Bool) : listB (nrmL (flat l p)) = true := norm_listB (h.of p) (h.ln p)
/-- the amount of a key in a list -/
def balOf (t : List Ln) (k : Ky) : List UInt8 := match t.find? fun b => decide (key b = k) with | some b => b.2.2 | none => []
theorem balOf_norm {ls out : List Ln} (hn : NormOf ls out) (k : Ky) : balOf out k = txt (Num.tot ls k) := by
  unfold balOf
  cases hf : out.find? fun b => decide (key b = k) with
  | some b =>
    have hk : key b = k := by
      have h9 := List.find?_some hf
      exact of_decide_eq_true h9
    have hm := List.mem_of_find?_eq_some hf
    have := ((hn.mem b).1 hm).1
    rw [hk] at this
    exact this
  | none =>
    have hnone : ∀ b ∈ out, key b ≠ k := fun b hb e => by
      have := List.find?_eq_none.1 hf b hb
      rw [decide_eq_true e] at this
      exact this rfl
    have h0 := tot_none hnone
    rw [hn.tot] at h0
    rw [h0, txt_zero]
theorem nrmL_app (a b : List Ln) : nrmL (a ++ b) = b.foldl putL (nrmL a) := by unfold nrmL; rw [List.foldl_append]
/-- the normal form of a list of balances is itself -/
theorem listB_nrm {l : List Ln} (h : listB l = true) : nrmL l = l := by
  obtain ⟨h1, h2⟩ := listB_iff.1 h
  exact nrmL_self h2 fun x hx => ⟨(lineI_iff.1 (h1 x hx).1).2.2, (h1 x hx).2⟩
theorem listB_of {l : List Ln} (h : listB l = true) : NormOf l l := by
  have h1 := nrmL_of l fun x hx => (lineI_iff.1 ((listB_iff.1 h).1 x hx).1).2.2
  rwa [listB_nrm h] at h1
theorem listB_can {l : List Ln} (h : listB l = true) : ∀ x ∈ l, canB x = true := fun x hx => (lineI_iff.1 ((listB_iff.1 h).1 x hx).1).2.2
/-- a list less another one -/
def lessB (a b : List Ln) : List Ln := nrmL (a ++ b.map negL)
theorem lessB_put {a b : List Ln} (ha : listB a = true) : lessB a b = (b.map negL).foldl putL a := by unfold lessB; rw [nrmL_app, listB_nrm ha]
theorem negL_ln {b : List Ln} (h : ∀ x ∈ b, lineI x = 0) : ∀ x ∈ b.map negL, lineI x = 0 := fun z hz => by
  obtain ⟨x, hx, rfl⟩ := List.mem_map.1 hz
  obtain ⟨h1, h2, _⟩ := lineI_iff.1 (h x hx)
  exact lineI_iff.2 ⟨h1, h2, canB_t⟩
theorem tot_neg (b : List Ln) (k : Ky) : tot (b.map negL) k = - tot b k := tot_opp b k
theorem less_of {a b : List Ln} (ha : ∀ x ∈ a, canB x = true) : NormOf (a ++ b.map negL) (lessB a b) := nrmL_of _ fun x hx => by
  rcases List.mem_append.1 hx with h | h
  · exact ha x h
  · obtain ⟨y, _, rfl⟩ := List.mem_map.1 h
    exact canB_t
theorem less_tot {a b : List Ln} (ha : ∀ x ∈ a, canB x = true) (k : Ky) : tot (lessB a b) k = tot a k - tot b k := by
  rw [(less_of ha).tot, tot_append, tot_neg]; omega
/-- lists with the same sums are the same -/
theorem listB_ext {a b : List Ln} (ha : listB a = true) (hb : listB b = true) (h : ∀ k, tot a k = tot b k) : a = b := by
  rw [← listB_nrm ha, ← listB_nrm hb]
  exact nrmL_tot (listB_can ha) (listB_can hb) h
end Go.Proofs.YtejaehmoplohdaaGreatDoor

/- The ledger's sums: contract of list. -/
namespace Go.Proofs.YtejaehmoplohdaaGreatDoor
open Go.RowKit Go.Maps Num

/-- lists of balances -/
abbrev rowB : Row Ln := ⟨22, 38, .agg #[.string ⟨#[]⟩, .string ⟨#[]⟩, .string ⟨#[]⟩], 3, 48, LV⟩
theorem rowB_ok : rowB.Ok where
  hS := Tryz.underlying22
  info := by kernel_rfl
  zc := rfl
  k0 := by decide
  b1 := by decide
  hk _ := rfl
  h1 x v hv := by
    simp only [LV, List.mem_cons, List.not_mem_nil, or_false] at hv
    rcases hv with rfl | rfl | rfl <;> rfl
/-- a list of balances is returned, of the call's own -/
def ListP (l : List Ln) (w : World) (e : Ending) (w' : World) : Prop := ∃ v, e = .returned v ∧ rowB.Own w.heap.size w' v l ∧ Below w.heap.size w w'
/-- the loop: the rows of the keys so far -/
structure LstR (L : List Ln) (m : List Ky) (w w6 : World) (vK : Value) (bm j : Nat) (v : Value) (W : World) : Prop where
  own : rowB.Own w6.heap.size W v (rowsK L (m.take j))
  keys : rowK.Own w.heap.size W vK m
  kb : ∀ g, vK.ownBlock = some g → g < w6.heap.size
  map : NmR L bm L.length W
  bel : Below w.heap.size w W
  sz : w6.heap.size ≤ W.heap.size
theorem LstR.alloc {L : List Ln} {m : List Ky} {w w6 : World} {vK : Value} {bm j : Nat} {v : Value} {W : World} (h : LstR L m w w6 vK bm j v W) (o : Obj) : LstR L m w w6 vK bm j v (W.alloc o) :=
  ⟨h.own.alloc o, h.keys.alloc o, h.kb, h.map.kept (World.grownBy_alloc W o none) (by simp), h.bel.alloc h.bel.size o, by have := h.sz; simp; omega⟩
theorem LstR.skip {L : List Ln} {m : List Ky} {w w6 : World} {vK : Value} {bm j : Nat} {v : Value} {W : World} (h : LstR L m w w6 vK bm j v W) (hj : rowsK L (m.take (j + 1)) = rowsK L (m.take j)) : LstR L m w w6 vK bm (j + 1) v W :=
  ⟨by rw [hj]; exact h.own, h.keys, h.kb, h.map, h.bel, h.sz⟩
theorem LstR.step {L : List Ln} {m : List Ky} {w w6 : World} {vK : Value} {bm j : Nat} {v v' : Value} {W W' : World} {x : Ln} (h : LstR L m w w6 vK bm j v W) (h6 : w.heap.size ≤ w6.heap.size) (hbm : bm < w.heap.size)
    (hown : rowB.Own w6.heap.size W' v' (rowsK L (m.take j) ++ [x])) (hg : W.grownBy W' v.ownBlock) (hj : rowsK L (m.take (j + 1)) = rowsK L (m.take j) ++ [x]) : LstR L m w w6 vK bm (j + 1) v' W' := by
  have hv : ∀ g, v.ownBlock = some g → w6.heap.size ≤ g := fun g e => (h.own.own g e).1
  refine ⟨by rw [hj]; exact hown, h.keys.kept' hg ?_, h.kb, h.map.kept hg (fun e => by have := hv _ e.symm; omega), below_own h.bel (Nat.le_refl _) hg (fun g e => by have := hv g e; omega), Nat.le_trans h.sz hg.size⟩
  cases hk : vK.ownBlock with
  | none => exact .inl rfl
  | some g => exact .inr (fun e => by have := hv g e.symm; have := h.kb g hk; omega)
theorem step_append1dh {α : Type} {R : Row α} (ok : R.Ok) {ops : Array Oper} {o : Oper} {a : Act} {K : Act → World → Prop} {Q : Exit → Act → World → Prop} {E : Prop} (hgd : o.guard = none) (s t : Operand)
    (ho : o.op = .call { callee := .builtin .append, args := #[s, t], argTypes := #[R.S, R.S] })
    (B : Nat) (v : Value) (ns : List α) (w : World) (H : Nat) (hH : w.heap.size = H) (x : α) (cs : Array Value) (E' : TypeId) (hcs : cs = (R.enc x).toArray) (hE : E' = R.E) (hs : a.eval s = v) (hown : R.Own B w v ns) (hx : a.eval t = .slice (some ⟨H, 0, none⟩) 1 1)
    (hB : B ≤ w.heap.size) (hn : ns.length + 1 ≤ 1000000)
    (h : ∀ v' w', R.Own B w' v' (ns ++ [x]) → w.grownBy w' v.ownBlock → (v'.ownBlock = v.ownBlock ∨ ∃ g, v'.ownBlock = some g ∧ w.heap.size ≤ g) → K (a.put o.dst v') w') :
    if Region.wanted o (yielded ops a.tmps) = true then Oper.wp Tryz.prog o a (w.alloc (.cells cs E')).drew K Q else E := by
  subst hH
  exact Row.step_append1d ok hgd s t ho B v ns w x cs E' hcs hE hs hown hx hB hn h
set_option maxRecDepth 100000 in
set_option maxHeartbeats 8000000 in
theorem list_s (bm : Nat) (L : List Ln) (w : World) (h : SumM L bm w) (hsm : ∀ x ∈ L, Sml x) (hL : L.length ≤ 10000) (hcan : ∀ x ∈ L, canB x = true) :
    Calls Tryz.prog 88 #[.map (some bm)] w (ListP (nrmL L) w) := by
  have hbm := NmR.lt h
  have HP := Lib.hid (fun W v (h1 : rowB.Own w.heap.size W v (nrmL L)) (h2 : Below w.heap.size w W) => (show ListP (nrmL L) w (.returned v) W from ⟨v, rfl, h1, h2⟩))
  have HN := Lib.hid h
  have HS := Lib.hid hsm
  have HC := Lib.hid hcan
  have hLL := Lib.hid hL
  clear h hsm hcan hL
  generalize ListP (nrmL L) w = Post at *
  go_enter Tryz.func88, Tryz.ntmps88
  go_wp2_with fail
  refine (Keys_any bm _).mono ?_
  rintro e w4 ⟨rfl, hw4⟩
  have hB4 : Below w.heap.size w w4 := by rw [hw4]; exact (Below.refl _ _).alloc (Nat.le_refl _) _
  have hcell4 : w4.cell? ⟨w.heap.size, 0, none⟩ = some (.map (some bm)) := by rw [hw4]; go_simp
  have hsz4 : w4.heap.size = w.heap.size + 1 := by rw [hw4]; simp
  have HN4 := Lib.hid (HN.out.below hB4)
  obtain ⟨f, ks, ⟨D, hown, him, hat, hhas⟩, hf, hks⟩ := HN4.out
  have hsd := hown.size_le
  have hsk := Lib.hid (SortedK_any w.heap.size bm L.length D w4 (by omega) hcell4 hown (by have := hLL.out; omega))
  have hkeys := Lib.hid (fun m (hm : KeysD D m) hs => keys_of HS.out (D := D) (ks := ks) (m := m) (fun s => by
    have := hks s
    rwa [List.take_length] at this) hhas hm hs)
  have HSD := Lib.hid hsd
  have HB4 := Lib.hid hB4
  have HSZ4 := Lib.hid hsz4
  clear hw4 hB4 hcell4 hown him hat hhas hf hks hsd hsz4 HN
  go_wp2_with fail
  refine hsk.out.mono ?_
  rintro e w6 ⟨vK, m, rfl, hkd, hsr, hoK, hb6⟩
  obtain ⟨hord, hmem, hsmk⟩ := hkeys.out m hkd hsr
  have hml : m.length ≤ 10000 := Nat.le_trans hkd.2.2.1 (Nat.le_trans HSD.out hLL.out)
  have HRN := Lib.hid (show rowsK L m = nrmL L from rowsK_nrm HC.out hord hmem)
  have HSMK := Lib.hid hsmk
  have HMEM := Lib.hid hmem
  have hs46 := hb6.size
  rw [HSZ4.out] at hs46
  have R2 := Lib.hid (show LstR L m w w6 vK bm 0 (.slice none 0 0) w6 from ⟨Row.Own.nil _ _, hoK.mono (by rw [HSZ4.out]; omega), fun g e => (hoK.own g e).2, HN4.out.below hb6, HB4.out.trans (hb6.mono HB4.out.size), Nat.le_refl _⟩)
  obtain ⟨AK, cK, rfl, _⟩ := hoK.rds
  clear hsk hkeys hkd hsr hord hmem hsmk hoK hb6 HN4 HB4 HSD
  obtain ⟨q, hq⟩ : ∃ q, m.length = q := ⟨_, rfl⟩
  have HQ := Lib.hid hq
  rw [hq] at R2 hml ⊢
  clear hq
  go_wp2_with fail
  go_loopw [10, 5, 3] (fun i _ v wr => ∃ j : Nat, j ≤ q ∧ i = .int .i64 (j : Int) ∧ Hid (LstR L m w w6 (.slice AK q cK) bm j v wr)) (fun i _ _ _ => q - (intOf i).toNat)
  case atStart => exact ⟨0, by omega, rfl, R2⟩
  case round =>
    clear R2
    obtain ⟨j, hj, rfl, hR⟩ := hrel
    by_cases hlt : j < q
    · have hjm : j < m.length := by rw [HQ.out]; exact hlt
      obtain ⟨A', c', e', hrd⟩ := hR.out.keys.rds
      injection e' with e1 e2 e3
      subst e1 e3
      rw [HQ.out] at hrd
      clear e2
      obtain ⟨b1, o1, rfl, hb1, _⟩ := hrd.at_ (by omega)
      have r0 := hrd.cell rowK_ok ([], []) j 0 _ hlt rfl
      have r1 := hrd.cell rowK_ok ([], []) j 1 _ hlt rfl
      have hmemq : m.getD j ([], []) ∈ m := by
        rw [List.getD_eq_getElem?_getD, List.getElem?_eq_getElem hjm]; exact List.getElem_mem hjm
      have hsq := HSMK.out _ hmemq
      have htk := take_ky m j hjm
      have hsn := Lib.hid (rowsK_snoc L (m.take j) (m.getD j ([], [])))
      rw [← htk] at hsn
      have hji : (j : Int) < (q : Int) := by omega
      generalize m.getD j ([], []) = ky at *
      obtain ⟨ka, kc⟩ := ky
      simp only [Nat.add_zero] at r0 r1
      have hR5 := Lib.hid (hR.out.alloc (.cells #[.string ⟨ka.toArray⟩, .string ⟨kc.toArray⟩] 123))
      have hlk := hR5.out.map.look ka kc hsq
      rw [List.take_length] at hlk
      have hlk2 : (Instr.lookup 120 (.map (some bm)) (.agg #[.string ⟨ka.toArray⟩, .string ⟨kc.toArray⟩]) false).run Tryz.prog (wr.alloc (.cells #[.string ⟨ka.toArray⟩, .string ⟨kc.toArray⟩] 123)).drew = .ok (.string ⟨(txt (tot L (ka, kc))).toArray⟩) (wr.alloc (.cells #[.string ⟨ka.toArray⟩, .string ⟨kc.toArray⟩] 123)).drew := by
        have := (NmR.kept hR5.out.map (grown_drewN _ 1 none) (by simp)).look ka kc hsq
        rw [List.take_length] at this
        exact this
      have HSN := Lib.hid hsn.out
      have hlt5 : wr.heap.size < (wr.alloc (.cells #[.string ⟨ka.toArray⟩, .string ⟨kc.toArray⟩] 123)).heap.size := by simp
      have X5 := heap_alloc_new wr (.cells #[.string ⟨ka.toArray⟩, .string ⟨kc.toArray⟩] 123)
      have p0 : (wr.alloc (.cells #[.string ⟨ka.toArray⟩, .string ⟨kc.toArray⟩] 123)).cell? ⟨wr.heap.size, 0, none⟩ = some (.string ⟨ka.toArray⟩) := by rw [cell_of_row _ _ _ _ _ _ X5]; rfl
      have p1 : (wr.alloc (.cells #[.string ⟨ka.toArray⟩, .string ⟨kc.toArray⟩] 123)).cell? ⟨wr.heap.size, 1, none⟩ = some (.string ⟨kc.toArray⟩) := by rw [cell_of_row _ _ _ _ _ _ X5]; rfl
      clear hmemq hsq hsn X5 hrd hR htk hjm
      generalize hvv : txt (tot L (ka, kc)) = av at *
      rcases av with _ | ⟨v0, vr⟩
      · have RR := Lib.hid (hR5.out.skip (by rw [HSN.out, if_pos rfl, List.append_nil]))
        clear hvv p0 p1 hlt5 hlk2
        go_wp2_with fail
        exact ⟨⟨j + 1, by omega, by go_num, RR⟩, by simp [intOf]; omega⟩
      · have hO5 := hR5.out.own
        have HO5 := Lib.hid hO5
        have hlr := Lib.hid (rowsK_len L (m.take j))
        have hmt : (m.take j).length ≤ 10000 := by rw [List.length_take, HQ.out]; omega
        have hsz5 := Lib.hid hR5.out.sz
        have hrj := Lib.hid (show rowsK L (m.take (j + 1)) = rowsK L (m.take j) ++ [(ka, kc, v0 :: vr)] by rw [HSN.out, if_neg (by simp)])
        clear hvv hO5
        go_upto_region 6 with fail
        go_region_law (refine step_append1dh rowB_ok rfl (.tmp 18) (.tmp 27) rfl w6.heap.size _ (rowsK L (m.take j)) (wr.alloc (.cells #[.string ⟨ka.toArray⟩, .string ⟨kc.toArray⟩] 123)) (wr.heap.size + 1) (by simp) (ka, kc, v0 :: vr) _ _ rfl rfl rfl HO5.out rfl hsz5.out (by have := hlr.out; omega) ?_; intro v1 w7 hown1 hg1 hat)
        all_goals (
          have RR := Lib.hid (hR5.out.step (by omega) hbm hown1 hg1 hrj.out)
          clear hown1 hg1 hat
          simp only [Act.put, List.getElem_toArray, List.getElem_cons_succ, List.getElem_cons_zero, List.setIfInBounds_toArray, List.set_cons_succ, List.set_cons_zero]
          go_wp2_with fail
          exact ⟨⟨j + 1, by omega, by go_num, RR⟩, by simp [intOf]; omega⟩)
    · have hjq : j = q := by omega
      subst hjq
      have hji : ¬ (j : Int) < (j : Int) := by omega
      have hO := hR.out.own
      have etk : m.take j = m := List.take_of_length_le (by rw [HQ.out]; exact Nat.le_refl _)
      rw [etk, HRN.out] at hO
      have HO := Lib.hid (Row.Own.mono hO (Nat.le_trans (Nat.le_succ _) hs46))
      have HB := Lib.hid hR.out.bel
      clear etk hO hR
      go_wp2_with fail
      exact HP.out _ _ HO.out HB.out
end Go.Proofs.YtejaehmoplohdaaGreatDoor

/- Contracts of the sorting of entries: insertionSortCmpFunc, pdqsortCmpFunc (12 elements or fewer), SortFunc. -/
namespace Go.Proofs.YtejaehmoplohdaaGreatDoor
open Go.RowKit Go.Maps Num

def cE (p q : RE) : Int := cmpE p.2 q.2
theorem cE_cmp : Cmp cE := cmpE_cmp.pull Prod.snd
theorem getD_mem {α : Type} (x0 : α) (l : List α) (k : Nat) (h : k < l.length) : l.getD k x0 ∈ l := by
  rw [List.getD_eq_getElem?_getD, List.getElem?_eq_getElem h]
  exact List.getElem_mem h
theorem len_any (n : Nat) (hn : n ≤ 12) (w : World) : Calls Tryz.prog 184 #[.int .u64 (n : Int)] w fun e w' => ∃ i : Int, e = .returned (.int .i64 i) ∧ w = w' := by
  have hl := fun W => Any.bits_Len (SlLaysF0.n15.bits (P := Tryz.prog) (ρ := Tryz.laysSortK_ren) { Tryz.laysSortK with }) n W (by omega) (by omega)
  exact Calls.mono (show Calls Tryz.prog 184 #[.int .u64 (n : Int)] w _ from hl w) fun e w' h => ⟨_, h.1, h.2.symm⟩
end Go.Proofs.YtejaehmoplohdaaGreatDoor

/- Contracts of slices.IndexFunc and ContainsFunc at the closure 101: an entry that is not valid (printed by gen_idx.py). -/
namespace Go.Proofs.YtejaehmoplohdaaGreatDoor
open Go.RowKit Go.Maps Num

/-- the entry is not valid -/
def badR (p : RE) : Bool := decide (chkE p.2.1 p.2.2.1 p.2.2.2 ≠ 0)
theorem any_snoc (l : List RE) (k : Nat) (h : k < l.length) : (l.take (k + 1)).any badR = ((l.take k).any badR || badR (l.getD k re0)) := by
  rw [List.take_succ_eq_append_getElem h, List.any_append, List.getD_eq_getElem?_getD, List.getElem?_eq_getElem h]
  simp
theorem any_hit (l : List RE) (k : Nat) (h : k < l.length) (hb : badR (l.getD k re0) = true) : l.any badR = true := List.any_eq_true.2 ⟨_, getD_mem re0 l k h, hb⟩
def IdxP (b : Bool) (w : World) (e : Ending) (w' : World) : Prop := ∃ i : Int, e = .returned (.int .i64 i) ∧ decide (0 ≤ i) = b ∧ Below w.heap.size w w'
end Go.Proofs.YtejaehmoplohdaaGreatDoor

/- Ledgers, plain: what the laws say of trial balances. -/
namespace Go.Proofs.YtejaehmoplohdaaGreatDoor
open Go.RowKit Go.Maps Num

theorem flat_congr {l : List En} {p q : Int → Bool} (h : ∀ e ∈ l, p e.1 = q e.1) : flat l p = flat l q := by
  induction l with
  | nil => rfl
  | cons e r ih => rw [flat_cons, flat_cons, h e (by simp), ih fun x hx => h x (List.mem_cons_of_mem _ hx)]
theorem flat_split {l : List En} {p q r : Int → Bool} (h : ∀ e ∈ l, p e.1 = (q e.1 || r e.1) ∧ (q e.1 && r e.1) = false) (k : Ky) : tot (flat l p) k = tot (flat l q) k + tot (flat l r) k := by
  induction l with
  | nil => rfl
  | cons e m ih =>
    obtain ⟨h1, h2⟩ := h e (by simp)
    rw [flat_cons, flat_cons, flat_cons, tot_append, tot_append, tot_append, ih fun x hx => h x (List.mem_cons_of_mem _ hx), h1]
    cases hq : q e.1 <;> cases hr : r e.1
    · simp [tot_nil]
    · simp [tot_nil]; omega
    · simp [tot_nil]; omega
    · rw [hq, hr] at h2; cases h2
/-- a period: the later day's balances less the earlier day's -/
theorem period {l : List En} (hl : OkL l) {p q r : Int → Bool} (h : ∀ e ∈ l, p e.1 = (q e.1 || r e.1) ∧ (q e.1 && r e.1) = false) : lessB (nrmL (flat l p)) (nrmL (flat l q)) = nrmL (flat l r) := by
  have hp := hl.of p
  have hq := hl.of q
  refine nrmL_tot (fun x hx => ?_) (hl.can r) fun k => ?_
  · rcases List.mem_append.1 hx with h | h
    · exact (hp.amt x h).1
    · obtain ⟨y, _, rfl⟩ := List.mem_map.1 h
      exact canB_t
  · rw [tot_append, tot_neg, hp.tot, hq.tot, flat_split h]; omega
theorem lessB_self {a : List Ln} (ha : listB a = true) : lessB a a = [] := by
  have h := less_of (a := a) (b := a) (listB_can ha)
  have : nrmL (a ++ a.map negL) = nrmL [] := nrmL_tot (fun x hx => by
    rcases List.mem_append.1 hx with h | h
    · exact listB_can ha x h
    · obtain ⟨y, _, rfl⟩ := List.mem_map.1 h
      exact canB_t) (fun x hx => (List.not_mem_nil hx).elim) fun k => by rw [tot_append, tot_neg, tot_nil]; omega
  exact this
theorem lessB_list {a b : List Ln} (ha : listB a = true) (hb : ∀ x ∈ b, lineI x = 0) : listB (lessB a b) = true :=
  norm_listB (less_of (listB_can ha)) fun x hx => by
    rcases List.mem_append.1 hx with h | h
    · exact ((listB_iff.1 ha).1 x h).1
    · exact negL_ln hb x h
theorem listB_ln {a : List Ln} (ha : listB a = true) : ∀ x ∈ a, lineI x = 0 := fun x hx => ((listB_iff.1 ha).1 x hx).1
theorem listB_nil : listB [] = true := by decide
/-- what was subtracted can be added again -/
theorem lessB_back {a b : List Ln} (ha : listB a = true) (hb : listB b = true) : lessB (lessB a b) (lessB [] b) = a := by
  have h1 := lessB_list ha (listB_ln hb)
  have h2 := lessB_list listB_nil (listB_ln hb)
  refine listB_ext (lessB_list h1 (listB_ln h2)) ha fun k => ?_
  rw [less_tot (listB_can h1), less_tot (listB_can ha), less_tot (listB_can listB_nil), tot_nil]
  omega
/-- entries that are reversed -/
def revL (l : List En) : List En := l.map fun e => (e.1, e.2.1, e.2.2.map negL)
theorem revL_ok {l : List En} (h : OkL l) : OkL (revL l) := fun e he => by
  obtain ⟨x, hx, rfl⟩ := List.mem_map.1 he
  exact decide_eq_true (chkE_iff.2 (h.vld hx).neg)
theorem revL_tot (l : List En) (p : Int → Bool) (k : Ky) : tot (flat (revL l) p) k = - tot (flat l p) k := by
  induction l with
  | nil => rfl
  | cons e r ih =>
    have : revL (e :: r) = (e.1, e.2.1, e.2.2.map negL) :: revL r := rfl
    rw [this, flat_cons, flat_cons, tot_append, tot_append, ih]
    simp only
    split
    · rw [tot_neg]; omega
    · simp [tot_nil]
theorem revL_trial {l : List En} (h : OkL l) (p : Int → Bool) : nrmL (flat (revL l) p) = lessB [] (nrmL (flat l p)) := by
  refine listB_ext ((revL_ok h).list p) (lessB_list listB_nil (listB_ln (h.list p))) fun k => ?_
  rw [((revL_ok h).of p).tot, less_tot (listB_can listB_nil), tot_nil, (h.of p).tot, revL_tot]
  omega
theorem okL_append {a b : List En} (ha : OkL a) (hb : OkL b) : OkL (a ++ b) := fun e he => by
  rcases List.mem_append.1 he with h | h
  · exact ha e h
  · exact hb e h
theorem both_trial {l : List En} (h : OkL l) (p : Int → Bool) : nrmL (flat (l ++ revL l) p) = [] := by
  have : nrmL (flat (l ++ revL l) p) = nrmL [] := nrmL_tot ((okL_append h (revL_ok h)).can p) (fun x hx => (List.not_mem_nil hx).elim) fun k => by
    rw [flat_append, tot_append, revL_tot, tot_nil]; omega
  exact this
/-- the amounts of a currency of a trial balance add up to 0 -/
theorem trial_cur {l : List En} (h : OkL l) (p : Int → Bool) (c : List UInt8) : curT (nrmL (flat l p)) c = 0 := by
  rw [curT_of_tot (h.of p).tot c, h.cur]
/-- a line's key is in the trial balance exactly if its balance is not 0 -/
theorem trial_has {l : List En} (h : OkL l) (p : Int → Bool) (k : Ky) : decide (txt (tot (flat l p) k) ≠ []) = (nrmL (flat l p)).any fun b => decide (key b = k) := by
  have hn := h.of p
  rw [Bool.eq_iff_iff, decide_eq_true_iff, List.any_eq_true]
  constructor
  · intro h0
    by_cases e : ∃ b ∈ nrmL (flat l p), key b = k
    · obtain ⟨b, hb, hk⟩ := e
      exact ⟨b, hb, decide_eq_true hk⟩
    · have h1 := tot_none fun b hb hk => e ⟨b, hb, hk⟩
      rw [hn.tot] at h1
      exact absurd (by rw [h1]; exact txt_zero) h0
  · rintro ⟨b, hb, hk⟩ e
    have hk := of_decide_eq_true hk
    subst hk
    have h1 := (hn.mem b).1 hb
    exact h1.2 (txt_nil.1 e)
theorem trial_amt {l : List En} (h : OkL l) (p : Int → Bool) {b : Ln} (hb : b ∈ nrmL (flat l p)) : txt (tot (flat l p) (key b)) = b.2.2 := (((h.of p).mem b).1 hb).1.symm
end Go.Proofs.YtejaehmoplohdaaGreatDoor

/- Contracts of ledger.during at the closures of Trial and Activity, ledger.valid, areEntries (printed by gen_dur.py). -/
namespace Go.Proofs.YtejaehmoplohdaaGreatDoor
open Go.RowKit Go.Maps Num

def valD (d : Int) : Bool := decide (-25567 ≤ d) && decide (d ≤ 84005)
theorem areEn_ok {ps : List RE} : (!ps.any badR) = true ↔ OkL (ps.map Prod.snd) := by
  rw [Bool.not_eq_true', List.any_eq_false]
  constructor
  · intro h e he
    obtain ⟨p, hp, rfl⟩ := List.mem_map.1 he
    have := h p hp
    unfold badR at this
    rw [decide_eq_true_iff] at this
    exact decide_eq_true (Classical.not_not.1 this)
  · intro h p hp hb
    have := of_decide_eq_true (h _ (List.mem_map_of_mem hp))
    unfold badR at hb
    rw [decide_eq_true_iff] at hb
    exact hb this
theorem flat_take (ps : List RE) (k : Nat) (h : k < ps.length) (p : Int → Bool) : flat ((ps.take (k + 1)).map Prod.snd) p = flat ((ps.take k).map Prod.snd) p ++ if p (ps.getD k re0).2.1 then (ps.getD k re0).2.2.2 else [] := by
  rw [List.take_succ_eq_append_getElem h, List.map_append, flat_append, List.getD_eq_getElem?_getD, List.getElem?_eq_getElem h]
  simp [flat]
theorem flatE_len (l : List En) (p : Int → Bool) (h : ∀ e ∈ l, e.2.2.length ≤ 64) : (flat l p).length ≤ 64 * l.length := by
  induction l with
  | nil => simp [flat]
  | cons e r ih =>
    have h1 := h e (by simp)
    have h2 := ih fun x hx => h x (List.mem_cons_of_mem _ hx)
    rw [flat_cons, List.length_append, List.length_cons, Nat.mul_add]
    split
    · omega
    · simp; omega
theorem OkL.len {l : List En} (h : OkL l) : ∀ e ∈ l, e.2.2.length ≤ 64 := fun e he => (chkE_parts (of_decide_eq_true (h e he))).2.2.1
/-- what the loop over the entries keeps -/
structure DurR (w : World) (L : List Ln) (W : World) : Prop where
  map : SumM L w.heap.size W
  bel : Below w.heap.size w W
theorem DurR.next {w W W' : World} {L : List Ln} (h : DurR w L W) (hb : Below W.heap.size W W') : DurR w L W' := ⟨h.map.below hb, below_next h.bel hb ⟨rfl, rfl, rfl, rfl⟩⟩
theorem DurR.al {w W : World} {L : List Ln} (h : DurR w L W) (o : Obj) : DurR w L (W.alloc o) := h.next ((Below.refl _ W).alloc (Nat.le_refl _) o)
theorem DurR.add {w W W' : World} {L L' : List Ln} (h : DurR w L W) (h1 : SumM L' w.heap.size W') (hg : W.grownBy W' (some w.heap.size)) : DurR w L' W' := ⟨h1, below_grown h.bel (Nat.le_refl _) hg (Nat.le_refl _)⟩
theorem DurR.start (w : World) : DurR w [] (w.alloc (.map #[] 0)) := ⟨SumM.zero w, (Below.refl _ w).alloc (Nat.le_refl _) _⟩

end Go.Proofs.YtejaehmoplohdaaGreatDoor

/- Contracts of ledger.Trial, Activity, Balance. -/
namespace Go.Proofs.YtejaehmoplohdaaGreatDoor
open Go.RowKit Go.Maps Num

/-- a list and a code are returned -/
def ListC (l : List Ln) (i : Int) (w : World) (e : Ending) (w' : World) : Prop := ∃ v, e = .returned (.tuple #[v, .int .i64 i]) ∧ rowB.Own w.heap.size w' v l ∧ Below w.heap.size w w'
def trL (es : List En) (d : Int) : List Ln := if es.all okE ∧ valD d = true then nrmL (flat es fun x => decide (x ≤ d)) else []
def trI (es : List En) (d : Int) : Int := if es.all okE = false then 1 else if valD d = false then 13 else 0
theorem bad_all (ps : List RE) : (!ps.any badR) = (ps.map Prod.snd).all okE := by
  induction ps with
  | nil => rfl
  | cons p r ih =>
    rw [List.any_cons, Bool.not_or, ih, List.map_cons, List.all_cons]
    congr 1
    unfold badR okE
    rw [decide_not, Bool.not_not]
theorem okL_all {es : List En} : es.all okE = true ↔ OkL es := List.all_eq_true
end Go.Proofs.YtejaehmoplohdaaGreatDoor

/- Contracts of ledger.Activity, Balance. -/
namespace Go.Proofs.YtejaehmoplohdaaGreatDoor
open Go.RowKit Go.Maps Num

def acB (f t x : Int) : Bool := decide (f ≤ x) && decide (x < t)
def acI (es : List En) (f t : Int) : Int := if es.all okE = false then 1 else if (valD f && valD t) = false then 13 else if t < f then 8 else 0
def acL (es : List En) (f t : Int) : List Ln := if acI es f t = 0 then nrmL (flat es (acB f t)) else []
theorem bal_hit {t : List Ln} {k : Ky} {j : Nat} (h : ∀ b ∈ t.take j, key b ≠ k) (hj : j < t.length) (hk : key (t.getD j ln0) = k) : balOf t k = (t.getD j ln0).2.2 := by
  unfold balOf
  have e : t = t.take j ++ t.getD j ln0 :: t.drop (j + 1) := by
    conv => lhs; rw [← List.take_append_drop j t, drop_ln t j hj]
  have h1 : (t.take j).find? (fun b => decide (key b = k)) = none := List.find?_eq_none.2 fun b hb e => h b hb (of_decide_eq_true e)
  generalize t.getD j ln0 = x at *
  rw [e, List.find?_append, h1, List.find?_cons_of_pos (by exact decide_eq_true hk)]
  rfl
theorem bal_none {t : List Ln} {k : Ky} (h : ∀ b ∈ t, key b ≠ k) : balOf t k = [] := by
  unfold balOf
  rw [List.find?_eq_none.2 fun b hb e => h b hb (of_decide_eq_true e)]
/-- a string and a code are returned -/
def StrC (s : List UInt8) (i : Int) (w : World) (e : Ending) (w' : World) : Prop := e = .returned (.tuple #[.string ⟨s.toArray⟩, .int .i64 i]) ∧ Below w.heap.size w w'
theorem key_snoc {t : List Ln} {k : Ky} {j : Nat} (hj : j < t.length) (h : ∀ b ∈ t.take j, key b ≠ k) (hk : key (t.getD j ln0) ≠ k) : ∀ b ∈ t.take (j + 1), key b ≠ k := fun b hb => by
  rw [take_ln t j hj] at hb
  rcases List.mem_append.1 hb with h' | h'
  · exact h b h'
  · rw [List.mem_singleton.1 h']; exact hk
theorem putL_len (l : List Ln) (x : Ln) : (putL l x).length ≤ l.length + 1 := by
  induction l with
  | nil => unfold putL; split <;> simp
  | cons y r ih =>
    unfold putL
    split
    · simp only [List.length_cons]; omega
    · split
      · split <;> simp only [List.length_cons] <;> omega
      · split <;> simp only [List.length_cons] <;> omega
theorem fold_len (m l : List Ln) : (m.foldl putL l).length ≤ l.length + m.length := by
  induction m generalizing l with
  | nil => simp
  | cons x r ih =>
    have h1 := ih (putL l x)
    have h2 := putL_len l x
    rw [List.foldl_cons, List.length_cons]
    omega
theorem nrmL_len (l : List Ln) : (nrmL l).length ≤ l.length := by
  have := fold_len l []
  rw [List.length_nil, Nat.zero_add] at this
  exact this
theorem tr_len {es : List En} {d : Int} (hn : es.length ≤ 20) : (trL es d).length ≤ 1280 := by
  unfold trL
  split
  · rename_i h
    have h1 := nrmL_len (flat es fun x => decide (x ≤ d))
    have h2 := flatE_len es (fun x => decide (x ≤ d)) (okL_all.1 h.1).len
    omega
  · simp
end Go.Proofs.YtejaehmoplohdaaGreatDoor

/- Contract of ledger.isList. -/
namespace Go.Proofs.YtejaehmoplohdaaGreatDoor
open Go.RowKit Go.Maps Num

set_option maxRecDepth 100000 in
set_option maxHeartbeats 2000000 in
theorem kcmpL_any (a b : Ky) (w : World) : Calls Tryz.prog 118 #[.agg (keyV a), .agg (keyV b)] w (IntPost (cmpKy a b) w) := by
  obtain ⟨a1, a2⟩ := a
  obtain ⟨b1, b2⟩ := b
  have hv := Lib.hid (show cmpKy (a1, a2) (b1, b2) = orI [cmpS a1 b1, cmpS a2 b2] by rw [orI2]; rfl)
  unfold keyV
  simp only
  go_enter Tryz.func118, Tryz.ntmps118
  go_wp2_with fail
  have hB0 : Below w.heap.size w ((w.alloc (.cells #[.string ⟨a1.toArray⟩, .string ⟨a2.toArray⟩] 123)).alloc (.cells #[.string ⟨b1.toArray⟩, .string ⟨b2.toArray⟩] 123)) := ((Below.refl _ w).alloc (Nat.le_refl _) _).alloc (by simp) _
  have x0 : ((w.alloc (.cells #[.string ⟨a1.toArray⟩, .string ⟨a2.toArray⟩] 123)).alloc (.cells #[.string ⟨b1.toArray⟩, .string ⟨b2.toArray⟩] 123)).cell? ⟨w.heap.size, 0, none⟩ = some (.string ⟨a1.toArray⟩) := by go_simp
  have x1 : ((w.alloc (.cells #[.string ⟨a1.toArray⟩, .string ⟨a2.toArray⟩] 123)).alloc (.cells #[.string ⟨b1.toArray⟩, .string ⟨b2.toArray⟩] 123)).cell? ⟨w.heap.size, 1, none⟩ = some (.string ⟨a2.toArray⟩) := by go_simp
  have y0 : ((w.alloc (.cells #[.string ⟨a1.toArray⟩, .string ⟨a2.toArray⟩] 123)).alloc (.cells #[.string ⟨b1.toArray⟩, .string ⟨b2.toArray⟩] 123)).cell? ⟨w.heap.size + 1, 0, none⟩ = some (.string ⟨b1.toArray⟩) := by go_simp
  have y1 : ((w.alloc (.cells #[.string ⟨a1.toArray⟩, .string ⟨a2.toArray⟩] 123)).alloc (.cells #[.string ⟨b1.toArray⟩, .string ⟨b2.toArray⟩] 123)).cell? ⟨w.heap.size + 1, 1, none⟩ = some (.string ⟨b2.toArray⟩) := by go_simp
  have hsz : ((w.alloc (.cells #[.string ⟨a1.toArray⟩, .string ⟨a2.toArray⟩] 123)).alloc (.cells #[.string ⟨b1.toArray⟩, .string ⟨b2.toArray⟩] 123)).heap.size = w.heap.size + 2 := by simp
  generalize ((w.alloc (.cells #[.string ⟨a1.toArray⟩, .string ⟨a2.toArray⟩] 123)).alloc (.cells #[.string ⟨b1.toArray⟩, .string ⟨b2.toArray⟩] 123)) = W at *
  have HB := Lib.hid hB0
  have HSZ := Lib.hid hsz
  clear hsz hB0
  have ne0 := World.new_ne W ⟨w.heap.size, 0, none⟩ x0
  have ne1 := World.new_ne W ⟨w.heap.size, 1, none⟩ x1
  have ne2 := World.new_ne W ⟨w.heap.size + 1, 0, none⟩ y0
  have ne3 := World.new_ne W ⟨w.heap.size + 1, 1, none⟩ y1
  go_region_held3 (fun w' => w'.cell? ⟨w.heap.size, 0, none⟩ = some (.string ⟨a1.toArray⟩) ∧ w'.cell? ⟨w.heap.size, 1, none⟩ = some (.string ⟨a2.toArray⟩) ∧ w'.cell? ⟨w.heap.size + 1, 0, none⟩ = some (.string ⟨b1.toArray⟩) ∧ w'.cell? ⟨w.heap.size + 1, 1, none⟩ = some (.string ⟨b2.toArray⟩)) (go_keep)
    (first
      | (go_at_call 158; refine (cmpS_any _ _ _).mono ?_; rintro e w' ⟨rfl, rfl⟩)
      | (go_at_call 157; refine (Or_any _ _ _ [cmpS a1 b1, cmpS a2 b2] _ (ints2d _ _ _)).mono ?_; rintro e w' ⟨rfl, rfl⟩))
  go_wp2_with fail
  go_ret
  exact ⟨by rw [hv.out]; rfl, below_dr (HB.out.trans ((Below.refl _ _).alloc HB.out.size _)) 1⟩
theorem kcmpL3 (a1 a2 b1 b2 : List UInt8) (w : World) : Calls Tryz.prog 118 #[.agg #[.string ⟨a1.toArray⟩, .string ⟨a2.toArray⟩], .agg #[.string ⟨b1.toArray⟩, .string ⟨b2.toArray⟩]] w fun e w' => e = .returned (.int .i64 (cmpKy (a1, a2) (b1, b2))) ∧ Below w.heap.size w w' := kcmpL_any (a1, a2) (b1, b2) w
theorem accCheck_l (a : List UInt8) (w : World) (h : a.length ≤ 1000) (hm : ML w) : Calls Tryz.prog 117 #[.string ⟨a.toArray⟩] w (IntPost (if codeB a then 0 else 3) w) :=
  AccCheck_any ⟨a.toArray⟩ w (by show a.toArray.size < _; rw [List.size_toArray]; omega) hm
theorem lineI_parts {a cu m : List UInt8} (h1 : curB cu = true) (h2 : chkI m = 0) (h3 : codeB a = true) : lineI (a, cu, m) = 0 := by
  unfold lineI
  rw [if_pos h3, if_pos h1]; exact h2
theorem lineI_cur {a cu m : List UInt8} (h : (if curB cu = false then (23 : Int) else chkI m) ≠ 0) : lineI (a, cu, m) ≠ 0 := by
  unfold lineI
  split
  · split
    · rename_i h1
      simp only at h1 ⊢
      rw [if_neg (by rw [h1]; decide)] at h; exact h
    · decide
  · decide
theorem lineI_acc {a cu m : List UInt8} (h : codeB a = false) : lineI (a, cu, m) ≠ 0 := by
  unfold lineI
  rw [if_neg (by rw [h]; decide)]; decide
theorem chk_ok {cu m : List UInt8} (h : (if curB cu = false then (23 : Int) else chkI m) = 0) : curB cu = true ∧ chkI m = 0 := by
  split at h
  · omega
  · rename_i h1; exact ⟨by simpa using h1, h⟩
/-- what the loop has seen -/
def LisR (w : World) (l : List Ln) (k : Nat) (W : World) : Prop := chkLs none l = chkLs (prevAt l k) (l.drop k) ∧ Below w.heap.size w W
set_option maxRecDepth 100000 in
set_option maxHeartbeats 8000000 in
theorem isList_any (A : Option Addr) (n c : Nat) (l : List Ln) (w : World) (hl : rowB.Rds w A n c l) (hs : ∀ x ∈ l, Sml x) (hn : n ≤ 10000) (ht : Tab w) (hm : ML w) :
    Calls Tryz.prog 86 #[.slice A n c] w (BoolPost (listB l) w) := by
  have ll := Lib.hid hl.len
  have L1 := Lib.hid hl
  have HS := Lib.hid hs
  have HT := Lib.hid ht
  have HM := Lib.hid hm
  have hv := Lib.hid (show listB l = decide (chkLs none l = 0) from rfl)
  have HP := Lib.hid (fun W (h : Below w.heap.size w W) => (show BoolPost (listB l) w (.returned (.bool (listB l))) W from ⟨rfl, h⟩))
  clear hl hs ht hm
  generalize BoolPost (listB l) w = Post at *
  generalize listB l = r at *
  have R0 := Lib.hid (show LisR w l 0 w from ⟨by rw [List.drop_zero]; rfl, Below.refl _ _⟩)
  go_enter Tryz.func86, Tryz.ntmps86
  go_wp2_with fail
  go_loopw [9, 3, 4, 5, 6] (fun i _ _ _ _ wr => ∃ k : Nat, k ≤ n ∧ i = .int .i64 (k : Int) ∧ Hid (LisR w l k wr)) (fun i _ _ _ _ _ => n - (intOf i).toNat)
  case atStart => exact ⟨0, by omega, rfl, R0⟩
  case round =>
    clear R0
    obtain ⟨k, hk, rfl, hR⟩ := hrel
    have hch := Lib.hid hR.out.1
    have HB := Lib.hid hR.out.2
    clear hR
    by_cases hlt : k < n
    · have hkl : k < l.length := by rw [ll.out]; exact hlt
      obtain ⟨b1, o1, rfl, hb1, _⟩ := L1.out.at_ (by omega)
      have q0 := (L1.out.below HB.out).cell rowB_ok ln0 k 0 _ hlt rfl
      have q1 := (L1.out.below HB.out).cell rowB_ok ln0 k 1 _ hlt rfl
      have q2 := (L1.out.below HB.out).cell rowB_ok ln0 k 2 _ hlt rfl
      have hsx := Lib.hid (HS.out _ (lnAt_mem l k hkl))
      have hki : (k : Int) < (n : Int) := by omega
      have hdr := drop_ln l k hkl
      have hch2 := hch.out
      rw [hdr, chkLs_cons] at hch2
      have HC2 := Lib.hid hch2
      have hpk := Lib.hid (show prevAt l (k + 1) = some (key (l.getD k ln0)) from rfl)
      clear hdr hch2 hch
      generalize hxe : l.getD k ln0 = x at *
      obtain ⟨a, cu, m⟩ := x
      simp only [Nat.add_zero] at q0 q1 q2
      have HB2 := Lib.hid (show Below w.heap.size w (wr.alloc (.cells #[.string ⟨a.toArray⟩, .string ⟨cu.toArray⟩, .string ⟨m.toArray⟩] 38)) from HB.out.alloc HB.out.size _)
      have HX := Lib.hid (cells3 (heap_alloc_new wr (.cells #[.string ⟨a.toArray⟩, .string ⟨cu.toArray⟩, .string ⟨m.toArray⟩] 38))).1
      obtain ⟨x0, x1, x2⟩ := HX.out
      have l3 := Lib.hid (block_lt_of_cell x0)
      have hT := Lib.hid (HT.out.below HB2.out)
      have hM := Lib.hid (HM.out.below HB2.out)
      have HPU := Lib.hid (Put2_any cu m _ (by have := hsx.out.2.1; unfold maxLen; simp only at this; omega) (by have := hsx.out.2.2; simp only at this; omega) hT.out)
      unfold PutQ at HPU
      have HACC := Lib.hid (fun W hW => accCheck_l a W hsx.out.1 hW)
      generalize hpc : (if curB cu = false then (23 : Int) else chkI m) = pc at *
      go_wp2_with fail
      refine HPU.out.mono ?_
      rintro e w2 ⟨⟨vp, rfl⟩, hb⟩
      have HB3 := Lib.hid (below_next HB2.out hb ⟨rfl, rfl, rfl, rfl⟩)
      have d0 := (hb.cell l3.out).trans HX.out.1
      have d1 := (hb.cell (p := ⟨wr.heap.size, 1, none⟩) l3.out).trans HX.out.2.1
      have d2 := (hb.cell (p := ⟨wr.heap.size, 2, none⟩) l3.out).trans HX.out.2.2
      clear hb HPU
      by_cases hz : pc = 0
      case neg =>
        have hzb : (pc != 0) = true := by rw [bne_iff_ne]; exact hz
        have hr := Lib.hid (show r = false by
          rw [hv.out, HC2.out, if_pos (lineI_cur (by rw [hpc]; exact hz))]
          exact decide_eq_false (lineI_cur (by rw [hpc]; exact hz)))
        have hv1 := Lib.hid (HP.out w2 HB3.out)
        rw [hr.out] at hv1
        go_wp2_with fail
        exact hv1.out
      subst hz
      obtain ⟨g1, g2⟩ := chk_ok hpc
      rcases m with _ | ⟨m0, mr⟩
      · have hr := Lib.hid (show r = false by
          rw [hv.out, HC2.out]
          split
          · exact decide_eq_false (by assumption)
          · exact decide_eq_false (by rw [if_pos rfl]; decide))
        have hv1 := Lib.hid (HP.out w2 HB3.out)
        rw [hr.out] at hv1
        go_wp2_with fail
        exact hv1.out
      have HAC := Lib.hid (HACC.out w2 (HM.out.below HB3.out))
      clear HACC
      cases hcb : codeB a
      · rw [hcb] at HAC
        have hr := Lib.hid (show r = false by
          rw [hv.out, HC2.out, if_pos (lineI_acc hcb)]
          exact decide_eq_false (lineI_acc hcb))
        rw [hr.out] at HP
        go_wp2_with fail
        refine HAC.out.mono ?_
        rintro e w3 ⟨rfl, hb⟩
        have hv1 := Lib.hid (HP.out w3 (below_next HB3.out hb ⟨rfl, rfl, rfl, rfl⟩))
        clear hb
        go_wp2_with fail
        exact hv1.out
      rw [hcb] at HAC
      have HC3 := Lib.hid (show chkLs none l = if ordB (prevAt l k) (key (a, cu, m0 :: mr)) then 8 else chkLs (some (key (a, cu, m0 :: mr))) (l.drop (k + 1)) by
        rw [HC2.out, if_neg (by rw [lineI_parts g1 g2 hcb]; decide), if_neg (by simp)])
      clear HC2 hpc g1 g2 hcb x0 x1 x2 hT hM
      go_wp2_with fail
      refine HAC.out.mono ?_
      rintro e w3 ⟨rfl, hb⟩
      have HB4 := Lib.hid (below_next HB3.out hb ⟨rfl, rfl, rfl, rfl⟩)
      have HB5 := Lib.hid hb
      have ld := block_lt_of_cell d0
      have f0 := (hb.cell (p := ⟨wr.heap.size, 0, none⟩) ld).trans d0
      have f1 := (hb.cell (p := ⟨wr.heap.size, 1, none⟩) ld).trans d1
      have f2 := (hb.cell (p := ⟨wr.heap.size, 2, none⟩) ld).trans d2
      clear hb HAC d0 d1 d2 HX
      go_upto_region 7 with fail
      by_cases hk0 : k = 0
      · have hf : ordB (prevAt l k) (key (a, cu, m0 :: mr)) = false := by rw [hk0]; rfl
        have hch2 := HC3.out
        rw [hf, if_neg (by decide)] at hch2
        have hk0i : ¬ (0 : Int) < (k : Int) := by omega
        have hk0n : ¬ 0 < k := by omega
        have HCH := Lib.hid hch2
        clear hk0 hch2 hf HC3
        go_quiet (fail)
        have RR := Lib.hid (show LisR w l (k + 1) (w3.drewN nq) from ⟨by rw [hpk.out]; exact HCH.out, below_dr HB4.out nq⟩)
        clear hpk
        go_wp2_with fail
        exact ⟨⟨k + 1, by omega, by go_num, RR⟩, by simp [intOf]; omega⟩
      · obtain ⟨j, hj⟩ : ∃ j, k = j + 1 := ⟨k - 1, by omega⟩
        have hHj := Lib.hid hj
        have q0 := (L1.out.below HB4.out).cell rowB_ok ln0 j 0 _ (by omega) rfl
        have q1 := (L1.out.below HB4.out).cell rowB_ok ln0 j 1 _ (by omega) rfl
        have hpv : prevAt l k = some (key (l.getD j ln0)) := by rw [hj]; rfl
        have hch2 := HC3.out
        rw [hpv] at hch2
        have hw : IntKind.i64.wrap ((k : Int) - 1) = (j : Int) := (IntWalk.i64_in _ (by omega)).trans (by omega)
        have hji : (j : Int) < (n : Int) := by omega
        have hk0i : (0 : Int) < (k : Int) := by omega
        have hk0n : 0 < k := by omega
        clear hpv hj hk0 HC3
        generalize l.getD j ln0 = y at *
        obtain ⟨ya, yc, ym⟩ := y
        simp only [Nat.add_zero] at q0 q1
        have HCH := Lib.hid hch2
        clear hch2
        have HSS := Lib.hid (And.intro q0 (And.intro q1 (And.intro f0 (And.intro f1 f2))))
        have ly := block_lt_of_cell q0
        have lx := block_lt_of_cell f0
        have HD := Lib.hid (Below.refl w3.heap.size w3)
        generalize hcv : cmpKy (ya, yc) (a, cu) = cv at *
        go_region_held3 (fun w' => w'.cell? ⟨b1, o1 + j * 3, none⟩ = some (.string ⟨ya.toArray⟩) ∧ w'.cell? ⟨b1, o1 + j * 3 + 1, none⟩ = some (.string ⟨yc.toArray⟩) ∧ w'.cell? ⟨wr.heap.size, 0, none⟩ = some (.string ⟨a.toArray⟩) ∧ w'.cell? ⟨wr.heap.size, 1, none⟩ = some (.string ⟨cu.toArray⟩) ∧ w'.cell? ⟨wr.heap.size, 2, none⟩ = some (.string ⟨(m0 :: mr).toArray⟩))
          (first | exact ⟨g0, g1, g2, g3, g4⟩ | exact ⟨q0, q1, f0, f1, f2⟩ | go_keep)
          (first
            | (go_at_call 118; refine (kcmpL3 _ _ _ _ _).mono ?_; rintro e w' ⟨rfl, hb⟩; have HD := Lib.hid (below_next HD.out hb ⟨rfl, rfl, rfl, rfl⟩); have g0 := (HD.out.cell ly).trans HSS.out.1; have g1 := (HD.out.cell (p := ⟨b1, o1 + j * 3 + 1, none⟩) ly).trans HSS.out.2.1; have g2 := (HD.out.cell lx).trans HSS.out.2.2.1; have g3 := (HD.out.cell (p := ⟨wr.heap.size, 1, none⟩) lx).trans HSS.out.2.2.2.1; have g4 := (HD.out.cell (p := ⟨wr.heap.size, 2, none⟩) lx).trans HSS.out.2.2.2.2; clear hb))
        have hf : ordB (some (key (ya, yc, ym))) (key (a, cu, m0 :: mr)) = decide (0 ≤ cv) := by
          show decide (0 ≤ cmpKy (ya, yc) (a, cu)) = _
          rw [hcv]
        have hch2 := HCH.out
        rw [hf] at hch2
        have HB6 := Lib.hid (HB4.out.trans (HD.out.mono HB4.out.size))
        by_cases hc0 : 0 ≤ cv
        · rw [decide_eq_true hc0, if_pos rfl] at hch2
          have hr := Lib.hid (show r = false by rw [hv.out, hch2]; rfl)
          have hv1 := Lib.hid (HP.out _ HB6.out)
          rw [hr.out] at hv1
          clear hch2 HCH
          go_wp2_with fail
          exact hv1.out
        · rw [decide_eq_false hc0, if_neg (by decide)] at hch2
          have RR := Lib.hid (show LisR w l (k + 1) w' from ⟨by rw [hpk.out]; exact hch2, HB6.out⟩)
          clear hch2 hpk HCH
          go_wp2_with fail
          exact ⟨⟨k + 1, by omega, by go_num, RR⟩, by simp [intOf]; omega⟩
    · have hkn : k = n := by omega
      subst hkn
      have hki : ¬ (k : Int) < (k : Int) := by omega
      have hr := Lib.hid (show r = true by
        rw [hv.out, hch.out, List.drop_of_length_le (by rw [ll.out]; exact Nat.le_refl _)]
        rfl)
      have hv1 := Lib.hid (HP.out wr HB.out)
      rw [hr.out] at hv1
      go_wp2_with fail
      exact hv1.out
end Go.Proofs.YtejaehmoplohdaaGreatDoor

/- Contract of ledger.Minus. -/
namespace Go.Proofs.YtejaehmoplohdaaGreatDoor
open Go.RowKit Go.Maps Num

def lsI (a b : List Ln) : Int := if (listB a && listB b) = true then 0 else 1
def lsL (a b : List Ln) : List Ln := if (listB a && listB b) = true then lessB a b else []
theorem take_neg (l : List Ln) (k : Nat) (h : k < l.length) : (l.take (k + 1)).map negL = (l.take k).map negL ++ [negL (l.getD k ln0)] := by
  rw [take_ln l k h, List.map_append]; rfl
theorem neg_sm60 {x : Ln} (h : Sml x) (hl : x.2.2.length ≤ 60) : Sml (negL x) := negL_sml h hl
set_option maxRecDepth 100000 in
set_option maxHeartbeats 8000000 in
theorem Minus_any (A B : Option Addr) (n c m d : Nat) (a b : List Ln) (w : World) (ha : rowB.Rds w A n c a) (hb : rowB.Rds w B m d b) (sa : ∀ x ∈ a, Sml x) (sb : ∀ x ∈ b, Sml x ∧ x.2.2.length ≤ 60) (hn : n ≤ 4000) (hm : m ≤ 4000) (ht : Tab w) (hM : ML w) :
    Calls Tryz.prog 55 #[.slice A n c, .slice B m d] w (ListC (lsL a b) (lsI a b) w) := by
  have la := Lib.hid ha.len
  have lb := Lib.hid hb.len
  have L1 := Lib.hid ha
  have L2 := Lib.hid hb
  have HT := Lib.hid ht
  have HA := Lib.hid (fun W (h : Below w.heap.size w W) => isList_any A n c a W (ha.below h) sa (by omega) (ht.below h) (hM.below h))
  have HB := Lib.hid (fun W (h : Below w.heap.size w W) => isList_any B m d b W (hb.below h) (fun x hx => (sb x hx).1) (by omega) (ht.below h) (hM.below h))
  have HSM := Lib.hid (show ∀ x ∈ a ++ b.map negL, Sml x from fun x hx => by
    rcases List.mem_append.1 hx with h | h
    · exact sa x h
    · obtain ⟨y, hy, rfl⟩ := List.mem_map.1 h
      exact neg_sm60 (sb y hy).1 (sb y hy).2)
  have HS2 := Lib.hid sb
  have HP := Lib.hid (fun v i W (h1 : rowB.Own w.heap.size W v (lsL a b)) (h2 : Below w.heap.size w W) (hi : lsI a b = i) => (show ListC (lsL a b) (lsI a b) w (.returned (.tuple #[v, .int .i64 i])) W from ⟨v, by rw [hi], h1, h2⟩))
  have HLL := Lib.hid (show lsL a b = if (listB a && listB b) = true then lessB a b else [] from rfl)
  have HLI := Lib.hid (show lsI a b = if (listB a && listB b) = true then 0 else 1 from rfl)
  have HCN := Lib.hid (fun (h : listB a = true) (x : Ln) (hx : x ∈ a ++ b.map negL) => (show canB x = true by
    rcases List.mem_append.1 hx with h' | h'
    · exact listB_can h x h'
    · obtain ⟨y, _, rfl⟩ := List.mem_map.1 h'
      exact canB_t))
  have hmm := @run_makeMap Tryz.prog
  clear ha hb sa sb ht hM
  generalize ListC (lsL a b) (lsI a b) w = Post at *
  generalize lsI a b = ri at *
  generalize lsL a b = rl at *
  cases hba : listB a
  · have hv := Lib.hid (fun W hb => HP.out (.slice none 0 0) 1 W (by rw [HLL.out, hba, if_neg (by simp)]; exact Row.Own.nil _ _) hb (by rw [HLI.out, hba, if_neg (by simp)]))
    have HA0 := HA.out w (Below.refl _ _)
    rw [hba] at HA0
    have HA1 := Lib.hid HA0
    clear HA0 HA HP
    go_enter Tryz.func55, Tryz.ntmps55
    go_wp2_with fail
    refine HA1.out.mono ?_
    rintro e w1 ⟨rfl, hb1⟩
    have hv1 := Lib.hid (hv.out w1 hb1)
    clear hb1
    go_wp2_with fail
    exact hv1.out
  cases hbb : listB b
  · have hv := Lib.hid (fun W hb => HP.out (.slice none 0 0) 1 W (by rw [HLL.out, hbb, Bool.and_false, if_neg (by simp)]; exact Row.Own.nil _ _) hb (by rw [HLI.out, hbb, Bool.and_false, if_neg (by simp)]))
    have HA0 := HA.out w (Below.refl _ _)
    rw [hba] at HA0
    have HA1 := Lib.hid HA0
    have HB0 := HB.out
    rw [hbb] at HB0
    have HB1 := Lib.hid HB0
    clear HA0 HA HP HB HB0
    go_enter Tryz.func55, Tryz.ntmps55
    go_wp2_with fail
    refine HA1.out.mono ?_
    rintro e w1 ⟨rfl, hb1⟩
    have B1 := Lib.hid hb1
    clear hb1
    go_wp2_with fail
    refine (HB1.out _ B1.out).mono ?_
    rintro e w2 ⟨rfl, hb2⟩
    have hv1 := Lib.hid (hv.out w2 (below_next B1.out hb2 ⟨rfl, rfl, rfl, rfl⟩))
    clear hb2
    go_wp2_with fail
    exact hv1.out
  have hv := Lib.hid (fun v W (h1 : rowB.Own w.heap.size W v (lessB a b)) hb => HP.out v 0 W (by rw [HLL.out, hba, hbb, if_pos (by rfl)]; exact h1) hb (by rw [HLI.out, hba, hbb, if_pos (by rfl)]))
  have HCN2 := Lib.hid (HCN.out hba)
  have HA0 := HA.out w (Below.refl _ _)
  rw [hba] at HA0
  have HA1 := Lib.hid HA0
  have HB0 := HB.out
  rw [hbb] at HB0
  have HB1 := Lib.hid HB0
  clear HA0 HA HP HB HB0 HCN HLL HLI hba hbb
  go_enter Tryz.func55, Tryz.ntmps55
  go_wp2_with fail
  refine HA1.out.mono ?_
  rintro e w1 ⟨rfl, hb1⟩
  have B1 := Lib.hid hb1
  clear hb1
  go_wp2_with fail
  refine (HB1.out _ B1.out).mono ?_
  rintro e w2 ⟨rfl, hb2⟩
  have B2 := Lib.hid (below_next B1.out hb2 ⟨rfl, rfl, rfl, rfl⟩)
  clear hb2 B1 HA1 HB1
  have hv2 := Lib.hid (fun v W (h1 : rowB.Own w2.heap.size W v (lessB a b)) (h2 : Below w2.heap.size w2 W) => hv.out v W (h1.mono B2.out.size) (B2.out.trans (h2.mono B2.out.size)))
  have M1 := Lib.hid (L1.out.below B2.out)
  have M2 := Lib.hid (L2.out.below B2.out)
  have T2 := Lib.hid (HT.out.below B2.out)
  clear L1 L2 HT hv B2
  have R0 := Lib.hid (show DurR w2 (a.take 0) (w2.alloc (.map #[] 0)) from DurR.start w2)
  go_wp2_with fail
  go_loopw [22, 8] (fun i _ wr => ∃ k : Nat, k ≤ n ∧ i = .int .i64 (k : Int) ∧ Hid (DurR w2 (a.take k) wr)) (fun i _ _ => n - (intOf i).toNat)
  case atStart => exact ⟨0, by omega, rfl, R0⟩
  case round =>
    clear R0
    obtain ⟨k, hk, rfl, hR⟩ := hrel
    by_cases hlt : k < n
    · have hkl : k < a.length := by rw [la.out]; exact hlt
      have htk := Lib.hid (take_ln a k hkl)
      obtain ⟨b1, o1, rfl, hb1, _⟩ := M1.out.at_ (by omega)
      have q0 := (M1.out.below hR.out.bel).cell rowB_ok ln0 k 0 _ hlt rfl
      have q1 := (M1.out.below hR.out.bel).cell rowB_ok ln0 k 1 _ hlt rfl
      have q2 := (M1.out.below hR.out.bel).cell rowB_ok ln0 k 2 _ hlt rfl
      have hki : (k : Int) < (n : Int) := by omega
      generalize a.getD k ln0 = x at *
      obtain ⟨xa, xc, xm⟩ := x
      simp only [Nat.add_zero] at q0 q1 q2
      have hsx := Lib.hid (show ∀ x ∈ a.take k ++ [(xa, xc, xm)], Sml x from fun x hx => HSM.out x (List.mem_append_left _ (by rw [← htk.out] at hx; exact List.mem_of_mem_take hx)))
      have hll := Lib.hid (show (a.take k).length < 10000 by rw [List.length_take]; omega)
      have HR3 := Lib.hid (hR.out.al (.cells #[.string ⟨xa.toArray⟩, .string ⟨xc.toArray⟩, .string ⟨xm.toArray⟩] 38))
      obtain ⟨⟨y0, y1, y2⟩, _⟩ := cells3 (heap_alloc_new wr (.cells #[.string ⟨xa.toArray⟩, .string ⟨xc.toArray⟩, .string ⟨xm.toArray⟩] 38))
      have HAD := Lib.hid (add_s w2.heap.size (a.take k) xa xc xm _ HR3.out.map hsx.out hll.out (T2.out.below HR3.out.bel))
      have HRX := Lib.hid (fun W h1 h2 => (show DurR w2 (a.take (k + 1)) W by rw [htk.out]; exact HR3.out.add h1 h2))
      clear hR htk
      go_wp2_with fail
      refine HAD.out.mono ?_
      rintro e w3 ⟨rfl, h1, h2⟩
      have RR := Lib.hid (HRX.out w3 h1 h2)
      clear h1 h2 HAD
      go_wp2_with fail
      exact ⟨⟨k + 1, by omega, by go_num, RR⟩, by simp [intOf]; omega⟩
    · have hkn : k = n := by omega
      subst hkn
      have hki : ¬ (k : Int) < (k : Int) := by omega
      have R1 := Lib.hid (show DurR w2 (a ++ (b.take 0).map negL) wr by
        have := hR.out
        rw [List.take_of_length_le (by rw [la.out]; exact Nat.le_refl _)] at this
        rw [List.take_zero, List.map_nil, List.append_nil]; exact this)
      clear hR
      go_wp2_with fail
      go_loopw [38, 10] (fun i _ wr => ∃ k : Nat, k ≤ m ∧ i = .int .i64 (k : Int) ∧ Hid (DurR w2 (a ++ (b.take k).map negL) wr)) (fun i _ _ => m - (intOf i).toNat)
      case atStart => exact ⟨0, by omega, rfl, R1⟩
      case round =>
        clear R1
        obtain ⟨j, hj, rfl, hR⟩ := hrel
        by_cases hlt : j < m
        · have hkl : j < b.length := by rw [lb.out]; exact hlt
          have htk := Lib.hid (take_neg b j hkl)
          have hbj := Lib.hid (HS2.out _ (lnAt_mem b j hkl))
          have hmt := Lib.hid (show ∀ x ∈ (b.take (j + 1)).map negL, x ∈ b.map negL from fun x hx => by
            obtain ⟨y, hy, rfl⟩ := List.mem_map.1 hx
            exact List.mem_map_of_mem (List.mem_of_mem_take hy))
          obtain ⟨b1, o1, rfl, hb1, _⟩ := M2.out.at_ (by omega)
          have q0 := (M2.out.below hR.out.bel).cell rowB_ok ln0 j 0 _ hlt rfl
          have q1 := (M2.out.below hR.out.bel).cell rowB_ok ln0 j 1 _ hlt rfl
          have q2 := (M2.out.below hR.out.bel).cell rowB_ok ln0 j 2 _ hlt rfl
          have hki : (j : Int) < (m : Int) := by omega
          generalize b.getD j ln0 = x at *
          obtain ⟨xa, xc, xm⟩ := x
          simp only [Nat.add_zero] at q0 q1 q2
          have hsx := Lib.hid (show ∀ x ∈ (a ++ (b.take j).map negL) ++ [(xa, xc, txt (- val xm))], Sml x from fun x hx => HSM.out x (by
            rw [List.append_assoc] at hx
            rcases List.mem_append.1 hx with h | h
            · exact List.mem_append_left _ h
            · exact List.mem_append_right _ (hmt.out x (by rw [htk.out]; exact h))))
          have hll := Lib.hid (show (a ++ (b.take j).map negL).length < 10000 by rw [List.length_append, List.length_map, List.length_take, la.out]; omega)
          have HR3 := Lib.hid (hR.out.al (.cells #[.string ⟨xa.toArray⟩, .string ⟨xc.toArray⟩, .string ⟨xm.toArray⟩] 38))
          have HX := Lib.hid (cells3 (heap_alloc_new wr (.cells #[.string ⟨xa.toArray⟩, .string ⟨xc.toArray⟩, .string ⟨xm.toArray⟩] 38))).1
          obtain ⟨y0, y1, y2⟩ := HX.out
          have ly := block_lt_of_cell y0
          have hbm : w2.heap.size < wr.heap.size := NmR.lt hR.out.map
          have HNE := Lib.hid (show some wr.heap.size ≠ some w2.heap.size from fun e => by have := Option.some.inj e; omega)
          have HNG := Lib.hid (fun W hb => Neg_any ⟨xm.toArray⟩ W (by show xm.toArray.size ≤ 120; rw [List.size_toArray]; have := hbj.out.2; simp only at this; omega) (T2.out.below (HR3.out.next hb).bel))
          have HAD := Lib.hid (fun W hb => add_s w2.heap.size (a ++ (b.take j).map negL) xa xc (txt (- val xm)) W (HR3.out.next hb).map hsx.out hll.out (T2.out.below (HR3.out.next hb).bel))
          have HRX := Lib.hid (fun W W' hb h1 h2 => (show DurR w2 (a ++ (b.take (j + 1)).map negL) W' by rw [htk.out, ← List.append_assoc]; exact (HR3.out.next (W' := W) hb).add h1 h2))
          clear hR htk
          go_wp2_with fail
          generalize wr.alloc (.cells #[.string ⟨xa.toArray⟩, .string ⟨xc.toArray⟩, .string ⟨xm.toArray⟩] 38) = w3 at *
          generalize wr.heap.size = bx at *
          have HD := Lib.hid (Below.refl w3.heap.size w3)
          go_region_held3 (fun w' => w'.cell? ⟨bx, 0, none⟩ = some (.string ⟨xa.toArray⟩) ∧ w'.cell? ⟨bx, 1, none⟩ = some (.string ⟨xc.toArray⟩) ∧ w'.cell? ⟨bx, 2, none⟩ = some (.string ⟨xm.toArray⟩))
            (first | exact ⟨e0, e1, e2⟩ | exact ⟨g0, g1, g2⟩ | exact ⟨y0, y1, y2⟩ | go_keep)
            (first
              | (go_at_call 23; with_reducible refine (HNG.out _ ?_).mono ?_; · (first | exact HD.out | exact Below.drew HD.out)
                 rintro e w' ⟨rfl, hb⟩; have HD := Lib.hid (below_next HD.out hb ⟨rfl, rfl, rfl, rfl⟩); have g0 := (HD.out.cell ly).trans HX.out.1; have g1 := (HD.out.cell (p := ⟨bx, 1, none⟩) ly).trans HX.out.2.1; have g2 := (HD.out.cell (p := ⟨bx, 2, none⟩) ly).trans HX.out.2.2; clear hb)
              | (go_at_call 87; with_reducible refine (HAD.out _ ?_).mono ?_; · (first | exact HD.out | exact Below.drew HD.out)
                 rintro e w' ⟨rfl, h1, h2⟩; have RR := Lib.hid (HRX.out _ _ (by first | exact HD.out | exact Below.drew HD.out) h1 h2); have e0 := h2.cell (a := ⟨bx, 0, none⟩) g0 HNE.out; have e1 := h2.cell (a := ⟨bx, 1, none⟩) g1 HNE.out; have e2 := h2.cell (a := ⟨bx, 2, none⟩) g2 HNE.out; clear h1 h2))
          go_wp2_with fail
          exact ⟨⟨j + 1, by omega, by go_num, RR⟩, by simp [intOf]; omega⟩
        · have hjn : j = m := by omega
          subst hjn
          have hji : ¬ (j : Int) < (j : Int) := by omega
          have e : b.take j = b := List.take_of_length_le (by rw [lb.out]; exact Nat.le_refl _)
          have hRk := hR.out
          rw [e] at hRk
          have HLS := Lib.hid (list_s w2.heap.size _ wr hRk.map HSM.out (by rw [List.length_append, List.length_map, la.out, lb.out]; omega) HCN2.out)
          have HBk := Lib.hid hRk.bel
          clear hR hRk e
          go_wp2_with fail
          refine HLS.out.mono ?_
          rintro e w3 ⟨v, rfl, h1, h2⟩
          have H1 := Lib.hid (hv2.out v w3 (Row.Own.mono h1 HBk.out.size) (HBk.out.trans (h2.mono HBk.out.size)))
          clear h1 h2 HLS
          go_wp2_with fail
          exact H1.out
end Go.Proofs.YtejaehmoplohdaaGreatDoor

/- Regions that draw their order, whose callees may lay blocks. -/
namespace Go.Proofs.YtejaehmoplohdaaGreatDoor
open Go.RowKit Go.Maps Num

/-- a world that differs from w above w's blocks -/
structure Bel (w : World) where
  W : World
  h : Below w.heap.size w W
instance belThere (w : World) : Inhabited (Bel w) := ⟨⟨w, Below.refl _ w⟩⟩
/-- a region that draws its order, whose operations only read and whose callees may lay blocks: one walk, in the order of the text -/
theorem wp_region_quiet_bel {P : Program} {id : Nat} {Q : Exit → Act → World → Prop} {a : Act} {w : World} {l : List Oper} (hm : P.follows .mixedOrders = true) (hB : Region.lexB .any l.toArray = true)
    (h : wpQuiet P l.toArray (fun w' => ∃ p : Bel w, w' = p.W) (fun a' => ∀ w', (∃ p : Bel w, w' = p.W) → Q .normal a' w') l a) : (Code.region id l.toArray true).wp P Q a w :=
  wp_region_quiet (C := fun w' => ∃ p : Bel w, w' = p.W) hm hB ⟨⟨w.drew, Below.drew (Below.refl _ w)⟩, rfl⟩ (by simpa using h)
theorem Calls.bel_of {P : Program} {f : FuncId} {args : Array Value} {w : World} {p : Bel w} {v : Value} (h : Calls P f args p.W fun e w' => e = .returned v ∧ Below p.W.heap.size p.W w') :
    Calls P f args p.W fun e w'' => e = .returned v ∧ ∃ q : Bel w, w'' = q.W :=
  h.mono fun _ _ ⟨he, hb⟩ => ⟨he, ⟨_, p.h.trans (hb.mono p.h.size)⟩, rfl⟩
end Go.Proofs.YtejaehmoplohdaaGreatDoor
