/- Contracts of the reference's numbers: Of, Add by the short road, Compare, Sign. -/
import Derived.Test.YtohdpidlilhnjaaGreatDoorQ6
import Derived.Test.YtohdpidlilhnjaaGreatDoorQ4
import Derived.Test.YtohdpidlilhnjaaGreatDoorQ5
import Derived.Test.YtohdpidlilhnjaaGreatDoorQ3
import Derived.Deep.QuietTactic
import Derived.BigQuiet
import Derived.Shelf.Strings.LastIndex
import Derived.Shelf.LaysM
import Derived.Test.YtohdpidlilhnjaaGreatDoorProg
import Derived.Lib.LastIndexByte
import Derived.Lib.Join
import Derived.Deep.OwnRows
namespace Go.Proofs.YtohdpidlilhnjaaGreatDoor
open Go.RowKit Go.Shelf Num

theorem encode_dig {c : Nat} (h0 : 48 ≤ c) (h1 : c ≤ 57) : Utf8.encode (c : Int) = ⟨[UInt8.ofNat c].toArray⟩ := by
  have : c = 48 ∨ c = 49 ∨ c = 50 ∨ c = 51 ∨ c = 52 ∨ c = 53 ∨ c = 54 ∨ c = 55 ∨ c = 56 ∨ c = 57 := by omega
  rcases this with rfl | rfl | rfl | rfl | rfl | rfl | rfl | rfl | rfl | rfl <;> rfl
theorem of_step {n M : Int} {T : List UInt8} (h : dig n.natAbs = dig M.natAbs ++ T) (h0 : M ≠ 0) : dig n.natAbs = dig (M.natAbs / 10) ++ UInt8.ofNat (48 + M.natAbs % 10) :: T := by
  rw [h, dig_pos (show M.natAbs ≠ 0 by omega)]; simp
set_option maxRecDepth 100000 in
set_option maxHeartbeats 4000000 in
theorem rof_any (n : Int) (w : World) (h0 : -9223372036854775808 ≤ n) (h1 : n ≤ 9223372036854775807) : Calls Tryz.prog 144 #[.int .i64 n] w (RetP (.string ⟨(txt n).toArray⟩) w) := by
  have HT := Lib.hid (show txt n = if n < 0 then 45 :: dig n.natAbs else dig n.natAbs from rfl)
  have HL := Lib.hid (dig_len (n := n.natAbs) (k := 19) (by omega))
  have HP := Lib.hid (fun e (h : e = Ending.returned (.string ⟨(txt n).toArray⟩)) => (show RetP (.string ⟨(txt n).toArray⟩) w e w from ⟨h, rfl⟩))
  generalize RetP (.string ⟨(txt n).toArray⟩) w = Post at *
  by_cases hz : n = 0
  · subst hz
    rw [show txt 0 = [] from txt_zero] at HP
    go_enter Tryz.func144, Tryz.ntmps144
    go_wp2_with fail
    exact HP.out _ rfl
  generalize txt n = t at *
  have hzb : (n == 0) = false := beq_eq_false_iff_ne.2 hz
  go_enter Tryz.func144, Tryz.ntmps144
  go_wp2_with fail
  go_loop [3, 4, 5] (fun s m _ => ∃ (M : Int) (T : List UInt8), s = .string ⟨T.toArray⟩ ∧ m = .int .i64 M ∧ -9223372036854775808 ≤ M ∧ M ≤ 9223372036854775807 ∧ Hid (dig n.natAbs = dig M.natAbs ++ T)) (fun _ m _ => (intOf m).natAbs)
  case atStart => exact ⟨n, [], rfl, rfl, h0, h1, Lib.hid (by simp)⟩
  case round =>
    obtain ⟨M, T, rfl, rfl, hm0, hm1, HD⟩ := hrel
    have htl : T.length ≤ 19 := by
      have e := congrArg List.length HD.out
      rw [List.length_append] at e
      have := HL.out
      omega
    by_cases hM : M = 0
    · subst hM
      have hd := HD.out
      rw [show dig (0 : Int).natAbs = [] from dig_zero, List.nil_append] at hd
      rw [hd] at HT
      by_cases hn : n < 0
      · have hnb : decide (n < 0) = true := decide_eq_true hn
        have hcat := fun W => cat_run [45] T (45 :: T) (by simp; omega) rfl W
        have e := HT.out
        rw [if_pos hn] at e
        subst e
        clear hd HD HL HT
        go_wp2_with fail
        exact HP.out _ rfl
      · have hnb : decide (n < 0) = false := decide_eq_false hn
        have e := HT.out
        rw [if_neg hn] at e
        subst e
        clear hd HD HL HT
        go_wp2_with fail
        exact HP.out _ rfl
    · have hMb : (M == 0) = false := beq_eq_false_iff_ne.2 hM
      have hMb2 : (M != 0) = true := by rw [bne_iff_ne]; exact hM
      have HS := Lib.hid (of_step HD.out hM)
      have hq : M.natAbs % 10 < 10 := Nat.mod_lt _ (by decide)
      obtain ⟨c, hc⟩ : ∃ c, 48 + M.natAbs % 10 = c := ⟨_, rfl⟩
      have henc := encode_dig (c := c) (by omega) (by omega)
      have hcat := fun W => cat_run [UInt8.ofNat c] T (UInt8.ofNat c :: T) (by simp; omega) rfl W
      have v3 : IntKind.i32.wrap (c : Int) = (c : Int) := IntWalk.i32_in _ (by omega)
      rw [hc] at HS
      obtain ⟨D, hD⟩ : ∃ D, M.tmod 10 = D := ⟨_, rfl⟩
      obtain ⟨Q, hQ⟩ : ∃ Q, M.tdiv 10 = Q := ⟨_, rfl⟩
      have hDQ : D.natAbs = M.natAbs % 10 ∧ Q.natAbs = M.natAbs / 10 ∧ -9 ≤ D ∧ D ≤ 9 ∧ -9223372036854775808 ≤ Q ∧ Q ≤ 9223372036854775807 := by
        rw [← hD, ← hQ, Int.natAbs_tdiv, Int.natAbs_tmod]
        refine ⟨rfl, rfl, ?_⟩
        have e1 : (M.tmod 10).natAbs = M.natAbs % 10 := Int.natAbs_tmod _ _
        have e2 : (M.tdiv 10).natAbs = M.natAbs / 10 := Int.natAbs_tdiv _ _
        omega
      obtain ⟨d1, d2, d3, d4, d5, d6⟩ := hDQ
      have wD : IntKind.i64.wrap (M.tmod 10) = D := by rw [hD]; exact IntWalk.i64_in _ (by omega)
      have wQ : IntKind.i64.wrap (M.tdiv 10) = Q := by rw [hQ]; exact IntWalk.i64_in _ (by omega)
      have HS2 := Lib.hid (show dig n.natAbs = dig Q.natAbs ++ UInt8.ofNat c :: T by rw [d2]; exact HS.out)
      have HQ := Lib.hid (show Q.natAbs < M.natAbs by rw [d2]; omega)
      by_cases hneg : D < 0
      · have t1 : decide (D < 0) = true := decide_eq_true hneg
        have w1 : IntKind.i64.wrap (-D) = -D := IntWalk.i64_in _ (by omega)
        have w2 : IntKind.i64.wrap (48 + -D) = (c : Int) := by rw [IntWalk.i64_in _ (by omega)]; omega
        clear HD HS HL HT d2
        go_wp2_with fail
        go_round
        case rel => exact ⟨Q, _, rfl, rfl, d5, d6, HS2⟩
        case measure => exact HQ.out
      · have t1 : decide (D < 0) = false := decide_eq_false hneg
        have w2 : IntKind.i64.wrap (48 + D) = (c : Int) := by rw [IntWalk.i64_in _ (by omega)]; omega
        clear HD HS HL HT d2
        go_wp2_with fail
        go_round
        case rel => exact ⟨Q, _, rfl, rfl, d5, d6, HS2⟩
        case measure => exact HQ.out
theorem val_short {l : List UInt8} (h : (dgs l).length ≤ 17) : -100000000000000000 < val l ∧ val l < 100000000000000000 := by
  have h1 := digV_lt (dgs l) (dgs_all l)
  have h2 : 10 ^ (dgs l).length ≤ 10 ^ 17 := Nat.pow_le_pow_right (by omega) h
  have h3 : digV (dgs l) < 100000000000000000 := Nat.lt_of_lt_of_le h1 h2
  unfold val
  split <;> omega
set_option maxRecDepth 100000 in
set_option maxHeartbeats 1000000 in
theorem radd_any (a b : List UInt8) (w : World) (la : a.length ≤ 1000000) (lb : b.length ≤ 1000000) (ha : (dgs a).length ≤ 17) (hb : (dgs b).length ≤ 17) : Calls Tryz.prog 92 #[.string ⟨a.toArray⟩, .string ⟨b.toArray⟩] w (RetP (.string ⟨(txt (val a + val b)).toArray⟩) w) := by
  have C1 := short_any a w la
  have C2 := short_any b w lb
  unfold ShPost at C1 C2
  rw [if_pos ha, decide_eq_true ha] at C1
  rw [if_pos hb, decide_eq_true hb] at C2
  have H1 := Lib.hid C1
  have H2 := Lib.hid C2
  obtain ⟨a1, a2⟩ := val_short ha
  obtain ⟨b1, b2⟩ := val_short hb
  have H3 := Lib.hid (rof_any (val a + val b) w (by omega) (by omega))
  have wS : IntKind.i64.wrap (val a + val b) = val a + val b := IntWalk.i64_in _ (by omega)
  clear C1 C2 ha hb la lb
  unfold RetP at H3
  have HP := Lib.hid (fun e (h : e = Ending.returned (.string ⟨(txt (val a + val b)).toArray⟩)) => (show RetP (.string ⟨(txt (val a + val b)).toArray⟩) w e w from ⟨h, rfl⟩))
  generalize RetP (.string ⟨(txt (val a + val b)).toArray⟩) w = Post at *
  generalize txt (val a + val b) = t at *
  generalize val a = x at *
  generalize val b = y at *
  go_enter Tryz.func92, Tryz.ntmps92
  go_wp2_with fail
  refine H1.out.mono ?_
  rintro e w' ⟨rfl, rfl⟩
  go_wp2_with fail
  refine H2.out.mono ?_
  rintro e w' ⟨rfl, rfl⟩
  go_wp2_with fail
  refine H3.out.mono ?_
  rintro e w' ⟨rfl, rfl⟩
  go_wp2_with fail
  exact HP.out _ rfl
theorem digV_cmp (a b : List UInt8) : ((dgs a).length < (dgs b).length → digV (dgs a) < digV (dgs b)) ∧ ((dgs a).length = (dgs b).length → (digV (dgs a) < digV (dgs b) ↔ dgs a < dgs b)) :=
  ⟨fun h => digV_shorter (dgs_all a) (dgs_all b) (dgs_head b) h, fun h => digV_same (dgs_all a) (dgs_all b) h⟩
set_option maxRecDepth 100000 in
set_option maxHeartbeats 2000000 in
theorem rcmp_any (a b : List UInt8) (w : World) (la : a.length ≤ 1000000) (lb : b.length ≤ 1000000) : Calls Tryz.prog 184 #[.string ⟨a.toArray⟩, .string ⟨b.toArray⟩] w (RetP (.int .i64 (cmpV a b)) w) := by
  have C1 := Lib.hid (rdig_any a w la)
  have C2 := Lib.hid (rdig_any b w lb)
  unfold RdgPost at C1 C2
  have hca := Lib.hid (show cmpV a b = if val a < val b then -1 else if val b < val a then 1 else 0 from rfl)
  have va := Lib.hid (show val a = if neg a then -(digV (dgs a) : Int) else digV (dgs a) from rfl)
  have vb := Lib.hid (show val b = if neg b then -(digV (dgs b) : Int) else digV (dgs b) from rfl)
  have na := Lib.hid (neg_val a)
  have nb := Lib.hid (neg_val b)
  have d1 := Lib.hid (digV_cmp a b)
  have d2 := Lib.hid (digV_cmp b a)
  have la1 : (dgs a).length ≤ 1000000 := Nat.le_trans (dgs_len a) la
  have lb1 : (dgs b).length ≤ 1000000 := Nat.le_trans (dgs_len b) lb
  have HP := Lib.hid (fun r (h : cmpV a b = r) => (show RetP (.int .i64 (cmpV a b)) w (.returned (.int .i64 r)) w from ⟨by rw [h], rfl⟩))
  have less := less_lt (dgs a) (dgs b)
  have less2 := less_lt (dgs b) (dgs a)
  generalize RetP (.int .i64 (cmpV a b)) w = Post at *
  generalize cmpV a b = r at *
  generalize val a = x at *
  generalize val b = y at *
  generalize digV (dgs a) = A at *
  generalize digV (dgs b) = B at *
  generalize dgs a = s at *
  generalize dgs b = t at *
  generalize neg a = ma at *
  generalize neg b = mb at *
  have hlt : x < y → r = -1 := fun h => by rw [hca.out, if_pos h]
  have hgt : y < x → r = 1 := fun h => by rw [hca.out, if_neg (by omega), if_pos h]
  have heq : x = y → r = 0 := fun h => by rw [hca.out, if_neg (by omega), if_neg (by omega)]
  have HLT := Lib.hid hlt
  have HGT := Lib.hid hgt
  have HEQ := Lib.hid heq
  clear hlt hgt heq hca
  go_enter Tryz.func184, Tryz.ntmps184
  go_wp2_with fail
  refine C1.out.mono ?_
  rintro e w' ⟨rfl, rfl⟩
  go_wp2_with fail
  refine C2.out.mono ?_
  rintro e w' ⟨rfl, rfl⟩
  clear C1 C2
  have key : ∀ (sg : Bool), ma = sg → mb = sg → Hid ((A < B → r = if sg then 1 else -1) ∧ (B < A → r = if sg then -1 else 1) ∧ (A = B → r = 0)) := by
    intro sg e1 e2
    have e3 := va.out
    have e4 := vb.out
    rw [e1] at e3
    rw [e2] at e4
    refine Lib.hid ?_
    cases sg
    · rw [if_neg (by decide)] at e3 e4
      exact ⟨fun h => by rw [HLT.out (by omega)]; rfl, fun h => by rw [HGT.out (by omega)]; rfl, fun h => HEQ.out (by omega)⟩
    · rw [if_pos rfl] at e3 e4
      exact ⟨fun h => by rw [HGT.out (by omega)]; rfl, fun h => by rw [HLT.out (by omega)]; rfl, fun h => HEQ.out (by omega)⟩
  have fin : ∀ (sg : Bool), ma = sg → mb = sg → (s.length < t.length → Hid (r = if sg then 1 else -1)) ∧ (t.length < s.length → Hid (r = if sg then -1 else 1)) ∧ (s.length = t.length → (s < t → Hid (r = if sg then 1 else -1)) ∧ (t < s → Hid (r = if sg then -1 else 1)) ∧ (s = t → Hid (r = 0))) := by
    intro sg e1 e2
    obtain ⟨k1, k2, k3⟩ := (key sg e1 e2).out
    refine ⟨fun h => Lib.hid (k1 (d1.out.1 h)), fun h => Lib.hid (k2 (d2.out.1 h)), fun h => ⟨fun h2 => Lib.hid (k1 ((d1.out.2 h).2 h2)), fun h2 => Lib.hid (k2 ((d2.out.2 h.symm).2 h2)), fun h2 => Lib.hid (k3 ?_)⟩⟩
    have n1 : ¬ A < B := fun hh => by have := (d1.out.2 h).1 hh; rw [h2] at this; exact List.lt_irrefl _ this
    have n2 : ¬ B < A := fun hh => by have := (d2.out.2 h.symm).1 hh; rw [h2] at this; exact List.lt_irrefl _ this
    omega
  have FIN := Lib.hid fin
  have opp := Lib.hid (show (ma = true → mb = false → r = -1) ∧ (ma = false → mb = true → r = 1) from
    ⟨fun h h2 => HLT.out (by have := na.out.1 h; have := nb.out.2 h2; omega), fun h h2 => HGT.out (by have := na.out.2 h; have := nb.out.1 h2; omega)⟩)
  clear key fin HLT HGT HEQ va vb na nb d1 d2
  cases ma <;> cases mb
  case true.false =>
    have hr := Lib.hid (opp.out.1 rfl rfl)
    clear less less2
    go_wp2_with fail
    exact HP.out _ hr.out
  case false.true =>
    have hr := Lib.hid (opp.out.2 rfl rfl)
    clear less less2
    go_wp2_with fail
    exact HP.out _ hr.out
  all_goals
    obtain ⟨f1, f2, f3⟩ := FIN.out _ rfl rfl
    clear FIN opp
    rcases Nat.lt_trichotomy s.length t.length with hl | hl | hl
    · have hr := f1 hl
      have t1 : ((s.length : Int) != (t.length : Int)) = true := by rw [bne_iff_ne]; omega
      have t1' : ((s.length : Int) == (t.length : Int)) = false := by rw [beq_eq_false_iff_ne]; omega
      have t2 : decide ((s.length : Int) < (t.length : Int)) = true := by rw [decide_eq_true_iff]; omega
      clear f1 f2 f3 less less2
      go_wp2_with fail
      exact HP.out _ hr.out
    · obtain ⟨g1, g2, g3⟩ := f3 hl
      have t1 : ((s.length : Int) != (t.length : Int)) = false := by rw [bne_eq_false_iff_eq]; omega
      have t1' : ((s.length : Int) == (t.length : Int)) = true := by rw [beq_iff_eq]; omega
      have HLn := Lib.hid hl
      clear f1 f2 f3 hl
      by_cases h1 : s < t
      · have hr := g1 h1
        have u1 : Op.bytesLess s t = true := by rw [less]; exact decide_eq_true h1
        clear less less2 g1 g2 g3 h1
        go_wp2_with fail
        exact HP.out _ hr.out
      · have u1 : Op.bytesLess s t = false := by rw [less]; exact decide_eq_false h1
        by_cases h2 : t < s
        · have hr := g2 h2
          have u2 : Op.bytesLess t s = true := by rw [less2]; exact decide_eq_true h2
          have u3 : (s == t) = false := beq_eq_false_iff_ne.2 (fun e => by subst e; exact List.lt_irrefl _ h2)
          clear less less2 g1 g2 g3 h1 h2
          go_wp2_with fail
          exact HP.out _ hr.out
        · have u2 : Op.bytesLess t s = false := by rw [less2]; exact decide_eq_false h2
          have hr := g3 (lt_tri s t h1 h2)
          have u3 : (s == t) = true := beq_iff_eq.2 (lt_tri s t h1 h2)
          clear less less2 g1 g2 g3 h1 h2
          go_wp2_with fail
          exact HP.out _ hr.out
    · have hr := f2 hl
      have t1 : ((s.length : Int) != (t.length : Int)) = true := by rw [bne_iff_ne]; omega
      have t1' : ((s.length : Int) == (t.length : Int)) = false := by rw [beq_eq_false_iff_ne]; omega
      have t2 : decide ((s.length : Int) < (t.length : Int)) = false := by rw [decide_eq_false_iff_not]; omega
      clear f1 f2 f3 less less2
      go_wp2_with fail
      exact HP.out _ hr.out
set_option maxRecDepth 100000 in
theorem rsign_any (a : List UInt8) (w : World) (la : a.length ≤ 1000000) : Calls Tryz.prog 135 #[.string ⟨a.toArray⟩] w (RetP (.int .i64 (cmpI (val a) 0)) w) := by
  have C := Lib.hid (rcmp_any a [] w la (by simp))
  rw [show cmpV a [] = cmpI (val a) 0 from rfl] at C
  generalize cmpI (val a) 0 = r at *
  unfold RetP at C
  go_enter Tryz.func135, Tryz.ntmps135
  go_wp2_with fail
  refine C.out.mono ?_
  rintro e w' ⟨rfl, rfl⟩
  go_wp2_with fail
  go_ret
  exact ⟨rfl, rfl⟩
end Go.Proofs.YtohdpidlilhnjaaGreatDoor

/- Contracts of the reference's compareText, CompareLines, head, fields. -/
namespace Go.Proofs.YtohdpidlilhnjaaGreatDoor
open Go.RowKit Go.Maps Num

set_option maxRecDepth 100000 in
theorem rtxt_any (a b : List UInt8) (w : World) : Calls Tryz.prog 149 #[.string ⟨a.toArray⟩, .string ⟨b.toArray⟩] w (RetP (.int .i64 (cmpS a b)) w) := by
  have hc := Lib.hid (show cmpS a b = if a < b then -1 else if b < a then 1 else 0 from rfl)
  have hl := less_lt a b
  have hl2 := less_lt b a
  have HP := Lib.hid (fun r (h : cmpS a b = r) => (show RetP (.int .i64 (cmpS a b)) w (.returned (.int .i64 r)) w from ⟨by rw [h], rfl⟩))
  generalize RetP (.int .i64 (cmpS a b)) w = Post at *
  generalize cmpS a b = c at *
  by_cases h : a < b
  · have t1 : Op.bytesLess a b = true := by rw [hl]; exact decide_eq_true h
    have hv := Lib.hid (show c = -1 by rw [hc.out, if_pos h])
    clear h hl hl2
    go_enter Tryz.func149, Tryz.ntmps149
    go_wp2_with fail
    exact HP.out _ hv.out
  · have t1 : Op.bytesLess a b = false := by rw [hl]; exact decide_eq_false h
    by_cases h2 : b < a
    · have t2 : (a == b) = false := beq_eq_false_iff_ne.2 (fun e => by subst e; exact List.lt_irrefl _ h2)
      have t3 : Op.bytesLess b a = true := by rw [hl2]; exact decide_eq_true h2
      have hv := Lib.hid (show c = 1 by rw [hc.out, if_neg h, if_pos h2])
      clear h h2 hl hl2
      go_enter Tryz.func149, Tryz.ntmps149
      go_wp2_with fail
      exact HP.out _ hv.out
    · have t2 : (a == b) = true := beq_iff_eq.2 (lt_tri a b h h2)
      have t3 : Op.bytesLess b a = false := by rw [hl2]; exact decide_eq_false h2
      have hv := Lib.hid (show c = 0 by rw [hc.out, if_neg h, if_neg h2])
      clear h h2 hl hl2
      go_enter Tryz.func149, Tryz.ntmps149
      go_wp2_with fail
      exact HP.out _ hv.out
set_option maxRecDepth 100000 in
set_option maxHeartbeats 1000000 in
theorem rcl_any (a c m a2 c2 m2 : List UInt8) (w : World) : Calls Tryz.prog 99 #[.agg #[.string ⟨a.toArray⟩, .string ⟨c.toArray⟩, .string ⟨m.toArray⟩], .agg #[.string ⟨a2.toArray⟩, .string ⟨c2.toArray⟩, .string ⟨m2.toArray⟩]] w (IntPost (cmpKy (a, c) (a2, c2)) w) := by
  have h1 := fun W => rtxt_any a a2 W
  have h2 := fun W => rtxt_any c c2 W
  unfold RetP at h1 h2
  have hh := Lib.hid (show cmpKy (a, c) (a2, c2) = if cmpS a a2 ≠ 0 then cmpS a a2 else cmpS c c2 from rfl)
  have hbx : Below w.heap.size w ((w.alloc (.cells #[.string ⟨a.toArray⟩, .string ⟨c.toArray⟩, .string ⟨m.toArray⟩] 40)).alloc (.cells #[.string ⟨a2.toArray⟩, .string ⟨c2.toArray⟩, .string ⟨m2.toArray⟩] 40)) := ((Below.refl _ w).alloc (Nat.le_refl _) _).alloc (by simp) _
  have HP := Lib.hid (fun r (h : cmpKy (a, c) (a2, c2) = r) => (show IntPost (cmpKy (a, c) (a2, c2)) w (.returned (.int .i64 r)) _ from ⟨by rw [h], hbx⟩))
  generalize IntPost (cmpKy (a, c) (a2, c2)) w = Post at *
  generalize cmpKy (a, c) (a2, c2) = r at *
  generalize cmpS a a2 = x at *
  generalize cmpS c c2 = y at *
  have H1 := Lib.hid h1
  have H2 := Lib.hid h2
  clear h1 h2 hbx
  go_enter Tryz.func99, Tryz.ntmps99
  go_wp2_with fail
  refine (H1.out _).mono ?_
  rintro e w1 ⟨rfl, rfl⟩
  by_cases hx : x = 0
  · have hr := Lib.hid (show r = y by rw [hh.out, if_neg (by omega)])
    subst hx
    go_wp2_with fail
    refine (H2.out _).mono ?_
    rintro e w1 ⟨rfl, rfl⟩
    go_wp2_with fail
    exact HP.out _ hr.out
  · have hr := Lib.hid (show r = x by rw [hh.out, if_pos hx])
    have t1 : (x == 0) = false := beq_eq_false_iff_ne.2 hx
    have t2 : (x != 0) = true := by rw [bne_iff_ne]; exact hx
    go_wp2_with fail
    exact HP.out _ hr.out
set_option maxRecDepth 100000 in
theorem rhead_any (d : Int) (l : List UInt8) (A : Option Addr) (n c : Nat) (w : World) (hl : l.length ≤ maxLen) :
    Calls Tryz.prog 97 #[.agg #[.int .i64 d, .string ⟨l.toArray⟩, .slice A n c]] w (IntPost (headI d l) w) := by
  have h1 := fun W => rcause_any ⟨l.toArray⟩ W hl
  have e1 : (⟨l.toArray⟩ : ByteArray).data.toList = l := rfl
  rw [e1] at h1
  have hh := Lib.hid (show headI d l = if d < -25567 ∨ 84005 < d then 13 else if causeB l then 0 else 23 from rfl)
  have hbx : Below w.heap.size w (w.alloc (.cells #[.int .i64 d, .string ⟨l.toArray⟩, .slice A n c] 39)) := (Below.refl _ w).alloc (Nat.le_refl _) _
  generalize causeB l = cb at *
  have H1 := Lib.hid h1
  clear h1 e1
  by_cases ha : d < -25567
  · have t1 : decide (d < -25567) = true := decide_eq_true ha
    have hv := Lib.hid (show headI d l = 13 by rw [hh.out, if_pos (.inl ha)])
    clear ha
    go_enter Tryz.func97, Tryz.ntmps97
    go_wp2_with fail
    go_ret
    exact ⟨by rw [hv.out]; rfl, hbx⟩
  by_cases hb : 84005 < d
  · have t1 : decide (d < -25567) = false := decide_eq_false ha
    have t2 : decide (84005 < d) = true := decide_eq_true hb
    have hv := Lib.hid (show headI d l = 13 by rw [hh.out, if_pos (.inr hb)])
    clear ha hb
    go_enter Tryz.func97, Tryz.ntmps97
    go_wp2_with fail
    go_ret
    exact ⟨by rw [hv.out]; rfl, hbx⟩
  have t1 : decide (d < -25567) = false := decide_eq_false ha
  have t2 : decide (84005 < d) = false := decide_eq_false hb
  have hv := Lib.hid (show headI d l = if cb then 0 else 23 by rw [hh.out, if_neg (by omega)])
  clear ha hb
  cases cb
  · go_enter Tryz.func97, Tryz.ntmps97
    go_wp2_with fail
    refine (H1.out _).mono ?_
    rintro e w1 ⟨rfl, rfl⟩
    go_wp2_with fail
    go_ret
    exact ⟨by rw [hv.out]; rfl, hbx⟩
  · go_enter Tryz.func97, Tryz.ntmps97
    go_wp2_with fail
    refine (H1.out _).mono ?_
    rintro e w1 ⟨rfl, rfl⟩
    go_wp2_with fail
    go_ret
    exact ⟨by rw [hv.out]; rfl, hbx⟩
set_option maxRecDepth 100000 in
set_option maxHeartbeats 1000000 in
theorem rfld_any (a c m : List UInt8) (w : World) (hx : Sml (a, c, m)) : Calls Tryz.prog 98 #[.agg #[.string ⟨a.toArray⟩, .string ⟨c.toArray⟩, .string ⟨m.toArray⟩]] w (IntPost (lineI (a, c, m)) w) := by
  obtain ⟨ha, hc, hmm⟩ := hx
  simp only at ha hc hmm
  have h1 := fun W => rCheck_any a W (by omega)
  have h2 := fun W => rcur_any ⟨c.toArray⟩ W (show c.length ≤ maxLen by unfold maxLen; omega)
  have h3 := fun W => rchk_any m W (by omega)
  have e1 : (⟨c.toArray⟩ : ByteArray).data.toList = c := rfl
  rw [e1] at h2
  unfold RetP at h3
  have hh := Lib.hid (show lineI (a, c, m) = if codeB a then if curB c then chkI m else 12 else 3 from rfl)
  have hA := Lib.hid (show chkA a = if codeB a then 0 else 3 from rfl)
  have hk : chkI m = 0 ∨ chkI m = 1 := by unfold chkI; split <;> simp
  have HP := Lib.hid (fun W r (h : lineI (a, c, m) = r) (hb : Below w.heap.size w W) => (show IntPost (lineI (a, c, m)) w (.returned (.int .i64 r)) W from ⟨by rw [h], hb⟩))
  have hbx : Below w.heap.size w (w.alloc (.cells #[.string ⟨a.toArray⟩, .string ⟨c.toArray⟩, .string ⟨m.toArray⟩] 40)) := (Below.refl _ w).alloc (Nat.le_refl _) _
  have x1 : (w.alloc (.cells #[.string ⟨a.toArray⟩, .string ⟨c.toArray⟩, .string ⟨m.toArray⟩] 40)).cell? ⟨w.heap.size, 1, none⟩ = some (.string ⟨c.toArray⟩) := by go_simp
  have x2 : (w.alloc (.cells #[.string ⟨a.toArray⟩, .string ⟨c.toArray⟩, .string ⟨m.toArray⟩] 40)).cell? ⟨w.heap.size, 2, none⟩ = some (.string ⟨m.toArray⟩) := by go_simp
  have HBX := Lib.hid hbx
  generalize IntPost (lineI (a, c, m)) w = Post at *
  generalize lineI (a, c, m) = r at *
  generalize chkI m = km at *
  generalize chkA a = ka at *
  generalize codeB a = ba at *
  generalize curB c = bc at *
  have H1 := Lib.hid h1
  have H2 := Lib.hid h2
  have H3 := Lib.hid h3
  clear h1 h2 h3 hbx e1
  go_enter Tryz.func98, Tryz.ntmps98
  go_wp2_with fail
  refine (H1.out _).mono ?_
  rintro e w1 ⟨rfl, hb1⟩
  have y1 := (hb1.cell (p := ⟨w.heap.size, 1, none⟩) (by simp)).trans x1
  have y2 := (hb1.cell (p := ⟨w.heap.size, 2, none⟩) (by simp)).trans x2
  have B1 := Lib.hid (HBX.out.trans (hb1.mono (by simp)))
  clear hb1 x1 x2
  cases ba
  · have e := hA.out
    rw [if_neg (by decide)] at e
    subst e
    have hr := Lib.hid (show r = 3 by rw [hh.out]; rfl)
    go_wp2_with fail
    exact HP.out _ _ hr.out B1.out
  · have e := hA.out
    rw [if_pos rfl] at e
    subst e
    have hr := Lib.hid (show r = if bc then km else 12 by rw [hh.out]; rfl)
    go_wp2_with fail
    refine (H2.out _).mono ?_
    rintro e w2 ⟨rfl, rfl⟩
    cases bc
    · have hr := Lib.hid (show r = 12 by rw [hr.out]; rfl)
      go_wp2_with fail
      exact HP.out _ _ hr.out B1.out
    · have hr := Lib.hid (show r = km by rw [hr.out]; rfl)
      go_wp2_with fail
      refine (H3.out _).mono ?_
      rintro e w2 ⟨rfl, rfl⟩
      rcases hk with rfl | rfl
      · go_wp2_with fail
        exact HP.out _ _ hr.out B1.out
      · go_wp2_with fail
        exact HP.out _ _ hr.out B1.out
end Go.Proofs.YtohdpidlilhnjaaGreatDoor

/- Contract of the reference's balances. -/
namespace Go.Proofs.YtohdpidlilhnjaaGreatDoor
open Go.RowKit Go.Maps Num

theorem Below.drN {B : Nat} {w W : World} (h : Below B w W) (k : Nat) : Below B w (W.drewN k) := ⟨h.os, h.tape, h.output, h.size, h.block⟩
def num13 : Nat := 10 ^ 13
theorem dgs_txt (v : Int) : dgs (txt v) = dig v.natAbs := by
  rw [dgs_val]
  have h := val_txt v
  unfold val at h
  split at h <;> (congr 1; omega)
theorem dgs_txt_len {v : Int} {k : Nat} (h : v.natAbs < 10 ^ k) : (dgs (txt v)).length ≤ k := by
  rw [dgs_txt]; exact dig_len h
theorem curT_13 (l : List Ln) (h : ∀ x ∈ l, x.2.2.length ≤ 13) (c : List UInt8) : (curT l c).natAbs ≤ l.length * num13 := by
  induction l with
  | nil => simp [curT]
  | cons x r ih =>
    have h1 : (val x.2.2).natAbs < num13 := Nat.lt_of_lt_of_le (val_bd _) (Nat.pow_le_pow_right (by omega) (h x (by simp)))
    have h2 := ih fun y hy => h y (List.mem_cons_of_mem _ hy)
    rw [curT_cons, List.length_cons, Nat.add_mul]
    split <;> omega
theorem curT_dgs (l : List Ln) (h : ∀ x ∈ l, x.2.2.length ≤ 13) (hn : l.length ≤ 1000) (c : List UInt8) : (dgs (txt (curT l c))).length ≤ 17 ∧ (txt (curT l c)).length ≤ 1000000 := by
  have h1 := curT_13 l h c
  have h2 : l.length * num13 ≤ 1000 * num13 := Nat.mul_le_mul_right _ hn
  have h3 : 1000 * num13 < 10 ^ 17 := by decide
  have h4 : (curT l c).natAbs < 10 ^ 17 := by omega
  exact ⟨dgs_txt_len h4, by have := txt_bd h4; omega⟩
theorem dgs_13 {m : List UInt8} (h : m.length ≤ 13) : (dgs m).length ≤ 17 := by have := dgs_len m; omega
/-- the sum of a currency over the first k lines -/
def sumC (l : List Ln) (cu : List UInt8) (k : Nat) : List UInt8 := txt (curT (l.take k) cu)
theorem sumC_zero (l : List Ln) (cu : List UInt8) : sumC l cu 0 = [] := txt_zero
theorem sumC_next (l : List Ln) (cu : List UInt8) (k : Nat) (h : k < l.length) : sumC l cu (k + 1) = if (l.getD k ln0).2.1 = cu then txt (val (sumC l cu k) + val (l.getD k ln0).2.2) else sumC l cu k := by
  unfold sumC
  rw [take_ln l k h, curT_snoc, val_txt]
  split
  · rfl
  · rw [Int.add_zero]
theorem sumC_sm (l : List Ln) (cu : List UInt8) (k : Nat) (h : ∀ x ∈ l, x.2.2.length ≤ 13) (hn : l.length ≤ 1000) : (dgs (sumC l cu k)).length ≤ 17 ∧ (sumC l cu k).length ≤ 1000000 :=
  curT_dgs _ (fun x hx => h x (List.mem_of_mem_take hx)) (by rw [List.length_take]; omega) cu
theorem sumC_all (l : List Ln) (cu : List UInt8) (n : Nat) (h : l.length = n) : sumC l cu n = txt (curT l cu) := by
  unfold sumC; rw [List.take_of_length_le (by omega)]
set_option maxRecDepth 100000 in
set_option maxHeartbeats 4000000 in
theorem rbal_any (A : Option Addr) (n c : Nat) (l : List Ln) (w : World) (hl : Lns w A n c l) (hs : ∀ x ∈ l, x.2.2.length ≤ 13) : Calls Tryz.prog 100 #[.slice A n c] w (BoolPost (balB l) w) := by
  have hn := hl.small
  have L1 := Lib.hid hl
  have ll := Lib.hid hl.len
  have HS := Lib.hid hs
  have HP := Lib.hid (fun W b (h : balB l = b) (hb : Below w.heap.size w W) => (show BoolPost (balB l) w (.returned (.bool b)) W from ⟨by rw [h], hb⟩))
  have HTRUE := Lib.hid (fun h => balB_true (l := l) h)
  have HFALSE := Lib.hid (fun x hx h => balB_false (l := l) (x := x) hx h)
  generalize BoolPost (balB l) w = Post at *
  clear hl hs
  go_enter Tryz.func100, Tryz.ntmps100
  go_wp2_with fail
  go_loopw [3, 4, 5] (fun i _ _ wr => ∃ k : Nat, k ≤ n ∧ i = .int .i64 (k : Int) ∧ Hid (∀ x ∈ l.take k, txt (curT l x.2.1) = []) ∧ Hid (Below w.heap.size w wr)) (fun i _ _ _ => n - (intOf i).toNat)
  case atStart => exact ⟨0, by omega, rfl, Lib.hid (by simp), Lib.hid (Below.refl _ _)⟩
  case round =>
    obtain ⟨k, hk, rfl, HZ, HB⟩ := hrel
    by_cases hlt : k < n
    · have hkl : k < l.length := by rw [ll.out]; exact hlt
      obtain ⟨b1, o1, rfl, hb1, hc1⟩ := L1.out.at_ (by omega)
      have HC := Lib.hid hc1
      have hki : (k : Int) < (n : Int) := by omega
      have HTK := Lib.hid (take_ln l k hkl)
      have HM := Lib.hid (lnAt_mem l k hkl)
      have HK := Lib.hid (hc1 k hlt)
      clear hc1 hkl
      obtain ⟨x, hx⟩ : ∃ x, l.getD k ln0 = x := ⟨_, rfl⟩
      rw [hx] at HTK HM HK
      clear hx
      have H0 := Lib.hid (sumC_zero l x.2.1)
      go_wp2_with fail
      go_loopw [4, 5] (fun s j wx => ∃ q : Nat, q ≤ n ∧ j = .int .i64 (q : Int) ∧ s = .string ⟨(sumC l x.2.1 q).toArray⟩ ∧ Hid (Below w.heap.size w wx)) (fun _ j _ => n - (intOf j).toNat)
      case atStart => exact ⟨0, by omega, rfl, by rw [H0.out], HB⟩
      case round =>
        obtain ⟨q, hq, rfl, rfl, HBi⟩ := hrel
        by_cases hltq : q < n
        · have hql : q < l.length := by rw [ll.out]; exact hltq
          have hqi : (q : Int) < (n : Int) := by omega
          obtain ⟨p0, p1, p2⟩ := HC.out q hltq
          obtain ⟨x0, x1, x2⟩ := HK.out
          have r1 := (HBi.out.cell (p := ⟨b1, o1 + q * 3 + 1, none⟩) hb1).trans p1
          have r2 := (HBi.out.cell (p := ⟨b1, o1 + q * 3 + 2, none⟩) hb1).trans p2
          have s1 := (HBi.out.cell (p := ⟨b1, o1 + k * 3 + 1, none⟩) hb1).trans x1
          have HNX := Lib.hid (sumC_next l x.2.1 q hql)
          have HSM := Lib.hid (sumC_sm l x.2.1 q HS.out (by rw [ll.out]; exact hn))
          have H13 := Lib.hid (HS.out _ (lnAt_mem l q hql))
          clear p0 p1 p2 x0 x1 x2 hql
          generalize l.getD q ln0 = y at *
          obtain ⟨ya, yc, ym⟩ := y
          obtain ⟨xa, xc, xm⟩ := x
          simp only at r1 r2 s1 HNX HSM H13
          obtain ⟨S2, hS2⟩ : ∃ S2, sumC l xc (q + 1) = S2 := ⟨_, rfl⟩
          rw [hS2] at HNX
          have HS2 := Lib.hid hS2
          clear hS2
          have hB8 := Lib.hid (fun nq => Below.drN HBi.out nq)
          by_cases hc : yc = xc
          · subst hc
            have e := HNX.out
            rw [if_pos rfl] at e
            have HA := Lib.hid (fun W => radd_any (sumC l yc q) ym W HSM.out.2 (by have := H13.out; omega) HSM.out.1 (dgs_13 H13.out))
            unfold RetP at HA
            rw [← e] at HA
            clear e HNX
            generalize sumC l yc q = S at *
            go_wp2_with fail
            go_quiet (fail)
            go_wp2_with fail
            refine (HA.out _).mono ?_
            rintro e w' ⟨rfl, rfl⟩
            go_wp2_with fail
            go_roundw
            case rel => exact ⟨q + 1, by omega, by go_num, by rw [HS2.out], Lib.hid (hB8.out _)⟩
            case measure => simp [intOf]; omega
          · have hcb : (yc == xc) = false := beq_eq_false_iff_ne.2 hc
            have e := HNX.out
            rw [if_neg hc] at e
            generalize sumC l xc q = S at *
            subst e
            clear HNX
            go_wp2_with fail
            go_quiet (fail)
            go_wp2_with fail
            go_roundw
            case rel => exact ⟨q + 1, by omega, by go_num, by rw [HS2.out], Lib.hid (hB8.out _)⟩
            case measure => simp [intOf]; omega
        · have hqn : q = n := by omega
          subst hqn
          have e := sumC_all l x.2.1 q ll.out
          rw [e]
          clear e
          have HF := Lib.hid (HFALSE.out x HM.out)
          have HZ2 := Lib.hid (show txt (curT l x.2.1) = [] → ∀ y ∈ l.take (k + 1), txt (curT l y.2.1) = [] from fun h y hy => by
            rw [HTK.out] at hy
            rcases List.mem_append.1 hy with h1 | h1
            · exact HZ.out y h1
            · rw [List.mem_singleton.1 h1]; exact h)
          have hqi : ¬ (q : Int) < (q : Int) := by omega
          generalize txt (curT l x.2.1) = S at *
          rcases S with _ | ⟨c1, cr⟩
          · have HZ3 := Lib.hid (HZ2.out rfl)
            go_wp2_with fail
            go_roundw
            case rel => exact ⟨k + 1, by omega, by go_num, HZ3, HBi⟩
            case measure => simp [intOf]; omega
          · have hv := Lib.hid (HF.out (by simp))
            go_wp2_with fail
            exact HP.out _ _ hv.out HBi.out
    · have hkn : k = n := by omega
      subst hkn
      have hv := Lib.hid (HTRUE.out (by
        have h := HZ.out
        rwa [List.take_of_length_le (by rw [ll.out]; exact Nat.le_refl _)] at h))
      have hki : ¬ (k : Int) < (k : Int) := by omega
      go_wp2_with fail
      exact HP.out _ _ hv.out HB.out
end Go.Proofs.YtohdpidlilhnjaaGreatDoor

/- Contract of the reference's Compare of entries. -/
namespace Go.Proofs.YtohdpidlilhnjaaGreatDoor
open Go.RowKit Go.Maps Num

theorem cmpLs_out (l m : List Ln) (k : Nat) (hk : k ≤ l.length) (hp : k ≤ m.length) (h : k = l.length ∨ k = m.length) : cmpLs cmpL (l.drop k) (m.drop k) = if l.length < m.length then -1 else if m.length < l.length then 1 else 0 := by
  rcases h with h | h
  · rw [List.drop_of_length_le (by omega)]
    cases e : m.drop k with
    | nil => rw [if_neg (by have := congrArg List.length e; simp at this; omega), if_neg (by omega)]; rfl
    | cons y r => rw [if_pos (by have := congrArg List.length e; simp at this; omega)]; rfl
  · cases e : l.drop k with
    | nil => rw [List.drop_of_length_le (l := m) (by omega), if_neg (by omega), if_neg (by have := congrArg List.length e; simp at this; omega)]; rfl
    | cons y r => rw [List.drop_of_length_le (l := m) (by omega), if_neg (by have := congrArg List.length e; simp at this; omega), if_pos (by have := congrArg List.length e; simp at this; omega)]; rfl
set_option maxRecDepth 100000 in
set_option maxHeartbeats 8000000 in
theorem rcmpE_any (d1 d2 : Int) (c1 c2 : List UInt8) (A B : Option Addr) (n c p d : Nat) (l m : List Ln) (w : World) (hl : Lns w A n c l) (hm : Lns w B p d m) :
    Calls Tryz.prog 142 #[.agg (enV d1 c1 A n c), .agg (enV d2 c2 B p d)] w (IntPost (cmpE (d1, c1, l) (d2, c2, m)) w) := by
  have hn := hl.small
  have hp := hm.small
  have ll := Lib.hid hl.len
  have lm := Lib.hid hm.len
  have HP := Lib.hid (fun W b (h : cmpE (d1, c1, l) (d2, c2, m) = b) (hb : Below w.heap.size w W) => (show IntPost (cmpE (d1, c1, l) (d2, c2, m)) w (.returned (.int .i64 b)) W from ⟨by rw [h], hb⟩))
  have hB0 : Below w.heap.size w ((w.alloc (.cells #[.int .i64 d1, .string ⟨c1.toArray⟩, .slice A n c] 39)).alloc (.cells #[.int .i64 d2, .string ⟨c2.toArray⟩, .slice B p d] 39)) := ((Below.refl _ w).alloc (Nat.le_refl _) _).alloc (by simp) _
  have y0 : ((w.alloc (.cells #[.int .i64 d1, .string ⟨c1.toArray⟩, .slice A n c] 39)).alloc (.cells #[.int .i64 d2, .string ⟨c2.toArray⟩, .slice B p d] 39)).heap[w.heap.size]? = some (.cells #[.int .i64 d1, .string ⟨c1.toArray⟩, .slice A n c] 39) := by
    rw [heap_alloc_old _ _ (by simp)]; exact heap_alloc_new w _
  have y1 : ((w.alloc (.cells #[.int .i64 d1, .string ⟨c1.toArray⟩, .slice A n c] 39)).alloc (.cells #[.int .i64 d2, .string ⟨c2.toArray⟩, .slice B p d] 39)).heap[w.heap.size + 1]? = some (.cells #[.int .i64 d2, .string ⟨c2.toArray⟩, .slice B p d] 39) := by
    have := heap_alloc_new (w.alloc (.cells #[.int .i64 d1, .string ⟨c1.toArray⟩, .slice A n c] 39)) (.cells #[.int .i64 d2, .string ⟨c2.toArray⟩, .slice B p d] 39)
    rwa [show (w.alloc (.cells #[.int .i64 d1, .string ⟨c1.toArray⟩, .slice A n c] 39)).heap.size = w.heap.size + 1 by simp] at this
  have L1 := Lib.hid hl
  have L2 := Lib.hid hm
  have B0 := Lib.hid hB0
  have HR := Lib.hid (show cmpE (d1, c1, l) (d2, c2, m) = if cmpI d1 d2 ≠ 0 then cmpI d1 d2 else if cmpS c1 c2 ≠ 0 then cmpS c1 c2 else cmpLs cmpL l m from rfl)
  clear hl hm hB0
  generalize cmpE (d1, c1, l) (d2, c2, m) = r at *
  generalize IntPost r w = Post at *
  have HI := Lib.hid (show cmpI d1 d2 = if d1 < d2 then -1 else if d2 < d1 then 1 else 0 from rfl)
  have CT := Lib.hid (fun W => rtxt_any c1 c2 W)
  unfold RetP at CT
  generalize cmpS c1 c2 = cs at *
  unfold enV
  go_enter Tryz.func142, Tryz.ntmps142
  obtain ⟨⟨c00, c01, c02⟩, _⟩ := cells3 y0
  obtain ⟨⟨c10, c11, c12⟩, _⟩ := cells3 y1
  clear y0 y1
  by_cases h1 : d1 = d2
  case neg =>
    have t1 : (d1 == d2) = false := beq_eq_false_iff_ne.2 h1
    by_cases h2 : d1 < d2
    · have t2 : decide (d1 < d2) = true := decide_eq_true h2
      have hv := Lib.hid (show r = -1 by
        have e : cmpI d1 d2 = -1 := by rw [HI.out, if_pos h2]
        rw [HR.out, e, if_pos (by decide)])
      clear c00 c01 c02 c10 c11 c12
      go_wp2_with fail
      exact HP.out _ _ hv.out B0.out
    · have t2 : decide (d1 < d2) = false := decide_eq_false h2
      have hv := Lib.hid (show r = 1 by
        have e : cmpI d1 d2 = 1 := by rw [HI.out, if_neg h2, if_pos (by omega)]
        rw [HR.out, e, if_pos (by decide)])
      clear c00 c01 c02 c10 c11 c12
      go_wp2_with fail
      exact HP.out _ _ hv.out B0.out
  have HR2 := Lib.hid (show r = if cs ≠ 0 then cs else cmpLs cmpL l m by
    have e : cmpI d1 d2 = 0 := by rw [HI.out, if_neg (by omega), if_neg (by omega)]
    rw [HR.out, e, if_neg (by decide)])
  subst h1
  clear HR HI
  have X0 := Lib.hid c02
  have X1 := Lib.hid c12
  have lb0 := Lib.hid (block_lt_of_cell c02)
  have lb1 := Lib.hid (block_lt_of_cell c12)
  clear c00 c01 c02 c10 c11 c12
  go_wp2_with fail
  refine (CT.out _).mono ?_
  rintro e w' ⟨rfl, rfl⟩
  by_cases h2 : cs = 0
  case neg =>
    have t1 : (cs == 0) = false := beq_eq_false_iff_ne.2 h2
    have t2 : (cs != 0) = true := by rw [bne_iff_ne]; exact h2
    have hv := Lib.hid (show r = cs by rw [HR2.out, if_pos h2])
    go_wp2_with fail
    exact HP.out _ _ hv.out B0.out
  have HR3 := Lib.hid (show r = cmpLs cmpL l m by rw [HR2.out, if_neg (by omega)])
  subst h2
  clear HR2 CT
  go_wp2_with fail
  generalize (w.alloc (.cells #[.int .i64 d1, .string ⟨c1.toArray⟩, .slice A n c] 39)).alloc (.cells #[.int .i64 d1, .string ⟨c2.toArray⟩, .slice B p d] 39) = w1 at *
  have l0 : w.heap.size < w1.heap.size := lb0.out
  have l1 : w.heap.size + 1 < w1.heap.size := lb1.out
  clear lb0 lb1
  go_loopw [6, 7, 8] (fun i _ _ wr => ∃ k : Nat, k ≤ n ∧ k ≤ p ∧ i = .int .i64 (k : Int) ∧ Hid (r = cmpLs cmpL (l.drop k) (m.drop k)) ∧ Hid (Below w1.heap.size w1 wr)) (fun i _ _ _ => n - (intOf i).toNat)
  case atStart => exact ⟨0, by omega, by omega, rfl, by rw [List.drop_zero, List.drop_zero]; exact HR3, Lib.hid (Below.refl _ _)⟩
  case round =>
    obtain ⟨k, hk, hkp, rfl, HE, HC⟩ := hrel
    have HB := Lib.hid (below_next B0.out HC.out ⟨rfl, rfl, rfl, rfl⟩)
    have a02 := (HC.out.cell (p := ⟨w.heap.size, 2, none⟩) l0).trans X0.out
    have a12 := (HC.out.cell (p := ⟨w.heap.size + 1, 2, none⟩) l1).trans X1.out
    by_cases hend : k = n ∨ k = p
    · have hv := Lib.hid (show r = if n < p then -1 else if p < n then 1 else 0 by
        rw [HE.out, cmpLs_out l m k (by rw [ll.out]; exact hk) (by rw [lm.out]; exact hkp) (by rw [ll.out, lm.out]; exact hend), ll.out, lm.out])
      clear HE HR3
      rcases Nat.lt_trichotomy n p with h | h | h
      · have hkn : k = n := by omega
        subst hkn
        have hki : ¬ (k : Int) < (k : Int) := by omega
        have t2 : decide ((k : Int) < (p : Int)) = true := by rw [decide_eq_true_iff]; omega
        have hv := Lib.hid (show r = -1 by rw [hv.out, if_pos h])
        clear hend
        go_wp2_with fail
        exact HP.out _ _ hv.out HB.out
      · subst h
        have hkn : k = n := by omega
        subst hkn
        have hki : ¬ (k : Int) < (k : Int) := by omega
        have hv := Lib.hid (show r = 0 by rw [hv.out, if_neg (by omega), if_neg (by omega)])
        clear hend
        go_wp2_with fail
        exact HP.out _ _ hv.out HB.out
      · have hkn : k = p := by omega
        subst hkn
        have hki : ¬ (k : Int) < (k : Int) := by omega
        have t1 : decide ((k : Int) < (n : Int)) = true := by rw [decide_eq_true_iff]; omega
        have t2 : decide ((n : Int) < (k : Int)) = false := by rw [decide_eq_false_iff_not]; omega
        have hv := Lib.hid (show r = 1 by rw [hv.out, if_neg (by omega), if_pos h])
        clear hend
        go_wp2_with fail
        exact HP.out _ _ hv.out HB.out
    · have hlt : k < n := by omega
      have hlt2 : k < p := by omega
      clear hend
      obtain ⟨b1, o1, rfl, hb1, hc1⟩ := L1.out.at_ (by omega)
      obtain ⟨b2, o2, rfl, hb2, hc2⟩ := L2.out.at_ (by omega)
      obtain ⟨q0, q1, q2⟩ := hc1 k hlt
      obtain ⟨v0, v1, v2⟩ := hc2 k hlt2
      have HQ := Lib.hid (And.intro q0 (And.intro q1 q2))
      have HV := Lib.hid (And.intro v0 (And.intro v1 v2))
      have hki : (k : Int) < (n : Int) := by omega
      have hki2 : (k : Int) < (p : Int) := by omega
      have hk0 : (0 : Int) ≤ (k : Int) := by omega
      have HDR := Lib.hid (cmpLs_drop l m k (by rw [ll.out]; exact hlt) (by rw [lm.out]; exact hlt2))
      have hsx := Lib.hid (L1.out.sml _ (lnAt_mem l k (by rw [ll.out]; exact hlt)))
      have hsy := Lib.hid (L2.out.sml _ (lnAt_mem m k (by rw [lm.out]; exact hlt2)))
      clear q0 q1 q2 v0 v1 v2 hc1 hc2
      generalize l.getD k ln0 = x at *
      generalize m.getD k ln0 = y at *
      obtain ⟨a, cu, u⟩ := x
      obtain ⟨a', cu', u'⟩ := y
      have HL := Lib.hid (show cmpL (a, cu, u) (a', cu', u') = if cmpKy (a, cu) (a', cu') ≠ 0 then cmpKy (a, cu) (a', cu') else cmpV u u' from rfl)
      have KC := Lib.hid (fun W => rcl_any a cu u a' cu' u' W)
      have VC := Lib.hid (fun W => rcmp_any u u' W (by have := hsx.out.2.2; simp only at this; omega) (by have := hsy.out.2.2; simp only at this; omega))
      unfold RetP at VC
      generalize cmpL (a, cu, u) (a', cu', u') = cl at *
      generalize cmpKy (a, cu) (a', cu') = ck at *
      generalize cmpV u u' = cv at *
      simp only at HQ HV
      have hc : ∀ W, Below w1.heap.size w1 W → Hid (W.cell? ⟨w.heap.size, 2, none⟩ = some (.slice (some ⟨b1, o1, none⟩) n c) ∧ W.cell? ⟨w.heap.size + 1, 2, none⟩ = some (.slice (some ⟨b2, o2, none⟩) p d) ∧ W.cell? ⟨b1, o1 + k * 3, none⟩ = some (.string ⟨a.toArray⟩) ∧ W.cell? ⟨b1, o1 + k * 3 + 1, none⟩ = some (.string ⟨cu.toArray⟩) ∧ W.cell? ⟨b1, o1 + k * 3 + 2, none⟩ = some (.string ⟨u.toArray⟩) ∧ W.cell? ⟨b2, o2 + k * 3, none⟩ = some (.string ⟨a'.toArray⟩) ∧ W.cell? ⟨b2, o2 + k * 3 + 1, none⟩ = some (.string ⟨cu'.toArray⟩) ∧ W.cell? ⟨b2, o2 + k * 3 + 2, none⟩ = some (.string ⟨u'.toArray⟩)) := fun W hW => by
        have hw := below_next B0.out hW ⟨rfl, rfl, rfl, rfl⟩
        exact Lib.hid ⟨(hW.cell (p := ⟨w.heap.size, 2, none⟩) l0).trans X0.out, (hW.cell (p := ⟨w.heap.size + 1, 2, none⟩) l1).trans X1.out, (hw.cell (p := ⟨b1, o1 + k * 3, none⟩) hb1).trans HQ.out.1, (hw.cell (p := ⟨b1, o1 + k * 3 + 1, none⟩) hb1).trans HQ.out.2.1, (hw.cell (p := ⟨b1, o1 + k * 3 + 2, none⟩) hb1).trans HQ.out.2.2, (hw.cell (p := ⟨b2, o2 + k * 3, none⟩) hb2).trans HV.out.1, (hw.cell (p := ⟨b2, o2 + k * 3 + 1, none⟩) hb2).trans HV.out.2.1, (hw.cell (p := ⟨b2, o2 + k * 3 + 2, none⟩) hb2).trans HV.out.2.2⟩
      have HCC := Lib.hid hc
      clear hc a02 a12
      obtain ⟨g0, g1, r0, r1, r2, s0, s1, s2⟩ := (HCC.out _ HC.out).out
      have HD := HC
      go_wp2_with fail
      go_region_held3 (fun W => W.cell? ⟨w.heap.size, 2, none⟩ = some (.slice (some ⟨b1, o1, none⟩) n c) ∧ W.cell? ⟨w.heap.size + 1, 2, none⟩ = some (.slice (some ⟨b2, o2, none⟩) p d) ∧ W.cell? ⟨b1, o1 + k * 3, none⟩ = some (.string ⟨a.toArray⟩) ∧ W.cell? ⟨b1, o1 + k * 3 + 1, none⟩ = some (.string ⟨cu.toArray⟩) ∧ W.cell? ⟨b1, o1 + k * 3 + 2, none⟩ = some (.string ⟨u.toArray⟩) ∧ W.cell? ⟨b2, o2 + k * 3, none⟩ = some (.string ⟨a'.toArray⟩) ∧ W.cell? ⟨b2, o2 + k * 3 + 1, none⟩ = some (.string ⟨cu'.toArray⟩) ∧ W.cell? ⟨b2, o2 + k * 3 + 2, none⟩ = some (.string ⟨u'.toArray⟩))
        (first | exact (HCC.out _ HD.out).out | go_keep)
        (first
          | (go_at_call 99; refine (KC.out _).mono ?_; rintro e w' ⟨rfl, hb⟩; have HD := Lib.hid (below_next HD.out hb ⟨rfl, rfl, rfl, rfl⟩); clear hb))
      clear g0 g1 r0 r1 r2 s0 s1 s2
      have HB2 := Lib.hid (below_next B0.out HD.out ⟨rfl, rfl, rfl, rfl⟩)
      by_cases hk0' : ck = 0
      case neg =>
        have t1 : (ck == 0) = false := beq_eq_false_iff_ne.2 hk0'
        have t2 : (ck != 0) = true := by rw [bne_iff_ne]; exact hk0'
        have hcl := HL.out
        rw [if_pos hk0'] at hcl
        have hv := Lib.hid (show r = ck by rw [HE.out, HDR.out, hcl, if_pos hk0'])
        clear hcl
        go_wp2_with fail
        exact HP.out _ _ hv.out HB2.out
      have hcl := Lib.hid (show cl = cv by rw [HL.out, if_neg (by omega)])
      subst hk0'
      clear HL KC
      obtain ⟨g0, g1, r0, r1, r2, s0, s1, s2⟩ := (HCC.out _ HD.out).out
      go_wp2_with fail
      go_region_held3 (fun W => W.cell? ⟨w.heap.size, 2, none⟩ = some (.slice (some ⟨b1, o1, none⟩) n c) ∧ W.cell? ⟨w.heap.size + 1, 2, none⟩ = some (.slice (some ⟨b2, o2, none⟩) p d) ∧ W.cell? ⟨b1, o1 + k * 3, none⟩ = some (.string ⟨a.toArray⟩) ∧ W.cell? ⟨b1, o1 + k * 3 + 1, none⟩ = some (.string ⟨cu.toArray⟩) ∧ W.cell? ⟨b1, o1 + k * 3 + 2, none⟩ = some (.string ⟨u.toArray⟩) ∧ W.cell? ⟨b2, o2 + k * 3, none⟩ = some (.string ⟨a'.toArray⟩) ∧ W.cell? ⟨b2, o2 + k * 3 + 1, none⟩ = some (.string ⟨cu'.toArray⟩) ∧ W.cell? ⟨b2, o2 + k * 3 + 2, none⟩ = some (.string ⟨u'.toArray⟩))
        (first | exact (HCC.out _ HD.out).out | go_keep)
        (first
          | (go_at_call 184; refine (VC.out _).mono ?_; rintro e w' ⟨rfl, rfl⟩))
      clear g0 g1 r0 r1 r2 s0 s1 s2
      have HD3 := Lib.hid (HD.out.drew)
      have HB3 := Lib.hid (HB2.out.drew)
      by_cases hv0 : cv = 0
      case neg =>
        have t1 : (cv == 0) = false := beq_eq_false_iff_ne.2 hv0
        have t2 : (cv != 0) = true := by rw [bne_iff_ne]; exact hv0
        have hv := Lib.hid (show r = cv by rw [HE.out, HDR.out, hcl.out, if_pos hv0])
        go_wp2_with fail
        exact HP.out _ _ hv.out HB3.out
      have hv := Lib.hid (show r = cmpLs cmpL (l.drop (k + 1)) (m.drop (k + 1)) by rw [HE.out, HDR.out, hcl.out, if_neg (by omega)])
      subst hv0
      go_wp2_with fail
      go_roundw
      case rel => exact ⟨k + 1, by omega, by omega, by go_num, hv, HD3⟩
      case measure => simp [intOf]; omega
end Go.Proofs.YtohdpidlilhnjaaGreatDoor

/- Putting an amount into lines, plain; reads of rows of three cells. -/
namespace Go.Proofs.YtohdpidlilhnjaaGreatDoor
open Go.RowKit Go.Maps Num

/-- put into lines of which the first k lie ahead -/
theorem putL_at (l : List Ln) (x : Ln) (k : Nat) (h : ∀ y ∈ l.take k, cmpK y x < 0) : putL l x = l.take k ++ putL (l.drop k) x := by
  induction l generalizing k with
  | nil => simp
  | cons y r ih =>
    cases k with
    | zero => simp
    | succ k =>
      rw [List.take_succ_cons, List.drop_succ_cons, List.cons_append, ← ih k fun z hz => h z (by rw [List.take_succ_cons]; exact List.mem_cons_of_mem _ hz)]
      show (if cmpK y x < 0 then y :: putL r x else _) = _
      rw [if_pos (h y (by simp))]
def putX (x : Ln) : List Ln := if val x.2.2 = 0 then [] else [x]
theorem putL_end {l : List Ln} {x : Ln} {k : Nat} (h : ∀ y ∈ l.take k, cmpK y x < 0) (hk : l.length ≤ k) : putL l x = (l.take k ++ putX x) ++ l.drop k := by
  rw [putL_at l x k h, List.drop_of_length_le hk, List.append_nil]; rfl
theorem putL_eq {l : List Ln} {x y : Ln} {k : Nat} (h : ∀ y ∈ l.take k, cmpK y x < 0) (hd : l.drop k = y :: l.drop (k + 1)) (hc : cmpK y x = 0) : putL l x = (l.take k ++ putX (x.1, x.2.1, txt (val y.2.2 + val x.2.2))) ++ l.drop (k + 1) := by
  rw [putL_at l x k h, hd, List.append_assoc]
  congr 1
  show (if cmpK y x < 0 then _ else if cmpK y x = 0 then _ else _) = _
  rw [if_neg (by omega), if_pos hc]
  unfold putX
  simp only [val_txt]
  split <;> rfl
theorem putL_gt {l : List Ln} {x y : Ln} {k : Nat} (h : ∀ y ∈ l.take k, cmpK y x < 0) (hd : l.drop k = y :: l.drop (k + 1)) (hc : 0 < cmpK y x) : putL l x = (l.take k ++ putX x) ++ l.drop k := by
  rw [putL_at l x k h, hd, List.append_assoc]
  congr 1
  show (if cmpK y x < 0 then _ else if cmpK y x = 0 then _ else _) = _
  rw [if_neg (by omega), if_neg (by omega)]
  unfold putX
  split <;> rfl
theorem sign_zero (v : Int) : ((cmpI v 0 != 0) = true ↔ v ≠ 0) := by
  unfold cmpI
  rw [bne_iff_ne]
  split
  · omega
  · split <;> omega
theorem rds3 {W : World} {b o n c : Nat} {l : List Ln} (h : rowL.Rds W (some ⟨b, o, none⟩) n c l) (k : Nat) (hk : k < n) :
    W.cell? ⟨b, o + k * 3, none⟩ = some (.string ⟨(l.getD k ln0).1.toArray⟩) ∧ W.cell? ⟨b, o + k * 3 + 1, none⟩ = some (.string ⟨(l.getD k ln0).2.1.toArray⟩) ∧ W.cell? ⟨b, o + k * 3 + 2, none⟩ = some (.string ⟨(l.getD k ln0).2.2.toArray⟩) :=
  ⟨h.cell rowL_ok ln0 k 0 _ hk rfl, h.cell rowL_ok ln0 k 1 _ hk rfl, h.cell rowL_ok ln0 k 2 _ hk rfl⟩
/-- an amount as it stands in a normal form of k short lines -/
def Amk (k : Nat) (y : Ln) : Prop := (y.2.2.length ≤ 13 ∨ ∃ v, y.2.2 = txt v) ∧ (val y.2.2).natAbs ≤ k * num13
theorem Amk.up {k : Nat} {y : Ln} (h : Amk k y) : Amk (k + 1) y := ⟨h.1, by have := h.2; rw [Nat.add_mul]; omega⟩
theorem val_13 {m : List UInt8} (h : m.length ≤ 13) : (val m).natAbs ≤ num13 :=
  Nat.le_of_lt (Nat.lt_of_lt_of_le (val_bd _) (Nat.pow_le_pow_right (by omega) h))
theorem putL_amk {k : Nat} {l : List Ln} {x : Ln} (h : ∀ y ∈ l, Amk k y) (hx : x.2.2.length ≤ 13) : (putL l x).length ≤ l.length + 1 ∧ ∀ y ∈ putL l x, Amk (k + 1) y := by
  have hx1 := val_13 hx
  have hX : Amk (k + 1) x := ⟨.inl hx, by rw [Nat.add_mul]; omega⟩
  induction l with
  | nil =>
    unfold putL
    split
    · exact ⟨by simp, fun y hy => by cases hy⟩
    · exact ⟨by simp, fun y hy => by rw [List.mem_singleton.1 hy]; exact hX⟩
  | cons z r ih =>
    obtain ⟨i1, i2⟩ := ih fun y hy => h y (List.mem_cons_of_mem _ hy)
    have hz := h z (by simp)
    have hr := fun y hy => (h y (List.mem_cons_of_mem _ hy)).up
    unfold putL
    split
    · refine ⟨by simp only [List.length_cons]; omega, fun y hy => ?_⟩
      rcases List.mem_cons.1 hy with rfl | hy
      · exact hz.up
      · exact i2 y hy
    · split
      · split
        · exact ⟨by simp only [List.length_cons]; omega, hr⟩
        · refine ⟨by simp, fun y hy => ?_⟩
          rcases List.mem_cons.1 hy with rfl | hy
          · refine ⟨.inr ⟨_, rfl⟩, ?_⟩
            simp only [val_txt]
            have := hz.2
            rw [Nat.add_mul]; omega
          · exact hr y hy
      · split
        · refine ⟨by simp, fun y hy => ?_⟩
          rcases List.mem_cons.1 hy with rfl | hy
          · exact hz.up
          · exact hr y hy
        · refine ⟨by simp, fun y hy => ?_⟩
          rcases List.mem_cons.1 hy with rfl | hy
          · exact hX
          · rcases List.mem_cons.1 hy with rfl | hy
            · exact hz.up
            · exact hr y hy
theorem nrmL_amk (l : List Ln) (hl : ∀ x ∈ l, x.2.2.length ≤ 13) (k : Nat) (hk : k ≤ l.length) : (nrmL (l.take k)).length ≤ k ∧ ∀ y ∈ nrmL (l.take k), Amk k y := by
  induction k with
  | zero => exact ⟨by simp [nrmL], fun y hy => by simp [nrmL] at hy⟩
  | succ k ih =>
    obtain ⟨i1, i2⟩ := ih (by omega)
    rw [take_ln l k (by omega), nrmL_snoc]
    obtain ⟨p1, p2⟩ := putL_amk i2 (hl _ (lnAt_mem l k (by omega)))
    exact ⟨by omega, p2⟩
theorem amk_short {k : Nat} {y : Ln} (h : Amk k y) (hk : k ≤ 1000) : (dgs y.2.2).length ≤ 17 ∧ y.2.2.length ≤ 1000000 := by
  obtain ⟨h1, h2⟩ := h
  rcases h1 with h1 | ⟨v, h1⟩
  · exact ⟨dgs_13 h1, by omega⟩
  · rw [h1, val_txt] at h2
    have h3 : k * num13 ≤ 1000 * num13 := Nat.mul_le_mul_right _ hk
    have h4 : 1000 * num13 < 10 ^ 17 := by decide
    have h5 : v.natAbs < 10 ^ 17 := by omega
    rw [h1]
    exact ⟨dgs_txt_len h5, by have := txt_bd h5; omega⟩
theorem amk_100 {k : Nat} {y : Ln} (h : Amk k y) (hk : k ≤ 1000) : y.2.2.length ≤ 20 := by
  obtain ⟨h1, h2⟩ := h
  rcases h1 with h1 | ⟨v, h1⟩
  · omega
  · rw [h1, val_txt] at h2
    have h3 : k * num13 ≤ 1000 * num13 := Nat.mul_le_mul_right _ hk
    have h4 : 1000 * num13 < 10 ^ 17 := by decide
    have := txt_bd (show v.natAbs < 10 ^ 17 by omega)
    rw [h1]; omega
end Go.Proofs.YtohdpidlilhnjaaGreatDoor

/- Contract of the reference's GreatOne, for any entry. -/
namespace Go.Proofs.YtohdpidlilhnjaaGreatDoor
open Go.RowKit Go.Maps Num

def lnG (x : Ln) : Bool := decide (60 < x.1.length) || decide (60 < x.2.1.length) || decide (13 < x.2.2.length)
/-- larger than the statements examine -/
def g1B (c : List UInt8) (l : List Ln) : Bool := decide (60 < c.length) || (decide (8 < l.length) && decide (l.length ≤ 64)) || decide (66 < l.length) || l.any lnG
set_option maxRecDepth 100000 in
theorem rlong_all (l : List UInt8) (w : World) : Calls Tryz.prog 77 #[.string ⟨l.toArray⟩] w (RetP (.bool (decide (13 < l.length))) w) := by
  have h : decide (13 < l.length) = decide ((13 : Int) < (l.length : Int)) := by
    rw [Bool.eq_iff_iff, decide_eq_true_iff, decide_eq_true_iff]; omega
  rw [h]
  go_enter Tryz.func77, Tryz.ntmps77
  go_wp2_with fail
  go_ret
  exact ⟨rfl, rfl⟩
theorem any_take {l : List Ln} {k : Nat} (h : k < l.length) (hg : lnG (l.getD k ln0) = true) : l.any lnG = true := List.any_eq_true.2 ⟨_, lnAt_mem l k h, hg⟩
theorem any_none {l : List Ln} (h : ∀ x ∈ l, lnG x = false) : l.any lnG = false := by
  rw [List.any_eq_false]
  exact fun x hx => by rw [h x hx]; decide
set_option maxRecDepth 100000 in
set_option maxHeartbeats 8000000 in
theorem rgreat1_any (d : Int) (cz : List UInt8) (A : Option Addr) (n c : Nat) (l : List Ln) (w : World) (hl : rowL.Rds w A n c l) : Calls Tryz.prog 83 #[.agg (enV d cz A n c)] w (BoolPost (g1B cz l) w) := by
  have ll := Lib.hid hl.len
  have hB0 : Below w.heap.size w (w.alloc (.cells #[.int .i64 d, .string ⟨cz.toArray⟩, .slice A n c] 39)) := (Below.refl _ w).alloc (Nat.le_refl _) _
  obtain ⟨⟨c0, c1, c2⟩, _⟩ := cells3 (heap_alloc_new w (.cells #[.int .i64 d, .string ⟨cz.toArray⟩, .slice A n c] 39))
  have HP := Lib.hid (fun W b (h : g1B cz l = b) (hb : Below w.heap.size w W) => (show BoolPost (g1B cz l) w (.returned (.bool b)) W from ⟨by rw [h], hb⟩))
  have HG := Lib.hid (show g1B cz l = (decide (60 < cz.length) || (decide (8 < n) && decide (n ≤ 64)) || decide (66 < n) || l.any lnG) by rw [← hl.len]; rfl)
  generalize BoolPost (g1B cz l) w = Post at *
  generalize g1B cz l = r at *
  have B0 := Lib.hid hB0
  have L1 := Lib.hid hl
  clear hl hB0
  unfold enV
  go_enter Tryz.func83, Tryz.ntmps83
  by_cases h1 : 60 < cz.length
  · have t1 : decide (60 < (cz.length : Int)) = true := by rw [decide_eq_true_iff]; omega
    have hv := Lib.hid (show r = true by rw [HG.out, decide_eq_true h1]; rfl)
    clear h1
    go_wp2_with fail
    exact HP.out _ _ hv.out B0.out
  have t1 : decide (60 < (cz.length : Int)) = false := by rw [decide_eq_false_iff_not]; omega
  have HG1 := Lib.hid (show r = ((decide (8 < n) && decide (n ≤ 64)) || decide (66 < n) || l.any lnG) by rw [HG.out, decide_eq_false h1, Bool.false_or])
  clear HG h1
  by_cases h2 : 8 < n ∧ n ≤ 64
  · have t2 : decide (8 < (n : Int)) = true := by rw [decide_eq_true_iff]; omega
    have t3 : decide ((n : Int) ≤ 64) = true := by rw [decide_eq_true_iff]; omega
    have hv := Lib.hid (show r = true by rw [HG1.out, decide_eq_true h2.1, decide_eq_true h2.2]; rfl)
    clear h2
    go_wp2_with fail
    exact HP.out _ _ hv.out B0.out
  have HG2 := Lib.hid (show r = (decide (66 < n) || l.any lnG) by
    rw [HG1.out, show (decide (8 < n) && decide (n ≤ 64)) = false by rw [← Bool.decide_and]; exact decide_eq_false h2, Bool.false_or])
  clear HG1
  by_cases h3 : 66 < n
  · have t2 : decide (8 < (n : Int)) = true := by rw [decide_eq_true_iff]; omega
    have t3 : decide ((n : Int) ≤ 64) = false := by rw [decide_eq_false_iff_not]; omega
    have t4 : decide (66 < (n : Int)) = true := by rw [decide_eq_true_iff]; omega
    have hv := Lib.hid (show r = true by rw [HG2.out, decide_eq_true h3]; rfl)
    clear h2 h3
    go_wp2_with fail
    exact HP.out _ _ hv.out B0.out
  have HG3 := Lib.hid (show r = l.any lnG by rw [HG2.out, decide_eq_false h3, Bool.false_or])
  have t4 : decide (66 < (n : Int)) = false := by rw [decide_eq_false_iff_not]; omega
  clear HG2
  have hn66 : n ≤ 66 := by omega
  by_cases h8 : 8 < n
  · have t2 : decide (8 < (n : Int)) = true := by rw [decide_eq_true_iff]; omega
    have t3 : decide ((n : Int) ≤ 64) = false := by rw [decide_eq_false_iff_not]; omega
    clear h8
    go_wp2_with fail
    generalize w.alloc (.cells #[.int .i64 d, .string ⟨cz.toArray⟩, .slice A n c] 39) = w1 at *
    have X0 := Lib.hid c2
    clear c0 c1 c2
    go_loopw [4] (fun i wr => ∃ k : Nat, k ≤ n ∧ i = .int .i64 (k : Int) ∧ Hid (∀ x ∈ l.take k, lnG x = false) ∧ Hid (Below w1.heap.size w1 wr)) (fun i _ => n - (intOf i).toNat)
    case atStart => exact ⟨0, by omega, rfl, Lib.hid (by simp), Lib.hid (Below.refl _ _)⟩
    case round =>
      obtain ⟨k, hk, rfl, HE, HC⟩ := hrel
      have HB := Lib.hid (below_next B0.out HC.out ⟨rfl, rfl, rfl, rfl⟩)
      have a02 := (HC.out.cell (p := ⟨w.heap.size, 2, none⟩) (block_lt_of_cell X0.out)).trans X0.out
      by_cases hlt : k < n
      · have hkl : k < l.length := by rw [ll.out]; exact hlt
        obtain ⟨b1, o1, rfl, hb1, _⟩ := L1.out.at_ (by omega)
        obtain ⟨p0, p1, p2⟩ := rds3 (L1.out.below HB.out) k hlt
        have hki : (k : Int) < (n : Int) := by omega
        have HT := Lib.hid (fun h => HG3.out.trans (any_take hkl h))
        have HTK := Lib.hid (take_ln l k hkl)
        clear hkl
        generalize l.getD k ln0 = y at *
        obtain ⟨ya, yc, ym⟩ := y
        simp only at p0 p1 p2
        have LC := Lib.hid (fun W => rlong_all ym W)
        unfold RetP at LC
        have HY := Lib.hid (show lnG (ya, yc, ym) = (decide (60 < ya.length) || decide (60 < yc.length) || decide (13 < ym.length)) from rfl)
        obtain ⟨gy, hgy⟩ : ∃ gy, lnG (ya, yc, ym) = gy := ⟨_, rfl⟩
        rw [hgy] at HT HY
        have HYG := Lib.hid hgy
        clear hgy
        by_cases g1 : 60 < ya.length
        · have u1 : decide (60 < (ya.length : Int)) = true := by rw [decide_eq_true_iff]; omega
          have hv := Lib.hid (HT.out (by rw [HY.out, decide_eq_true g1]; rfl))
          clear g1
          go_wp2_with fail
          exact HP.out _ _ hv.out HB.out
        have u1 : decide (60 < (ya.length : Int)) = false := by rw [decide_eq_false_iff_not]; omega
        by_cases g2 : 60 < yc.length
        · have u2 : decide (60 < (yc.length : Int)) = true := by rw [decide_eq_true_iff]; omega
          have hv := Lib.hid (HT.out (by rw [HY.out, decide_eq_false g1, decide_eq_true g2]; rfl))
          clear g1 g2
          go_wp2_with fail
          exact HP.out _ _ hv.out HB.out
        have u2 : decide (60 < (yc.length : Int)) = false := by rw [decide_eq_false_iff_not]; omega
        have HY2 := Lib.hid (show gy = decide (13 < ym.length) by rw [HY.out, decide_eq_false g1, decide_eq_false g2]; rfl)
        clear HY g1 g2
        generalize decide (13 < ym.length) = lg at *
        go_wp2_with fail
        refine (LC.out _).mono ?_
        rintro e w' ⟨rfl, rfl⟩
        cases lg
        · have HE2 := Lib.hid (show ∀ x ∈ l.take (k + 1), lnG x = false from fun x hx => by
            rw [HTK.out] at hx
            rcases List.mem_append.1 hx with h | h
            · exact HE.out x h
            · rw [List.mem_singleton.1 h]; exact HYG.out.trans HY2.out)
          go_wp2_with fail
          go_roundw
          case rel => exact ⟨k + 1, by omega, by go_num, HE2, HC⟩
          case measure => simp [intOf]; omega
        · have hv := Lib.hid (HT.out HY2.out)
          go_wp2_with fail
          exact HP.out _ _ hv.out HB.out
      · have hkn : k = n := by omega
        subst hkn
        have hki : ¬ (k : Int) < (k : Int) := by omega
        have e := HE.out
        rw [List.take_of_length_le (by rw [ll.out]; exact Nat.le_refl _)] at e
        have hv := Lib.hid (HG3.out.trans (any_none e))
        clear e HE
        go_wp2_with fail
        exact HP.out _ _ hv.out HB.out
  · have t2 : decide (8 < (n : Int)) = false := by rw [decide_eq_false_iff_not]; omega
    clear h8
    go_wp2_with fail
    generalize w.alloc (.cells #[.int .i64 d, .string ⟨cz.toArray⟩, .slice A n c] 39) = w1 at *
    have X0 := Lib.hid c2
    clear c0 c1 c2
    go_loopw [4] (fun i wr => ∃ k : Nat, k ≤ n ∧ i = .int .i64 (k : Int) ∧ Hid (∀ x ∈ l.take k, lnG x = false) ∧ Hid (Below w1.heap.size w1 wr)) (fun i _ => n - (intOf i).toNat)
    case atStart => exact ⟨0, by omega, rfl, Lib.hid (by simp), Lib.hid (Below.refl _ _)⟩
    case round =>
      obtain ⟨k, hk, rfl, HE, HC⟩ := hrel
      have HB := Lib.hid (below_next B0.out HC.out ⟨rfl, rfl, rfl, rfl⟩)
      have a02 := (HC.out.cell (p := ⟨w.heap.size, 2, none⟩) (block_lt_of_cell X0.out)).trans X0.out
      by_cases hlt : k < n
      · have hkl : k < l.length := by rw [ll.out]; exact hlt
        obtain ⟨b1, o1, rfl, hb1, _⟩ := L1.out.at_ (by omega)
        obtain ⟨p0, p1, p2⟩ := rds3 (L1.out.below HB.out) k hlt
        have hki : (k : Int) < (n : Int) := by omega
        have HT := Lib.hid (fun h => HG3.out.trans (any_take hkl h))
        have HTK := Lib.hid (take_ln l k hkl)
        clear hkl
        generalize l.getD k ln0 = y at *
        obtain ⟨ya, yc, ym⟩ := y
        simp only at p0 p1 p2
        have LC := Lib.hid (fun W => rlong_all ym W)
        unfold RetP at LC
        have HY := Lib.hid (show lnG (ya, yc, ym) = (decide (60 < ya.length) || decide (60 < yc.length) || decide (13 < ym.length)) from rfl)
        obtain ⟨gy, hgy⟩ : ∃ gy, lnG (ya, yc, ym) = gy := ⟨_, rfl⟩
        rw [hgy] at HT HY
        have HYG := Lib.hid hgy
        clear hgy
        by_cases g1 : 60 < ya.length
        · have u1 : decide (60 < (ya.length : Int)) = true := by rw [decide_eq_true_iff]; omega
          have hv := Lib.hid (HT.out (by rw [HY.out, decide_eq_true g1]; rfl))
          clear g1
          go_wp2_with fail
          exact HP.out _ _ hv.out HB.out
        have u1 : decide (60 < (ya.length : Int)) = false := by rw [decide_eq_false_iff_not]; omega
        by_cases g2 : 60 < yc.length
        · have u2 : decide (60 < (yc.length : Int)) = true := by rw [decide_eq_true_iff]; omega
          have hv := Lib.hid (HT.out (by rw [HY.out, decide_eq_false g1, decide_eq_true g2]; rfl))
          clear g1 g2
          go_wp2_with fail
          exact HP.out _ _ hv.out HB.out
        have u2 : decide (60 < (yc.length : Int)) = false := by rw [decide_eq_false_iff_not]; omega
        have HY2 := Lib.hid (show gy = decide (13 < ym.length) by rw [HY.out, decide_eq_false g1, decide_eq_false g2]; rfl)
        clear HY g1 g2
        generalize decide (13 < ym.length) = lg at *
        go_wp2_with fail
        refine (LC.out _).mono ?_
        rintro e w' ⟨rfl, rfl⟩
        cases lg
        · have HE2 := Lib.hid (show ∀ x ∈ l.take (k + 1), lnG x = false from fun x hx => by
            rw [HTK.out] at hx
            rcases List.mem_append.1 hx with h | h
            · exact HE.out x h
            · rw [List.mem_singleton.1 h]; exact HYG.out.trans HY2.out)
          go_wp2_with fail
          go_roundw
          case rel => exact ⟨k + 1, by omega, by go_num, HE2, HC⟩
          case measure => simp [intOf]; omega
        · have hv := Lib.hid (HT.out HY2.out)
          go_wp2_with fail
          exact HP.out _ _ hv.out HB.out
      · have hkn : k = n := by omega
        subst hkn
        have hki : ¬ (k : Int) < (k : Int) := by omega
        have e := HE.out
        rw [List.take_of_length_le (by rw [ll.out]; exact Nat.le_refl _)] at e
        have hv := Lib.hid (HG3.out.trans (any_none e))
        clear e HE
        go_wp2_with fail
        exact HP.out _ _ hv.out HB.out
end Go.Proofs.YtohdpidlilhnjaaGreatDoor

/- Entries, plain: what a check that succeeds says, normal forms, reversals. -/
namespace Go.Proofs.YtohdpidlilhnjaaGreatDoor
open Go.RowKit Go.Maps Num

def okE (x : En) : Bool := decide (chkE x.1 x.2.1 x.2.2 = 0)
theorem chkLs_zero {p : Option Ky} {l : List Ln} (h : chkLs p l = 0) : ∀ x ∈ l, lineI x = 0 ∧ x.2.2 ≠ [] := by
  induction l generalizing p with
  | nil => intro x hx; cases hx
  | cons y r ih =>
    rw [chkLs_cons] at h
    split at h
    · omega
    · rename_i h0
      split at h
      · omega
      · rename_i h1
        split at h
        · omega
        · intro x hx
          rcases List.mem_cons.1 hx with e | e
          · subst e; exact ⟨by omega, h1⟩
          · exact ih h x e
theorem chkE_parts {d : Int} {c : List UInt8} {l : List Ln} (h : chkE d c l = 0) : headI d c = 0 ∧ 0 < l.length ∧ l.length ≤ 64 ∧ chkLs none l = 0 ∧ balB l = true := by
  unfold chkE at h
  split at h
  · omega
  · rename_i h0
    split at h
    · omega
    · rename_i h1
      split at h
      · omega
      · rename_i h2
        split at h
        · omega
        · rename_i h3
          split at h
          · rename_i h4
            exact ⟨by omega, by omega, by omega, by omega, h4⟩
          · omega
theorem lineI_canB {x : Ln} (h : lineI x = 0) : canB x = true := by
  unfold lineI at h
  split at h
  · split at h
    · unfold chkI at h
      split at h
      · rename_i h0; unfold canB; exact decide_eq_true h0
      · omega
    · omega
  · omega
theorem okE_can {x : En} (h : okE x = true) : x.2.2.all canB = true := by
  obtain ⟨_, _, _, h4, _⟩ := chkE_parts (of_decide_eq_true h)
  rw [List.all_eq_true]
  exact fun y hy => lineI_canB (chkLs_zero h4 y hy).1
theorem ok_tight {l : List En} (h : ∀ x ∈ l, okE x = true) : Tight cmpE l := fun a ha b hb e => (cmpE_zero (okE_can (h a ha)) (okE_can (h b hb))).1 e
/-- the sizes that are examined -/
structure Fit (c : List UInt8) (l : List Ln) : Prop where
  cause : c.length ≤ 60
  len : l.length ≤ 66
  ln : ∀ x ∈ l, x.1.length ≤ 60 ∧ x.2.1.length ≤ 60 ∧ x.2.2.length ≤ 13
theorem g1_fit {c : List UInt8} {l : List Ln} (h : g1B c l = false) : Fit c l := by
  unfold g1B at h
  rw [Bool.or_eq_false_iff, Bool.or_eq_false_iff, Bool.or_eq_false_iff] at h
  obtain ⟨⟨⟨h1, _⟩, h3⟩, h4⟩ := h
  refine ⟨by have := of_decide_eq_false h1; omega, by have := of_decide_eq_false h3; omega, fun x hx => ?_⟩
  have h5 := List.any_eq_false.1 h4 x hx
  unfold lnG at h5
  rw [Bool.not_eq_true, Bool.or_eq_false_iff, Bool.or_eq_false_iff] at h5
  have := of_decide_eq_false h5.1.1
  have := of_decide_eq_false h5.1.2
  have := of_decide_eq_false h5.2
  omega
theorem Fit.sml {c : List UInt8} {l : List Ln} (h : Fit c l) : ∀ x ∈ l, Sml x := fun x hx => by
  obtain ⟨h1, h2, h3⟩ := h.ln x hx
  exact ⟨by omega, by omega, by omega⟩
theorem Fit.lns {w : World} {A : Option Addr} {n k : Nat} {c : List UInt8} {l : List Ln} (h : Fit c l) (hr : rowL.Rds w A n k l) : Lns w A n k l :=
  Lns.of_rds hr (by rw [← hr.len]; have := h.len; omega) h.sml
theorem Lns.none (w : World) : Lns w none 0 0 [] := ⟨rfl, Nat.le_refl _, by unfold maxLen; omega, by omega, fun x hx => (List.not_mem_nil hx).elim, fun h => absurd h (Nat.lt_irrefl 0)⟩
/-- an entry and a code, returned -/
def EnP (y : En) (i : Int) (w : World) (e : Ending) (w' : World) : Prop :=
  ∃ A n c, e = .returned (.tuple #[.agg (enV y.1 y.2.1 A n c), .int .i64 i]) ∧ Lns w' A n c y.2.2 ∧ Below w.heap.size w w'
def revY (d : Int) (c : List UInt8) (l : List Ln) : En := if chkE d c l = 0 then (d, c, l.map negL) else en0
def revI (d : Int) (c : List UInt8) (l : List Ln) : Int := if chkE d c l = 0 then 0 else 1
theorem rev_enp {d : Int} {c : List UInt8} {l : List Ln} {w w' : World} {e : Ending} (h : RevPost d c l w e w') : EnP (revY d c l) (revI d c l) w e w' := by
  obtain ⟨hb, h⟩ := h
  unfold revY revI
  split at h
  · rename_i h0
    obtain ⟨A, k, rfl, hL⟩ := h
    rw [if_pos h0, if_pos h0]
    exact ⟨A, _, k, rfl, hL, hb⟩
  · rename_i h0
    rw [if_neg h0, if_neg h0, h]
    exact ⟨none, 0, 0, rfl, Lns.none _, hb⟩
/-! what a check that succeeds says -/
theorem lineI_iff {x : Ln} : lineI x = 0 ↔ codeB x.1 = true ∧ curB x.2.1 = true ∧ canB x = true := by
  unfold lineI
  constructor
  · intro h
    split at h
    · rename_i h1
      split at h
      · rename_i h2
        unfold chkI at h
        split at h
        · rename_i h3; exact ⟨h1, h2, decide_eq_true h3⟩
        · omega
      · omega
    · omega
  · rintro ⟨h1, h2, h3⟩
    rw [if_pos h1, if_pos h2, chkI, if_pos (of_decide_eq_true h3)]
theorem fldI_of {l : List Ln} (h : ∀ x ∈ l, lineI x = 0) : fldI l = 0 := by
  induction l with
  | nil => rfl
  | cons x r ih => rw [fldI_cons, if_neg (by rw [h x (by simp)]; decide), ih fun y hy => h y (List.mem_cons_of_mem _ hy)]
theorem chkLs_ord {p : Option Ky} {l : List Ln} (h : chkLs p l = 0) : OrdL l ∧ ∀ q, p = some q → ∀ x ∈ l, cmpKy q (key x) = -1 := by
  induction l generalizing p with
  | nil => exact ⟨List.Pairwise.nil, fun q _ x hx => (List.not_mem_nil hx).elim⟩
  | cons y r ih =>
    rw [chkLs_cons] at h
    split at h
    · omega
    · split at h
      · omega
      · split at h
        · omega
        · rename_i h2
          obtain ⟨i1, i2⟩ := ih h
          have i3 := i2 _ rfl
          refine ⟨List.pairwise_cons.2 ⟨i3, i1⟩, fun q hq x hx => ?_⟩
          subst hq
          have h4 : cmpKy q (key y) = -1 := by
            have h5 : ¬ 0 ≤ cmpKy q (key y) := fun hc => h2 (decide_eq_true hc)
            have := cmpKy_cmp.rng q (key y)
            omega
          rcases List.mem_cons.1 hx with e | e
          · subst e; exact h4
          · exact cmpKy_cmp.tr _ _ _ h4 (i3 x e)
theorem chkLs_of {p : Option Ky} {l : List Ln} (h : ∀ x ∈ l, lineI x = 0 ∧ x.2.2 ≠ []) (ho : OrdL l) (hp : ∀ q, p = some q → ∀ x ∈ l, cmpKy q (key x) = -1) : chkLs p l = 0 := by
  induction l generalizing p with
  | nil => unfold chkLs; rfl
  | cons y r ih =>
    unfold OrdL at ho
    rw [List.pairwise_cons] at ho
    obtain ⟨h1, h2⟩ := h y (by simp)
    have h3 : ¬ ordB p (key y) = true := by
      cases p with
      | none => exact fun e => by cases e
      | some q =>
        have := hp q rfl y (by simp)
        intro e
        have : 0 ≤ cmpKy q (key y) := of_decide_eq_true e
        omega
    rw [chkLs_cons, if_neg (by rw [h1]; decide), if_neg h2, if_neg h3]
    exact ih (fun x hx => h x (List.mem_cons_of_mem _ hx)) ho.2 fun q hq x hx => by cases hq; exact ho.1 x hx
structure Vld (d : Int) (c : List UInt8) (l : List Ln) : Prop where
  head : headI d c = 0
  pos : 0 < l.length
  top : l.length ≤ 64
  ln : ∀ x ∈ l, lineI x = 0 ∧ x.2.2 ≠ []
  ord : OrdL l
  bal : balB l = true
theorem chkE_iff {d : Int} {c : List UInt8} {l : List Ln} : chkE d c l = 0 ↔ Vld d c l := by
  constructor
  · intro h
    obtain ⟨h1, h2, h3, h4, h5⟩ := chkE_parts h
    exact ⟨h1, h2, h3, chkLs_zero h4, (chkLs_ord h4).1, h5⟩
  · rintro ⟨h1, h2, h3, h4, h5, h6⟩
    have h7 := chkLs_of (p := none) h4 h5 fun q e => by cases e
    unfold chkE
    rw [if_neg (by rw [h1]; decide), if_neg (by omega), if_neg (by omega), if_neg (by rw [h7]; decide), if_pos h6]
theorem Vld.can {d : Int} {c : List UInt8} {l : List Ln} (h : Vld d c l) : ∀ x ∈ l, canB x = true := fun x hx => (lineI_iff.1 (h.ln x hx).1).2.2
theorem Vld.all {d : Int} {c : List UInt8} {l : List Ln} (h : Vld d c l) : l.all canB = true := List.all_eq_true.2 h.can
/-- the sum of a line's key is its amount -/
theorem Vld.amt {d : Int} {c : List UInt8} {l : List Ln} (h : Vld d c l) {x : Ln} (hx : x ∈ l) : txt (Num.tot l (key x)) = x.2.2 := by
  rw [tot_mem h.ord.keys hx]; exact (canB_txt (h.can x hx)).symm
theorem Vld.ne {d : Int} {c : List UInt8} {l : List Ln} (h : Vld d c l) {x : Ln} (hx : x ∈ l) : val x.2.2 ≠ 0 := val_ne (of_decide_eq_true (h.can x hx)) (h.ln x hx).2
/-! normal forms -/
structure Nrd (d : Int) (c : List UInt8) (l : List Ln) : Prop where
  head : headI d c = 0
  ln : ∀ x ∈ l, lineI x = 0
  bal : balB l = true
  top : (nrmL l).length ≤ 64
theorem nrmI_iff {d : Int} {c : List UInt8} {l : List Ln} : nrmI d c l = 0 ↔ Nrd d c l := by
  unfold nrmI
  constructor
  · intro h
    split at h
    · omega
    · split at h
      · omega
      · split at h
        · omega
        · split at h
          · omega
          · rename_i h1 h2 h3 h4
            exact ⟨by omega, fldI_zero (by omega), by simpa using h3, by omega⟩
  · rintro ⟨h1, h2, h3, h4⟩
    rw [if_neg (by rw [h1]; decide), if_neg (by rw [fldI_of h2]; decide), if_neg (by rw [h3]; decide), if_neg (by omega)]
theorem Nrd.can {d : Int} {c : List UInt8} {l : List Ln} (h : Nrd d c l) : ∀ x ∈ l, canB x = true := fun x hx => (lineI_iff.1 (h.ln x hx)).2.2
theorem Nrd.of {d : Int} {c : List UInt8} {l : List Ln} (h : Nrd d c l) : NormOf l (nrmL l) := nrmL_of l h.can
theorem Vld.nrm {d : Int} {c : List UInt8} {l : List Ln} (h : Vld d c l) : nrmL l = l := nrmL_self h.ord fun x hx => ⟨h.can x hx, (h.ln x hx).2⟩
theorem Vld.nrd {d : Int} {c : List UInt8} {l : List Ln} (h : Vld d c l) : Nrd d c l := ⟨h.head, fun x hx => (h.ln x hx).1, h.bal, by rw [h.nrm]; exact h.top⟩
theorem nrm_key {l out : List Ln} (h : NormOf l out) {z : Ln} (hz : z ∈ out) : ∃ x ∈ l, key x = key z := by
  by_cases e : ∃ x ∈ l, key x = key z
  · exact e
  · exact absurd (tot_none fun x hx ek => e ⟨x, hx, ek⟩) ((h.mem z).1 hz).2
theorem Nrd.nln {d : Int} {c : List UInt8} {l : List Ln} (h : Nrd d c l) : ∀ z ∈ nrmL l, lineI z = 0 ∧ z.2.2 ≠ [] := fun z hz => by
  obtain ⟨x, hx, e⟩ := nrm_key h.of hz
  obtain ⟨h1, h2, _⟩ := lineI_iff.1 (h.ln x hx)
  have h3 := h.of.amt z hz
  simp only [key, Prod.mk.injEq] at e
  exact ⟨lineI_iff.2 ⟨by rw [← e.1]; exact h1, by rw [← e.2]; exact h2, h3.1⟩, h3.2⟩
theorem Nrd.self {d : Int} {c : List UInt8} {l : List Ln} (h : Nrd d c l) : nrmL (nrmL l) = nrmL l := nrmL_self h.of.ord h.of.amt
theorem Nrd.again {d : Int} {c : List UInt8} {l : List Ln} (h : Nrd d c l) : Nrd d c (nrmL l) :=
  ⟨h.head, fun z hz => (h.nln z hz).1, by rw [balB_of_tot h.of.tot]; exact h.bal, by rw [h.self]; exact h.top⟩
theorem Nrd.vld {d : Int} {c : List UInt8} {l : List Ln} (h : Nrd d c l) (h0 : 0 < (nrmL l).length) : Vld d c (nrmL l) :=
  ⟨h.head, h0, h.top, h.nln, h.of.ord, by rw [balB_of_tot h.of.tot]; exact h.bal⟩
/-- a list with the same sums, whose lines are well formed, has the same normal form -/
theorem Nrd.same {d : Int} {c : List UInt8} {l m : List Ln} (h : Nrd d c l) (hm : ∀ x ∈ m, lineI x = 0) (ht : ∀ k, tot m k = tot l k) : Nrd d c m ∧ nrmL m = nrmL l := by
  have e := nrmL_tot (fun x hx => (lineI_iff.1 (hm x hx)).2.2) h.can ht
  exact ⟨⟨h.head, hm, by rw [balB_of_tot ht]; exact h.bal, by rw [e]; exact h.top⟩, e⟩
/-! reversals -/
theorem canB_t {a b : List UInt8} {v : Int} : canB (a, b, txt v) = true := by
  unfold canB can
  rw [val_txt]
  exact decide_eq_true rfl
theorem negL_key (x : Ln) : key (negL x) = key x := rfl
theorem negL_val (x : Ln) : val (negL x).2.2 = - val x.2.2 := val_txt _
theorem negL_twice {x : Ln} (h : canB x = true) : negL (negL x) = x := by
  unfold negL
  rw [val_txt, Int.neg_neg, ← canB_txt h]
theorem Vld.neg {d : Int} {c : List UInt8} {l : List Ln} (h : Vld d c l) : Vld d c (l.map negL) := by
  refine ⟨h.head, by rw [List.length_map]; exact h.pos, by rw [List.length_map]; exact h.top, fun z hz => ?_, ?_, ?_⟩
  · obtain ⟨x, hx, rfl⟩ := List.mem_map.1 hz
    obtain ⟨h1, h2, _⟩ := lineI_iff.1 (h.ln x hx).1
    refine ⟨lineI_iff.2 ⟨h1, h2, canB_t⟩, fun e => ?_⟩
    have := h.ne hx
    have := txt_nil.1 e
    omega
  · exact List.Pairwise.map negL (fun a b h => h) h.ord
  · rw [balB_iff]
    intro q
    have := curT_opp l q
    have h2 := balB_iff.1 h.bal q
    show curT (l.map oppL) q = 0
    omega
theorem Vld.twice {d : Int} {c : List UInt8} {l : List Ln} (h : Vld d c l) : (l.map negL).map negL = l := by
  rw [List.map_map]
  conv => rhs; rw [← List.map_id l]
  exact List.map_congr_left fun x hx => negL_twice (h.can x hx)
theorem Vld.both {d : Int} {c : List UInt8} {l : List Ln} (h : Vld d c l) : Nrd d c (l ++ l.map negL) ∧ nrmL (l ++ l.map negL) = [] := by
  have hl : ∀ x ∈ l ++ l.map negL, lineI x = 0 := fun x hx => by
    rcases List.mem_append.1 hx with e | e
    · exact (h.ln x e).1
    · exact (h.neg.ln x e).1
  have ht : ∀ k, tot (l ++ l.map negL) k = tot [] k := fun k => by
    have := tot_opp l k
    rw [tot_append, tot_nil]
    show tot l k + tot (l.map oppL) k = 0
    omega
  have e : nrmL (l ++ l.map negL) = [] := by
    rw [nrmL_tot (m := []) (fun x hx => (lineI_iff.1 (hl x hx)).2.2) (fun x hx => (List.not_mem_nil hx).elim) ht]; rfl
  exact ⟨⟨h.head, hl, by rw [balB_of_tot ht]; rfl, by rw [e]; decide⟩, e⟩
theorem Vld.opp {d : Int} {c : List UInt8} {l : List Ln} (h : Vld d c l) {x : Ln} (hx : x ∈ l) : Num.tot (l.map negL) (key x) = - val x.2.2 := by
  have := tot_opp l (key x)
  rw [tot_mem h.ord.keys hx] at this
  exact this
theorem neg_len {c : List UInt8} {l : List Ln} (h : Fit c l) : ∀ z ∈ l.map negL, z.2.2.length ≤ 14 := fun z hz => by
  obtain ⟨x, hx, rfl⟩ := List.mem_map.1 hz
  have h1 := val_bd x.2.2
  have h2 : 10 ^ x.2.2.length ≤ 10 ^ 13 := Nat.pow_le_pow_right (by omega) (h.ln x hx).2.2
  have := txt_bd (v := - val x.2.2) (k := 13) (by omega)
  exact this
theorem nrm_len {c : List UInt8} {l : List Ln} (h : Fit c l) : ∀ z ∈ nrmL l, z.2.2.length ≤ 20 := fun z hz => by
  have h1 := (nrmL_amk l (fun x hx => (h.ln x hx).2.2) l.length (Nat.le_refl _)).2
  rw [List.take_length] at h1
  exact amk_100 (h1 z hz) (by have := h.len; omega)
/-! the order -/
theorem cmpE_ne_rev {d : Int} {c : List UInt8} {l : List Ln} (h : Vld d c l) : cmpE (d, c, l) (d, c, l.map negL) ≠ 0 := by
  intro e
  have e1 := (cmpE_zero (a := (d, c, l)) (b := (d, c, l.map negL)) h.all h.neg.all).1 e
  have e2 : l = l.map negL := congrArg (fun q : En => q.2.2) e1
  obtain ⟨x, hx⟩ := List.exists_mem_of_length_pos h.pos
  have h1 := h.opp hx
  rw [← e2, tot_mem h.ord.keys hx] at h1
  have := h.ne hx
  omega
theorem cmp3 {x y z : En} : ¬ (cmpE x y ≤ 0 ∧ cmpE y z ≤ 0 ∧ min (cmpE x y) (cmpE y z) < cmpE x z) ∧ ¬ (0 ≤ cmpE x y ∧ 0 ≤ cmpE y z ∧ cmpE x z < max (cmpE x y) (cmpE y z)) := by
  have hc := cmpE_cmp
  have r1 := hc.rng x y
  have r2 := hc.rng y z
  have r3 := hc.rng x z
  have e1 := hc.eqv x y z
  have e2 := hc.eqv' y z x
  have t1 := hc.tr x y z
  have t2 := hc.ge x y z
  constructor
  · rintro ⟨h1, h2, h3⟩
    rcases r1 with r1 | r1 | r1 <;> rcases r2 with r2 | r2 | r2 <;> omega
  · rintro ⟨h1, h2, h3⟩
    rcases r1 with r1 | r1 | r1 <;> rcases r2 with r2 | r2 | r2 <;> omega
end Go.Proofs.YtohdpidlilhnjaaGreatDoor

/- Ledgers, plain: the lines of entries, trial balances, lists of balances. -/
namespace Go.Proofs.YtohdpidlilhnjaaGreatDoor
open Go.RowKit Go.Maps Num

/-- the lines of the entries whose day is accepted -/
def flat (l : List En) (p : Int → Bool) : List Ln := l.flatMap fun e => if p e.1 then e.2.2 else []
theorem flat_nil (p : Int → Bool) : flat [] p = [] := rfl
theorem flat_cons (e : En) (l : List En) (p : Int → Bool) : flat (e :: l) p = (if p e.1 then e.2.2 else []) ++ flat l p := rfl
theorem flat_snoc (l : List En) (e : En) (p : Int → Bool) : flat (l ++ [e]) p = flat l p ++ if p e.1 then e.2.2 else [] := by simp [flat]
theorem flat_append (a b : List En) (p : Int → Bool) : flat (a ++ b) p = flat a p ++ flat b p := by simp [flat]
theorem flat_mem {l : List En} {p : Int → Bool} {x : Ln} (h : x ∈ flat l p) : ∃ e ∈ l, p e.1 = true ∧ x ∈ e.2.2 := by
  obtain ⟨e, he, hx⟩ := List.mem_flatMap.1 h
  split at hx
  · rename_i hp; exact ⟨e, he, hp, hx⟩
  · exact (List.not_mem_nil hx).elim
/-- valid entries -/
def OkL (l : List En) : Prop := ∀ e ∈ l, okE e = true
theorem OkL.vld {l : List En} (h : OkL l) {e : En} (he : e ∈ l) : Vld e.1 e.2.1 e.2.2 := chkE_iff.1 (of_decide_eq_true (h e he))
theorem OkL.ln {l : List En} (h : OkL l) (p : Int → Bool) : ∀ x ∈ flat l p, lineI x = 0 := fun x hx => by
  obtain ⟨e, he, _, hx⟩ := flat_mem hx
  exact ((h.vld he).ln x hx).1
theorem OkL.can {l : List En} (h : OkL l) (p : Int → Bool) : ∀ x ∈ flat l p, canB x = true := fun x hx => (lineI_iff.1 (h.ln p x hx)).2.2
theorem OkL.of {l : List En} (h : OkL l) (p : Int → Bool) : NormOf (flat l p) (nrmL (flat l p)) := nrmL_of _ (h.can p)
theorem OkL.cur {l : List En} (h : OkL l) (p : Int → Bool) (c : List UInt8) : curT (flat l p) c = 0 := by
  induction l with
  | nil => rfl
  | cons e r ih =>
    rw [flat_cons, curT_append, ih fun x hx => h x (List.mem_cons_of_mem _ hx)]
    split
    · rw [balB_iff.1 (h.vld (e := e) (by simp)).bal c]; rfl
    · rfl
theorem OkL.tail {e : En} {l : List En} (h : OkL (e :: l)) : OkL l := fun x hx => h x (List.mem_cons_of_mem _ hx)
/-- a list of balances, as it is checked -/
def listB (l : List Ln) : Bool := decide (chkLs none l = 0)
theorem listB_iff {l : List Ln} : listB l = true ↔ (∀ x ∈ l, lineI x = 0 ∧ x.2.2 ≠ []) ∧ OrdL l := by
  unfold listB
  rw [decide_eq_true_iff]
  exact ⟨fun h => ⟨chkLs_zero h, (chkLs_ord h).1⟩, fun h => chkLs_of h.1 h.2 fun q e => by cases e⟩
theorem norm_lineI {ls out : List Ln} (hn : NormOf ls out) (hl : ∀ x ∈ ls, lineI x = 0) : ∀ z ∈ out, lineI z = 0 ∧ z.2.2 ≠ [] := fun z hz => by
  obtain ⟨x, hx, e⟩ := nrm_key hn hz
  obtain ⟨h1, h2, _⟩ := lineI_iff.1 (hl x hx)
  have h3 := hn.amt z hz
  simp only [key, Prod.mk.injEq] at e
  exact ⟨lineI_iff.2 ⟨by rw [← e.1]; exact h1, by rw [← e.2]; exact h2, h3.1⟩, h3.2⟩
theorem norm_listB {ls out : List Ln} (hn : NormOf ls out) (hl : ∀ x ∈ ls, lineI x = 0) : listB out = true := listB_iff.2 ⟨norm_lineI hn hl, hn.ord⟩
theorem OkL.list {l : List En} (h : OkL l) (p : Int → Bool) : listB (nrmL (flat l p)) = true := norm_listB (h.of p) (h.ln p)
/-- the amount of a key in a list -/
def balOf (t : List Ln) (k : Ky) : List UInt8 := match t.find? fun b => decide (key b = k) with | some b => b.2.2 | none => []
theorem balOf_norm {ls out : List Ln} (hn : NormOf ls out) (k : Ky) : balOf out k = txt (Num.tot ls k) := by
  unfold balOf
  cases hf : out.find? fun b => decide (key b = k) with
  | some b =>
    have hk : key b = k := by
      have h9 := List.find?_some hf
      exact of_decide_eq_true h9
    have hm := List.mem_of_find?_eq_some hf
    have := ((hn.mem b).1 hm).1
    rw [hk] at this
    exact this
  | none =>
    have hnone : ∀ b ∈ out, key b ≠ k := fun b hb e => by
      have := List.find?_eq_none.1 hf b hb
      rw [decide_eq_true e] at this
      exact this rfl
    have h0 := tot_none hnone
    rw [hn.tot] at h0
    rw [h0, txt_zero]
theorem nrmL_app (a b : List Ln) : nrmL (a ++ b) = b.foldl putL (nrmL a) := by unfold nrmL; rw [List.foldl_append]
/-- the normal form of a list of balances is itself -/
theorem listB_nrm {l : List Ln} (h : listB l = true) : nrmL l = l := by
  obtain ⟨h1, h2⟩ := listB_iff.1 h
  exact nrmL_self h2 fun x hx => ⟨(lineI_iff.1 (h1 x hx).1).2.2, (h1 x hx).2⟩
theorem listB_of {l : List Ln} (h : listB l = true) : NormOf l l := by
  have h1 := nrmL_of l fun x hx => (lineI_iff.1 ((listB_iff.1 h).1 x hx).1).2.2
  rwa [listB_nrm h] at h1
theorem listB_can {l : List Ln} (h : listB l = true) : ∀ x ∈ l, canB x = true := fun x hx => (lineI_iff.1 ((listB_iff.1 h).1 x hx).1).2.2
/-- a list less another one -/
def lessB (a b : List Ln) : List Ln := nrmL (a ++ b.map negL)
theorem lessB_put {a b : List Ln} (ha : listB a = true) : lessB a b = (b.map negL).foldl putL a := by unfold lessB; rw [nrmL_app, listB_nrm ha]
theorem negL_ln {b : List Ln} (h : ∀ x ∈ b, lineI x = 0) : ∀ x ∈ b.map negL, lineI x = 0 := fun z hz => by
  obtain ⟨x, hx, rfl⟩ := List.mem_map.1 hz
  obtain ⟨h1, h2, _⟩ := lineI_iff.1 (h x hx)
  exact lineI_iff.2 ⟨h1, h2, canB_t⟩
theorem tot_neg (b : List Ln) (k : Ky) : tot (b.map negL) k = - tot b k := tot_opp b k
theorem less_of {a b : List Ln} (ha : ∀ x ∈ a, canB x = true) : NormOf (a ++ b.map negL) (lessB a b) := nrmL_of _ fun x hx => by
  rcases List.mem_append.1 hx with h | h
  · exact ha x h
  · obtain ⟨y, _, rfl⟩ := List.mem_map.1 h
    exact canB_t
theorem less_tot {a b : List Ln} (ha : ∀ x ∈ a, canB x = true) (k : Ky) : tot (lessB a b) k = tot a k - tot b k := by
  rw [(less_of ha).tot, tot_append, tot_neg]; omega
/-- lists with the same sums are the same -/
theorem listB_ext {a b : List Ln} (ha : listB a = true) (hb : listB b = true) (h : ∀ k, tot a k = tot b k) : a = b := by
  rw [← listB_nrm ha, ← listB_nrm hb]
  exact nrmL_tot (listB_can ha) (listB_can hb) h
end Go.Proofs.YtohdpidlilhnjaaGreatDoor

/- Ledgers, plain: what the laws say of trial balances. -/
namespace Go.Proofs.YtohdpidlilhnjaaGreatDoor
open Go.RowKit Go.Maps Num

theorem flat_congr {l : List En} {p q : Int → Bool} (h : ∀ e ∈ l, p e.1 = q e.1) : flat l p = flat l q := by
  induction l with
  | nil => rfl
  | cons e r ih => rw [flat_cons, flat_cons, h e (by simp), ih fun x hx => h x (List.mem_cons_of_mem _ hx)]
theorem flat_split {l : List En} {p q r : Int → Bool} (h : ∀ e ∈ l, p e.1 = (q e.1 || r e.1) ∧ (q e.1 && r e.1) = false) (k : Ky) : tot (flat l p) k = tot (flat l q) k + tot (flat l r) k := by
  induction l with
  | nil => rfl
  | cons e m ih =>
    obtain ⟨h1, h2⟩ := h e (by simp)
    rw [flat_cons, flat_cons, flat_cons, tot_append, tot_append, tot_append, ih fun x hx => h x (List.mem_cons_of_mem _ hx), h1]
    cases hq : q e.1 <;> cases hr : r e.1
    · simp [tot_nil]
    · simp [tot_nil]; omega
    · simp [tot_nil]; omega
    · rw [hq, hr] at h2; cases h2
/-- a period: the later day's balances less the earlier day's -/
theorem period {l : List En} (hl : OkL l) {p q r : Int → Bool} (h : ∀ e ∈ l, p e.1 = (q e.1 || r e.1) ∧ (q e.1 && r e.1) = false) : lessB (nrmL (flat l p)) (nrmL (flat l q)) = nrmL (flat l r) := by
  have hp := hl.of p
  have hq := hl.of q
  refine nrmL_tot (fun x hx => ?_) (hl.can r) fun k => ?_
  · rcases List.mem_append.1 hx with h | h
    · exact (hp.amt x h).1
    · obtain ⟨y, _, rfl⟩ := List.mem_map.1 h
      exact canB_t
  · rw [tot_append, tot_neg, hp.tot, hq.tot, flat_split h]; omega
theorem lessB_self {a : List Ln} (ha : listB a = true) : lessB a a = [] := by
  have h := less_of (a := a) (b := a) (listB_can ha)
  have : nrmL (a ++ a.map negL) = nrmL [] := nrmL_tot (fun x hx => by
    rcases List.mem_append.1 hx with h | h
    · exact listB_can ha x h
    · obtain ⟨y, _, rfl⟩ := List.mem_map.1 h
      exact canB_t) (fun x hx => (List.not_mem_nil hx).elim) fun k => by rw [tot_append, tot_neg, tot_nil]; omega
  exact this
theorem lessB_list {a b : List Ln} (ha : listB a = true) (hb : ∀ x ∈ b, lineI x = 0) : listB (lessB a b) = true :=
  norm_listB (less_of (listB_can ha)) fun x hx => by
    rcases List.mem_append.1 hx with h | h
    · exact ((listB_iff.1 ha).1 x h).1
    · exact negL_ln hb x h
theorem listB_ln {a : List Ln} (ha : listB a = true) : ∀ x ∈ a, lineI x = 0 := fun x hx => ((listB_iff.1 ha).1 x hx).1
theorem listB_nil : listB [] = true := by decide
/-- what was subtracted can be added again -/
theorem lessB_back {a b : List Ln} (ha : listB a = true) (hb : listB b = true) : lessB (lessB a b) (lessB [] b) = a := by
  have h1 := lessB_list ha (listB_ln hb)
  have h2 := lessB_list listB_nil (listB_ln hb)
  refine listB_ext (lessB_list h1 (listB_ln h2)) ha fun k => ?_
  rw [less_tot (listB_can h1), less_tot (listB_can ha), less_tot (listB_can listB_nil), tot_nil]
  omega
/-- entries that are reversed -/
def revL (l : List En) : List En := l.map fun e => (e.1, e.2.1, e.2.2.map negL)
theorem revL_ok {l : List En} (h : OkL l) : OkL (revL l) := fun e he => by
  obtain ⟨x, hx, rfl⟩ := List.mem_map.1 he
  exact decide_eq_true (chkE_iff.2 (h.vld hx).neg)
theorem revL_tot (l : List En) (p : Int → Bool) (k : Ky) : tot (flat (revL l) p) k = - tot (flat l p) k := by
  induction l with
  | nil => rfl
  | cons e r ih =>
    have : revL (e :: r) = (e.1, e.2.1, e.2.2.map negL) :: revL r := rfl
    rw [this, flat_cons, flat_cons, tot_append, tot_append, ih]
    simp only
    split
    · rw [tot_neg]; omega
    · simp [tot_nil]
theorem revL_trial {l : List En} (h : OkL l) (p : Int → Bool) : nrmL (flat (revL l) p) = lessB [] (nrmL (flat l p)) := by
  refine listB_ext ((revL_ok h).list p) (lessB_list listB_nil (listB_ln (h.list p))) fun k => ?_
  rw [((revL_ok h).of p).tot, less_tot (listB_can listB_nil), tot_nil, (h.of p).tot, revL_tot]
  omega
theorem okL_append {a b : List En} (ha : OkL a) (hb : OkL b) : OkL (a ++ b) := fun e he => by
  rcases List.mem_append.1 he with h | h
  · exact ha e h
  · exact hb e h
theorem both_trial {l : List En} (h : OkL l) (p : Int → Bool) : nrmL (flat (l ++ revL l) p) = [] := by
  have : nrmL (flat (l ++ revL l) p) = nrmL [] := nrmL_tot ((okL_append h (revL_ok h)).can p) (fun x hx => (List.not_mem_nil hx).elim) fun k => by
    rw [flat_append, tot_append, revL_tot, tot_nil]; omega
  exact this
/-- the amounts of a currency of a trial balance add up to 0 -/
theorem trial_cur {l : List En} (h : OkL l) (p : Int → Bool) (c : List UInt8) : curT (nrmL (flat l p)) c = 0 := by
  rw [curT_of_tot (h.of p).tot c, h.cur]
/-- a line's key is in the trial balance exactly if its balance is not 0 -/
theorem trial_has {l : List En} (h : OkL l) (p : Int → Bool) (k : Ky) : decide (txt (tot (flat l p) k) ≠ []) = (nrmL (flat l p)).any fun b => decide (key b = k) := by
  have hn := h.of p
  rw [Bool.eq_iff_iff, decide_eq_true_iff, List.any_eq_true]
  constructor
  · intro h0
    by_cases e : ∃ b ∈ nrmL (flat l p), key b = k
    · obtain ⟨b, hb, hk⟩ := e
      exact ⟨b, hb, decide_eq_true hk⟩
    · have h1 := tot_none fun b hb hk => e ⟨b, hb, hk⟩
      rw [hn.tot] at h1
      exact absurd (by rw [h1]; exact txt_zero) h0
  · rintro ⟨b, hb, hk⟩ e
    have hk := of_decide_eq_true hk
    subst hk
    have h1 := (hn.mem b).1 hb
    exact h1.2 (txt_nil.1 e)
theorem trial_amt {l : List En} (h : OkL l) (p : Int → Bool) {b : Ln} (hb : b ∈ nrmL (flat l p)) : txt (tot (flat l p) (key b)) = b.2.2 := (((h.of p).mem b).1 hb).1.symm
end Go.Proofs.YtohdpidlilhnjaaGreatDoor

/- A further contract of the library at this translation: strings.LastIndexByte (laid by the kit for a sister, renumbered). -/
namespace Go.Proofs
open Go.Shelf
def Tryz.lays149_ren : Go.Shelf.Ren := ⟨fun | 149 => 73 | 222 => 130 | n => n, fun | 9 => 9 | 5 => 5 | 3 => 3 | 4 => 4 | n => n, fun | n => n⟩
theorem Tryz.lays149 : Go.Proofs.Lays.n149 Tryz.prog Tryz.lays149_ren := {
  mixed := by kernel_rfl
  f149 := Tryz.func73.trans (congrArg some (by kernel_rfl))
  f222 := Tryz.func130.trans (congrArg some (by kernel_rfl))
  t3 := Tryz.underlying3
  a3 := Tryz.isAgg3
  z3 := Tryz.sizeOf3
  v3 := Tryz.zeroValue3
  t4 := Tryz.underlying4
  a4 := Tryz.isAgg4
  z4 := Tryz.sizeOf4
  v4 := Tryz.zeroValue4
  t5 := Tryz.underlying5
  a5 := Tryz.isAgg5
  z5 := Tryz.sizeOf5
  v5 := Tryz.zeroValue5
  t9 := Tryz.underlying9
  a9 := Tryz.isAgg9
  z9 := Tryz.sizeOf9
  v9 := Tryz.zeroValue9 }
open Go.RowKit Go.Lib in
theorem Tryz.strings_LastIndexByte (s : ByteArray) (c : Int) (hs : s.size < 4611686018427387904) (w : World) :
    Calls Tryz.prog 73 #[.string s, .int .u8 c] w fun e w' => e = .returned (.int .i64 (Lib.lastIndexByte s c)) ∧ w' = w := Any.strings_LastIndexByte Tryz.lays149 s c hs w
end Go.Proofs

/- The parent of a code: plain laws, and the contract of Parent. -/
namespace Go.Proofs.YtohdpidlilhnjaaGreatDoor
open Go.RowKit

theorem join_cons (x y : List UInt8) (r : List (List UInt8)) (sep : List UInt8) : Lib.join (x :: y :: r) sep = x ++ (sep ++ Lib.join (y :: r) sep) := by
  simp [Lib.join, List.intercalate, List.intersperse]

theorem segs_snoc : ∀ (a : List UInt8) {b : List UInt8}, 46 ∉ b → segs (a ++ 46 :: b) = segs a ++ [b]
  | [], b, h => by rw [List.nil_append, segs_dot, segs_none h]; rfl
  | c :: a, b, h => by
    have ih := segs_snoc a h
    by_cases hc : c = 46
    · subst hc
      rw [List.cons_append, segs_dot, segs_dot, ih]; rfl
    · obtain ⟨x, t, e⟩ : ∃ x t, segs a = x :: t := by
        cases h' : segs a with
        | nil => exact absurd h' (segs_ne a)
        | cons x t => exact ⟨x, t, rfl⟩
      rw [e] at ih
      rw [List.cons_append, segs_cons hc ih, segs_cons hc e]; rfl
theorem segs_no : ∀ (l x : List UInt8), x ∈ segs l → 46 ∉ x
  | [], x, h => by simp [segs] at h; simp [h]
  | c :: r, x, h => by
    by_cases hc : c = 46
    · subst hc
      rw [segs_dot] at h
      rcases List.mem_cons.1 h with rfl | h
      · simp
      · exact segs_no r x h
    · obtain ⟨y, t, e⟩ : ∃ x t, segs r = x :: t := by
        cases h' : segs r with
        | nil => exact absurd h' (segs_ne r)
        | cons x t => exact ⟨x, t, rfl⟩
      rw [segs_cons hc e] at h
      rcases List.mem_cons.1 h with rfl | h
      · intro h'
        rcases List.mem_cons.1 h' with h' | h'
        · exact hc h'.symm
        · exact segs_no r y (by rw [e]; simp) h'
      · exact segs_no r x (by rw [e]; simp [h])
theorem join_segs : ∀ (l : List UInt8), Lib.join (segs l) [46] = l
  | [] => by simp [segs, Lib.join_one]
  | c :: r => by
    obtain ⟨y, t, e⟩ : ∃ x t, segs r = x :: t := by
      cases h' : segs r with
      | nil => exact absurd h' (segs_ne r)
      | cons x t => exact ⟨x, t, rfl⟩
    have ih := join_segs r
    rw [e] at ih
    by_cases hc : c = 46
    · subst hc
      rw [segs_dot, e, join_cons, ih]; rfl
    · rw [segs_cons hc e, Lib.join_cons]
      rw [Lib.join_cons] at ih
      rw [List.cons_append, ih]
/-- the last dot -/
theorem last_dot (s : List UInt8) : (46 ∉ s ∧ Lib.lastIndexByte ⟨s.toArray⟩ 46 = -1) ∨ (∃ a b, s = a ++ 46 :: b ∧ 46 ∉ b ∧ Lib.lastIndexByte ⟨s.toArray⟩ 46 = (a.length : Int)) := by
  rcases Lib.lastIdx_spec ⟨s.toArray⟩ 46 s.length with ⟨e, hn⟩ | ⟨i, hi, e, hc, hn⟩
  · refine .inl ⟨fun h => ?_, e⟩
    obtain ⟨j, hj, e'⟩ := List.mem_iff_getElem.1 h
    refine hn j hj ?_
    have : (s.toArray[j]!) = 46 := by simp [hj, e']
    show ((s.toArray[j]!).toNat : Int) = 46
    rw [this]; rfl
  · refine .inr ⟨s.take i, s.drop (i + 1), ?_, fun h => ?_, ?_⟩
    · have h1 : (s.toArray[i]!) = s[i] := by simp [hi]
      have h2 : s[i] = 46 := UInt8.toNat_inj.1 (by
        have : ((s.toArray[i]!).toNat : Int) = 46 := hc
        rw [h1] at this
        rw [show (46 : UInt8).toNat = 46 from rfl]; omega)
      conv => lhs; rw [← List.take_append_drop i s, List.drop_eq_getElem_cons hi, h2]
    · obtain ⟨j, hj, e'⟩ := List.mem_iff_getElem.1 h
      rw [List.getElem_drop] at e'
      have hj' : i + 1 + j < s.length := by simp at hj; omega
      refine hn (i + 1 + j) (by omega) hj' ?_
      have : (s.toArray[i + 1 + j]!) = 46 := by simp [hj', e']
      show ((s.toArray[i + 1 + j]!).toNat : Int) = 46
      rw [this]; rfl
    · rw [List.length_take, Nat.min_eq_left (by omega)]; exact e
/-- the parent, and whether there is one -/
def parS (s : List UInt8) : List UInt8 := if codeB s && decide (1 < (segs s).length) then Lib.join (segs s).dropLast [46] else []
def parB (s : List UInt8) : Bool := codeB s && decide (1 < (segs s).length)
theorem segs_pos (s : List UInt8) : 0 < (segs s).length := List.length_pos_iff.2 (segs_ne s)
theorem par_none {s : List UInt8} (h : 46 ∉ s) : parS s = [] ∧ parB s = false := by
  have : parB s = false := by unfold parB; rw [segs_none h]; simp
  refine ⟨?_, this⟩
  unfold parS
  unfold parB at this
  rw [this]; rfl
theorem par_bad {s : List UInt8} (h : codeB s = false) : parS s = [] ∧ parB s = false := by
  have : parB s = false := by unfold parB; rw [h]; rfl
  refine ⟨?_, this⟩
  unfold parS
  unfold parB at this
  rw [this]; rfl
theorem par_some {a b : List UInt8} (hb : 46 ∉ b) (hc : codeB (a ++ 46 :: b) = true) : parS (a ++ 46 :: b) = a ∧ parB (a ++ 46 :: b) = true := by
  have : parB (a ++ 46 :: b) = true := by
    have := segs_pos a
    unfold parB; rw [hc, segs_snoc a hb]; simp; omega
  refine ⟨?_, this⟩
  unfold parS
  unfold parB at this
  rw [this, segs_snoc a hb, if_pos rfl, List.dropLast_concat, join_segs]
def RetSB (s : List UInt8) (b : Bool) (w : World) (e : Ending) (w' : World) : Prop := e = .returned (.tuple #[.string ⟨s.toArray⟩, .bool b]) ∧ Below w.heap.size w w'
theorem take_ext (a b : List UInt8) : (⟨(a ++ 46 :: b).toArray⟩ : ByteArray).extract 0 a.length = ⟨a.toArray⟩ := by
  apply ByteArray.ext
  rw [ByteArray.data_extract]
  simp
set_option maxHeartbeats 1000000 in
set_option maxRecDepth 100000 in
theorem Parent_any (s : List UInt8) (w : World) (hs : s.length < 4294967281) (hm : ML w) : Calls Tryz.prog 23 #[.string ⟨s.toArray⟩] w (RetSB (parS s) (parB s) w) := by
  have HL := Lib.hid (fun w => Tryz.strings_LastIndexByte ⟨s.toArray⟩ 46 (by show s.length < _; omega) w)
  have HC := Lib.hid (fun w hm => AccCheck_any ⟨s.toArray⟩ w (by exact hs) hm)
  have HM := Lib.hid hm
  clear hm
  have hchk := Lib.hid (show chkA s = if codeB s then 0 else 3 from rfl)
  rcases last_dot s with ⟨h1, h2⟩ | ⟨a, b, h1, h2, h3⟩
  · rw [h2] at HL
    have hv := Lib.hid (par_none h1)
    clear h1 h2
    go_enter Tryz.func23, Tryz.ntmps23
    go_wp2_with fail
    refine (HL.out _).mono ?_
    rintro e w1 ⟨rfl, rfl⟩
    go_wp2_with fail
    go_ret2
    exact ⟨by rw [hv.out.1, hv.out.2]; rfl, Below.refl _ _⟩
  · rw [h3] at HL
    have e1 : decide ((a.length : Int) < 0) = false := by simp
    cases hcb : codeB s
    · have hk := Lib.hid (show chkA s = 3 by rw [hchk.out, hcb]; rfl)
      have hv := Lib.hid (par_bad hcb)
      clear h1 h2 h3 hcb
      go_enter Tryz.func23, Tryz.ntmps23
      go_wp2_with fail
      refine (HL.out _).mono ?_
      rintro e w1 ⟨rfl, rfl⟩
      go_wp2_with fail
      refine (HC.out _ HM.out).mono ?_
      rintro e w2 ⟨rfl, hb2⟩
      rw [show chkA (ByteArray.mk s.toArray).data.toList = 3 from hk.out]
      go_wp2_with fail
      go_ret2
      exact ⟨by rw [hv.out.1, hv.out.2]; rfl, hb2⟩
    · have hk := Lib.hid (show chkA s = 0 by rw [hchk.out, hcb]; rfl)
      have hv := Lib.hid (show parS s = a ∧ parB s = true by rw [h1] at hcb ⊢; exact par_some h2 hcb)
      have hx : (⟨s.toArray⟩ : ByteArray).extract 0 a.length = ⟨a.toArray⟩ := by rw [h1]; exact take_ext a b
      have hle : a.length ≤ s.length := by rw [h1]; simp
      clear h1 h2 h3 hcb
      go_enter Tryz.func23, Tryz.ntmps23
      go_wp2_with fail
      refine (HL.out _).mono ?_
      rintro e w1 ⟨rfl, rfl⟩
      go_wp2_with fail
      refine (HC.out _ HM.out).mono ?_
      rintro e w2 ⟨rfl, hb2⟩
      rw [show chkA (ByteArray.mk s.toArray).data.toList = 0 from hk.out]
      go_wp2_with fail
      go_ret2
      exact ⟨by rw [hv.out.1, hv.out.2]; rfl, hb2⟩
end Go.Proofs.YtohdpidlilhnjaaGreatDoor

/- Codes under codes; contracts of Under. -/
namespace Go.Proofs.YtohdpidlilhnjaaGreatDoor
open Go.RowKit

theorem below_drewN {B : Nat} {w w' : World} (h : Below B w w') (n : Nat) : Below B w (w'.drewN n) := ⟨h.os, h.tape, h.output, h.size, h.block⟩
/-- a code lies under another one -/
def undB (c p : List UInt8) : Bool := p.isPrefixOf c && (decide (c.drop p.length = []) || decide ((c.drop p.length).getD 0 0 = 46))
set_option maxHeartbeats 1000000 in
theorem Under_any (c p : List UInt8) (w : World) : Calls Tryz.prog 24 #[.string ⟨c.toArray⟩, .string ⟨p.toArray⟩] w fun e w' => e = .returned (.bool (undB c p)) ∧ w = w' := by
  have hcp := fun w => Tryz.strings_CutPrefix ⟨c.toArray⟩ ⟨p.toArray⟩ w
  have hu := Lib.hid (show undB c p = (p.isPrefixOf c && (decide (c.drop p.length = []) || decide ((c.drop p.length).getD 0 0 = 46))) from rfl)
  cases hp : p.isPrefixOf c
  · have h2 : ∀ w, Calls Tryz.prog 75 #[.string ⟨c.toArray⟩, .string ⟨p.toArray⟩] w fun e w' => e = .returned (.tuple #[.string ⟨c.toArray⟩, .bool false]) ∧ w = w' := fun w =>
      (hcp w).mono fun e w' ⟨he, hw⟩ => ⟨by rw [he]; show Ending.returned (.tuple #[.string ⟨(if p.isPrefixOf c then c.drop p.length else c).toArray⟩, .bool (p.isPrefixOf c)]) = _; rw [hp]; rfl, hw.symm⟩
    have H2 := Lib.hid h2
    have hv := Lib.hid (show undB c p = false by rw [hu.out, hp]; rfl)
    clear hcp h2 hp
    go_enter Tryz.func24, Tryz.ntmps24
    go_wp2_with fail
    refine (H2.out _).mono ?_
    rintro e w1 ⟨rfl, rfl⟩
    go_wp2_with fail
    go_ret
    exact ⟨by rw [hv.out]; rfl, rfl⟩
  · obtain ⟨r, hr⟩ : ∃ r, r = c.drop p.length := ⟨_, rfl⟩
    have h2 : ∀ w, Calls Tryz.prog 75 #[.string ⟨c.toArray⟩, .string ⟨p.toArray⟩] w fun e w' => e = .returned (.tuple #[.string ⟨r.toArray⟩, .bool true]) ∧ w = w' := fun w =>
      (hcp w).mono fun e w' ⟨he, hw⟩ => ⟨by rw [he]; show Ending.returned (.tuple #[.string ⟨(if p.isPrefixOf c then c.drop p.length else c).toArray⟩, .bool (p.isPrefixOf c)]) = _; rw [hp, hr]; rfl, hw.symm⟩
    have H2 := Lib.hid h2
    have hv := hu.out
    rw [hp, ← hr, Bool.true_and] at hv
    have HV := Lib.hid hv
    clear hcp h2 hp hr hv hu
    cases r with
    | nil =>
      go_enter Tryz.func24, Tryz.ntmps24
      go_wp2_with fail
      refine (H2.out _).mono ?_
      rintro e w1 ⟨rfl, rfl⟩
      go_wp2_with fail
      go_ret
      exact ⟨by rw [HV.out]; rfl, rfl⟩
    | cons x r =>
      have q1 : (x :: r == []) = false := rfl
      by_cases hx : x = 46
      · subst hx
        go_enter Tryz.func24, Tryz.ntmps24
        go_wp2_with fail
        refine (H2.out _).mono ?_
        rintro e w1 ⟨rfl, rfl⟩
        go_wp2_with fail
        go_ret
        exact ⟨by rw [HV.out]; rfl, rfl⟩
      · have q2 : ((x.toNat : Int) == 46) = false := beq_eq_false_iff_ne.2 (fun e => hx (UInt8.toNat_inj.1 (by rw [show (46 : UInt8).toNat = 46 from rfl]; omega)))
        have hv2 := Lib.hid (show undB c p = false by rw [HV.out]; simp [hx])
        clear hx HV
        go_enter Tryz.func24, Tryz.ntmps24
        go_wp2_with fail
        refine (H2.out _).mono ?_
        rintro e w1 ⟨rfl, rfl⟩
        go_wp2_with fail
        go_ret
        exact ⟨by rw [hv2.out]; exact ret_bool q2, rfl⟩
theorem und_iff (c p : List UInt8) : undB c p = true ↔ c = p ∨ ∃ r, c = p ++ 46 :: r := by
  unfold undB
  rw [Bool.and_eq_true, Bool.or_eq_true, decide_eq_true_iff, decide_eq_true_iff, List.isPrefixOf_iff_prefix]
  constructor
  · rintro ⟨⟨r, rfl⟩, h⟩
    rw [List.drop_left] at h
    cases r with
    | nil => exact .inl (by simp)
    | cons x r =>
      rcases h with h | h
      · cases h
      · exact .inr ⟨r, by rw [show x = 46 from h]⟩
  · rintro (rfl | ⟨r, rfl⟩)
    · exact ⟨List.prefix_refl _, .inl (by simp)⟩
    · exact ⟨⟨_, rfl⟩, .inr (by rw [List.drop_left]; rfl)⟩
theorem und_refl (a : List UInt8) : undB a a = true := (und_iff a a).2 (.inl rfl)
theorem und_antisym {a b : List UInt8} (h : undB a b = true) (g : undB b a = true) : a = b := by
  rcases (und_iff a b).1 h with h | ⟨r, h⟩
  · exact h
  · rcases (und_iff b a).1 g with g | ⟨q, g⟩
    · exact g.symm
    · have := congrArg List.length h
      have := congrArg List.length g
      simp at *
      omega
theorem und_trans {a b c : List UInt8} (h : undB a b = true) (g : undB b c = true) : undB a c = true := by
  rw [und_iff] at *
  rcases h with rfl | ⟨r, rfl⟩
  · exact g
  · rcases g with rfl | ⟨q, rfl⟩
    · exact .inr ⟨r, rfl⟩
    · exact .inr ⟨q ++ 46 :: r, by simp⟩
theorem und_linear {a b c : List UInt8} (h : undB a b = true) (g : undB a c = true) : undB b c = true ∨ undB c b = true := by
  rw [und_iff] at *
  rw [und_iff c b]
  rcases h with rfl | ⟨r, h⟩
  · exact .inl g
  · rcases g with rfl | ⟨q, g⟩
    · exact .inr (.inr ⟨r, h⟩)
    · have e : b ++ 46 :: r = c ++ 46 :: q := h.symm.trans g
      rcases List.append_eq_append_iff.1 e with ⟨x, h1, h2⟩ | ⟨x, h1, h2⟩
      · cases x with
        | nil => exact .inl (.inl (by simpa using h1.symm))
        | cons y x =>
          rw [List.cons_append, List.cons.injEq] at h2
          exact .inr (.inr ⟨x, by rw [h1, ← h2.1]⟩)
      · cases x with
        | nil => exact .inl (.inl (by simpa using h1))
        | cons y x =>
          rw [List.cons_append, List.cons.injEq] at h2
          exact .inl (.inr ⟨x, by rw [h1, ← h2.1]⟩)
theorem ext_take (c : List UInt8) (n : Nat) : ((⟨c.toArray⟩ : ByteArray).extract 0 n).toList = c.take n := by
  rw [ByteArray.toList_eq, ByteArray.data_extract]
  simp
theorem ba_getA (c : List UInt8) (n : Nat) (h : n < c.length) : (⟨c.toArray⟩ : ByteArray)[n]'h = c[n] := rfl
theorem rUnder_walk (c p : List UInt8) (w : World) : Calls Tryz.prog 95 #[.string ⟨c.toArray⟩, .string ⟨p.toArray⟩] w fun e w' => e = .returned (.bool (undB c p)) ∧ w = w' := by
  by_cases e1 : c = p
  · have hv := Lib.hid (show true = undB c p from ((und_iff c p).2 (.inl e1)).symm)
    have q1 : (c == p) = true := by simpa using e1
    clear e1
    go_enter Tryz.func95, Tryz.ntmps95
    go_wp2_with fail
    go_ret
    exact ⟨ret_bool hv.out, rfl⟩
  have q1 : (c == p) = false := by simpa using e1
  have hno : undB c p = true → ∃ r, c = p ++ 46 :: r := fun h => ((und_iff c p).1 h).resolve_left e1
  by_cases h1 : p.length < c.length
  · have d1 : decide ((p.length : Int) < (c.length : Int)) = true := by simp; omega
    by_cases e2 : c.take p.length = p
    · have q2 : (((⟨c.toArray⟩ : ByteArray).extract 0 p.length).toList == p) = true := by rw [ext_take]; simpa using e2
      have hcp : c = p ++ c[p.length] :: c.drop (p.length + 1) := by
        conv => lhs; rw [← List.take_append_drop p.length c, e2, List.drop_eq_getElem_cons h1]
      have hv := Lib.hid (show (((⟨c.toArray⟩ : ByteArray)[p.length]'h1).toNat == (46 : Int)) = undB c p by
        rw [ba_getA, Bool.eq_iff_iff, und_iff]
        constructor
        · intro h
          have h : c[p.length] = 46 := UInt8.toNat_inj.1 (by have := beq_iff_eq.1 h; rw [show (46 : UInt8).toNat = 46 from rfl]; omega)
          exact .inr ⟨c.drop (p.length + 1), by rw [← h]; exact hcp⟩
        · rintro (h | ⟨r, h⟩)
          · exact absurd h e1
          · have h2 : c[p.length] = 46 := by
              have h3 := congrArg (fun l => l[p.length]?) h
              simpa [h1] using h3
            rw [h2]; rfl)
      clear e1 e2 hno hcp
      go_enter Tryz.func95, Tryz.ntmps95
      go_wp2_with fail
      go_ret
      exact ⟨ret_bool hv.out, rfl⟩
    · have q2 : (((⟨c.toArray⟩ : ByteArray).extract 0 p.length).toList == p) = false := by rw [ext_take]; simpa using e2
      have hv := Lib.hid (show false = undB c p by
        cases h : undB c p
        · rfl
        · obtain ⟨r, hr⟩ := hno h
          exact absurd (by rw [hr, List.take_left]) e2)
      clear e1 e2 hno
      go_enter Tryz.func95, Tryz.ntmps95
      go_wp2_with fail
      go_ret
      exact ⟨ret_bool hv.out, rfl⟩
  · have d1 : decide ((p.length : Int) < (c.length : Int)) = false := by simp; omega
    have hv := Lib.hid (show false = undB c p by
      cases h : undB c p
      · rfl
      · obtain ⟨r, hr⟩ := hno h
        have := congrArg List.length hr
        simp at this
        omega)
    clear e1 hno
    go_enter Tryz.func95, Tryz.ntmps95
    go_wp2_with fail
    go_ret
    exact ⟨ret_bool hv.out, rfl⟩
end Go.Proofs.YtohdpidlilhnjaaGreatDoor
