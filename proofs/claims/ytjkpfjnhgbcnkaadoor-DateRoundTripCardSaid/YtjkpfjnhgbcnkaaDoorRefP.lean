/- The contract of the reference's Parse. -/
import Derived.Test.YtjkpfjnhgbcnkaaDoorRef
import Derived.StillTailTactics
import Derived.Deep.OwnRows
namespace Go.Proofs.YtjkpfjnhgbcnkaaDoor
open Go.RowKit
set_option linter.unusedVariables false

/-- what stands behind i letters: the three numbers, and how many signs have come -/
def ps : List UInt8 → Nat → List Int × Nat
  | _, 0 => ([0, 0, 0], 0)
  | l, i + 1 => if i = 4 ∨ i = 7 then ((ps l i).1, (ps l i).2 + 1) else ((ps l i).1.set (ps l i).2 (10 * (ps l i).1.getD (ps l i).2 0 + dv (l.getD i 0)), (ps l i).2)
theorem set_getD3 (l : List Int) (i j : Nat) (x : Int) (h : i < l.length) : (l.set i x).getD j 0 = if j = i then x else l.getD j 0 := by
  simp only [List.getD_eq_getElem?_getD, List.getElem?_set]
  by_cases e : i = j
  · subst e; simp [h]
  · rw [if_neg e, if_neg (fun h => e h.symm)]
/-- letter i is as it should be -/
def okAt (l : List UInt8) (i : Nat) : Bool := if i = 4 ∨ i = 7 then decide (l.getD i 0 = 45) else !badC (l.getD i 0)
def okTo (l : List UInt8) : Nat → Bool
  | 0 => true
  | i + 1 => okTo l i && okAt l i
theorem ps_len (l : List UInt8) (i : Nat) : (ps l i).1.length = 3 := by
  induction i with
  | zero => rfl
  | succ i ih => rw [ps]; split <;> simp [ih]
theorem ps_snd (l : List UInt8) (i : Nat) : (ps l i).2 = if i ≤ 4 then 0 else if i ≤ 7 then 1 else 2 := by
  induction i with
  | zero => rfl
  | succ i ih =>
    rw [ps]
    split
    · rename_i h
      simp only [ih]
      rcases h with rfl | rfl <;> rfl
    · rename_i h
      simp only [ih]
      split <;> split <;> (try split) <;> (try split) <;> omega
theorem okTo_le (l : List UInt8) (i j : Nat) (h : j ≤ i) (hi : okTo l i = true) : okTo l j = true := by
  induction i with
  | zero => obtain rfl : j = 0 := by omega
            exact hi
  | succ i ih =>
    rw [okTo, Bool.and_eq_true] at hi
    rcases Nat.lt_or_eq_of_le h with h' | h'
    · exact ih (by omega) hi.1
    · subst h'; rw [okTo, hi.1, hi.2]; rfl
theorem dv_ok {c : UInt8} (h : badC c = false) : 0 ≤ dv c ∧ dv c ≤ 9 := by
  simp only [badC, Bool.or_eq_false_iff, decide_eq_false_iff_not] at h
  have := c.toNat_lt
  unfold dv; omega
theorem ps_bound (l : List UInt8) (i : Nat) (h : okTo l i = true) (j : Nat) : 0 ≤ (ps l i).1.getD j 0 ∧ (ps l i).1.getD j 0 < 10 ^ i := by
  induction i with
  | zero =>
    have : (ps l 0).1.getD j 0 = 0 := by
      rcases j with _ | _ | _ | j <;> simp [ps]
    rw [this]; exact ⟨by omega, by decide⟩
  | succ i ih =>
    rw [okTo, Bool.and_eq_true] at h
    obtain ⟨h0, h1⟩ := ih h.1
    have hp : (10 : Int) ^ (i + 1) = 10 * 10 ^ i := by rw [Int.pow_succ]; omega
    rw [ps]
    split
    · exact ⟨h0, by rw [hp]; simp only; omega⟩
    · rename_i hi
      have hb : badC (l.getD i 0) = false := by
        have := h.2
        rw [okAt, if_neg hi] at this
        simpa using this
      have hd := dv_ok hb
      simp only
      rw [set_getD3 _ _ _ _ (by rw [ps_len, ps_snd]; split <;> (try split) <;> omega)]
      split
      · rename_i e
        subst e
        constructor
        · omega
        · rw [hp]; omega
      · exact ⟨h0, by rw [hp]; omega⟩
theorem list10 {s : ByteArray} (h : s.size = 10) : ∃ c0 c1 c2 c3 c4 c5 c6 c7 c8 c9, s = ⟨#[c0, c1, c2, c3, c4, c5, c6, c7, c8, c9]⟩ := by
  obtain ⟨⟨l⟩⟩ := s
  match l, h with
  | [c0, c1, c2, c3, c4, c5, c6, c7, c8, c9], _ => exact ⟨c0, c1, c2, c3, c4, c5, c6, c7, c8, c9, rfl⟩
theorem form_ok {s : ByteArray} (h : s.size = 10) : formB s = okTo s.data.toList 10 := by
  obtain ⟨c0, c1, c2, c3, c4, c5, c6, c7, c8, c9, rfl⟩ := list10 h
  have e1 : ((⟨#[c0, c1, c2, c3, c4, c5, c6, c7, c8, c9]⟩ : ByteArray).extract 0 4).data.toList = [c0, c1, c2, c3] := rfl
  have e2 : ((⟨#[c0, c1, c2, c3, c4, c5, c6, c7, c8, c9]⟩ : ByteArray).extract 5 7).data.toList = [c5, c6] := rfl
  have e3 : ((⟨#[c0, c1, c2, c3, c4, c5, c6, c7, c8, c9]⟩ : ByteArray).extract 8 10).data.toList = [c8, c9] := rfl
  unfold formB
  rw [e1, e2, e3, decide_eq_true h]
  have k0 : okAt [c0, c1, c2, c3, c4, c5, c6, c7, c8, c9] 0 = !badC c0 := rfl
  have k1 : okAt [c0, c1, c2, c3, c4, c5, c6, c7, c8, c9] 1 = !badC c1 := rfl
  have k2 : okAt [c0, c1, c2, c3, c4, c5, c6, c7, c8, c9] 2 = !badC c2 := rfl
  have k3 : okAt [c0, c1, c2, c3, c4, c5, c6, c7, c8, c9] 3 = !badC c3 := rfl
  have k4 : okAt [c0, c1, c2, c3, c4, c5, c6, c7, c8, c9] 4 = decide (c4 = 45) := rfl
  have k5 : okAt [c0, c1, c2, c3, c4, c5, c6, c7, c8, c9] 5 = !badC c5 := rfl
  have k6 : okAt [c0, c1, c2, c3, c4, c5, c6, c7, c8, c9] 6 = !badC c6 := rfl
  have k7 : okAt [c0, c1, c2, c3, c4, c5, c6, c7, c8, c9] 7 = decide (c7 = 45) := rfl
  have k8 : okAt [c0, c1, c2, c3, c4, c5, c6, c7, c8, c9] 8 = !badC c8 := rfl
  have k9 : okAt [c0, c1, c2, c3, c4, c5, c6, c7, c8, c9] 9 = !badC c9 := rfl
  show (true && decide (c4 = 45) && decide (c7 = 45) && !([c0, c1, c2, c3].any badC || [c5, c6].any badC || [c8, c9].any badC)) = okTo [c0, c1, c2, c3, c4, c5, c6, c7, c8, c9] 10
  simp only [okTo, k0, k1, k2, k3, k4, k5, k6, k7, k8, k9, List.any_cons, List.any_nil]
  generalize badC c0 = x0; generalize badC c1 = x1; generalize badC c2 = x2; generalize badC c3 = x3; generalize badC c5 = x5; generalize badC c6 = x6; generalize badC c8 = x8; generalize badC c9 = x9
  generalize decide (c4 = 45) = y4; generalize decide (c7 = 45) = y7
  revert x0 x1 x2 x3 x5 x6 x8 x9 y4 y7
  decide
theorem ps_end {s : ByteArray} (h : s.size = 10) : (ps s.data.toList 10).1 = [psY s, psM s, psD s] := by
  obtain ⟨c0, c1, c2, c3, c4, c5, c6, c7, c8, c9, rfl⟩ := list10 h
  rfl
theorem ok_not {l : List UInt8} {i : Nat} (hi : i < 10) (h : okAt l i = false) : okTo l 10 = false := by
  cases e : okTo l 10
  · rfl
  · have := okTo_le l 10 (i + 1) (by omega) e
    rw [okTo, h, Bool.and_false] at this
    cases this
def I64 (l : List Int) : Nat → Value := fun j => .int .i64 (l.getD j 0)
theorem row3 (w : World) : (w.alloc (.cells #[.int .i64 0, .int .i64 0, .int .i64 0] 56)).rowIs w.heap.size 56 3 (I64 [0, 0, 0]) :=
  World.rowIs_alloc w #[.int .i64 0, .int .i64 0, .int .i64 0] 56 (I64 [0, 0, 0]) (fun i hi => by
    rcases i with _ | _ | _ | i
    · rfl
    · rfl
    · rfl
    · simp at hi; omega)
theorem region_st {P : Program} {id : Nat} {Q : Exit → Act → World → Prop} {a : Act} {w : World} {l : List Oper} (n : Nat) (hm : P.follows .mixedOrders = true) (hB : Region.lexTailB .any l.toArray n = true)
    (h : wpStill P l.toArray w.drew (fun a' => wpList P l.toArray Q (l.drop n) a' w.drew) (l.take n) a) : (Code.region id l.toArray true).wp P Q a w := wp_region_still_tail n hm hB h
set_option maxHeartbeats 2000000 in
theorem rParse_any (s : ByteArray) (w : World) (hs : s.size ≤ maxLen) : Calls Tryd.prog 31 #[.string s] w (Ret2 (paN s) (paE s) w) := by
  unfold maxLen at hs
  by_cases h10 : s.size = 10
  · have hform := Lib.hid (form_ok h10)
    have hend := Lib.hid (ps_end h10)
    have HS := Lib.hid h10
    have hne10 : ((s.size : Int) != 10) = false := by rw [bne_eq_false_iff_eq]; omega
    clear h10
    go_enter Tryd.func31, Tryd.ntmps31
    go_wp2_with fail
    go_loopw [5, 6] (fun v i wr => ∃ k : Nat, k ≤ 10 ∧ okTo s.data.toList k = true ∧ i = .int .i64 (k : Int) ∧ v = .int .i64 ((ps s.data.toList k).2 : Int) ∧ wr.rowIs w.heap.size 56 3 (I64 (ps s.data.toList k).1) ∧ Below w.heap.size w wr) (fun _ i _ => 10 - (intOf i).toNat)
    case atStart => exact ⟨0, by omega, rfl, rfl, rfl, row3 w, (Below.refl _ _).alloc (Nat.le_refl _) _⟩
    case round =>
      obtain ⟨k, hk, hok, rfl, rfl, hrow, hb⟩ := hrel
      by_cases hlt : k < 10
      · have hks : k < s.size := by rw [HS.out]; exact hlt
        have hgd : s.data.toList.getD k 0 = s[k] := by rw [List.getD_eq_getElem?_getD, List.getElem?_eq_getElem (by simpa using hks)]; rfl
        by_cases h47 : k = 4 ∨ k = 7
        · have hp := Lib.hid (show ps s.data.toList (k + 1) = ((ps s.data.toList k).1, (ps s.data.toList k).2 + 1) by rw [ps, if_pos h47])
          have hsnd := ps_snd s.data.toList k
          have hsb : (ps s.data.toList k).2 ≤ 2 := by rw [hsnd]; split <;> (try split) <;> omega
          have hat : okAt s.data.toList k = decide (s[k] = 45) := by rw [okAt, if_pos h47, hgd]
          have HOK := Lib.hid hok
          clear hsnd
          generalize (ps s.data.toList k).2 = q at *
          generalize (ps s.data.toList k).1 = L at *
          have e47 : ((k : Int) == 4) = true ∨ (((k : Int) == 4) = false ∧ ((k : Int) == 7) = true) := by
            rcases h47 with h | h
            · exact .inl (beq_iff_eq.2 (by omega))
            · exact .inr ⟨beq_eq_false_iff_ne.2 (by omega), beq_iff_eq.2 (by omega)⟩
          clear h47
          by_cases c45 : s[k] = 45
          · have hoat := Lib.hid (show okAt s.data.toList k = true by rw [hat]; simp [c45])
            have d45 : ((s[k].toNat : Int) != 45) = false := by rw [c45]; rfl
            clear hat hgd c45 hok
            rcases e47 with e4 | ⟨e4, e7⟩
            all_goals
              go_wp2_with fail
              go_roundw
              case rel => exact ⟨k + 1, by omega, by rw [okTo, HOK.out, hoat.out]; rfl, by go_num, by rw [hp.out]; go_num, by rw [hp.out]; exact hrow, hb⟩
              case measure => simp [intOf]; omega
          · have hN := pa_no (s := s) (by rw [hform.out]; exact ok_not hlt (by rw [hat]; simp [c45]))
            have HN := Lib.hid hN
            have d45 : ((s[k].toNat : Int) != 45) = true := by rw [bne_iff_ne]; intro e; exact c45 (UInt8.toNat_inj.1 (by rw [show (45 : UInt8).toNat = 45 from rfl]; omega))
            clear hat hgd c45 hok hN
            rcases e47 with e4 | ⟨e4, e7⟩
            all_goals
              go_wp2_with fail
              go_ret2
              exact ⟨tup2 HN.out.1.symm HN.out.2.symm, hb⟩
        · have hp := Lib.hid (show ps s.data.toList (k + 1) = ((ps s.data.toList k).1.set (ps s.data.toList k).2 (10 * (ps s.data.toList k).1.getD (ps s.data.toList k).2 0 + dv (s.data.toList.getD k 0)), (ps s.data.toList k).2) by rw [ps, if_neg h47])
          have hsnd := ps_snd s.data.toList k
          have hsb : (ps s.data.toList k).2 < 3 := by rw [hsnd]; split <;> (try split) <;> omega
          have hat : okAt s.data.toList k = !badC s[k] := by rw [okAt, if_neg h47, hgd]
          have hbd := ps_bound s.data.toList k hok (ps s.data.toList k).2
          have hpow : (10 : Int) ^ k ≤ 10000000000 := by
            have : (10 : Nat) ^ k ≤ 10 ^ 10 := Nat.pow_le_pow_right (by omega) (by omega)
            have h2 : ((10 ^ k : Nat) : Int) ≤ 10000000000 := by omega
            simpa using h2
          have hlen := ps_len s.data.toList k
          have HOK := Lib.hid hok
          rw [hgd] at hp
          clear hsnd hok
          generalize (ps s.data.toList k).2 = q at *
          generalize (ps s.data.toList k).1 = L at *
          have e4 : ((k : Int) == 4) = false := beq_eq_false_iff_ne.2 (by omega)
          have e7 : ((k : Int) == 7) = false := beq_eq_false_iff_ne.2 (by omega)
          have x0 : 0 ≤ L.getD q 0 := hbd.1
          have x1 : L.getD q 0 ≤ 10000000000 := by omega
          have hbyte : s[k].toNat < 256 := UInt8.toNat_lt _
          have HBC := Lib.hid (show badC s[k] = (decide ((s[k].toNat : Int) < 48) || decide (57 < (s[k].toNat : Int))) from rfl)
          have HD := Lib.hid (show dv s[k] = ((s[k].toNat : Int) - 48) % 256 from rfl)
          have HL := Lib.hid hlen
          have HAT := Lib.hid hat
          clear h47 hbd hpow hgd hlen hat
          cases hbc : badC s[k]
          · have hz := HBC.out
            rw [hbc] at hz
            have hz' := hz.symm
            rw [Bool.or_eq_false_iff, decide_eq_false_iff_not, decide_eq_false_iff_not] at hz'
            obtain ⟨z1, z2⟩ := hz'
            have z1' : 48 ≤ (s[k].toNat : Int) := by omega
            have z2' : (s[k].toNat : Int) ≤ 57 := by omega
            have z3 : decide (57 < (s[k].toNat : Int)) = false := by simp; omega
            have hc : wr.cell? ⟨w.heap.size, q, none⟩ = some (.int .i64 (L.getD q 0)) := hrow.cell hsb
            have hf := hrow.frozen q
            have hq3 : (q : Int) < 3 := by omega
            have hki : (k : Int) < (s.size : Int) := by omega
            have HBB := Lib.hid hbc
            generalize hv : L.getD q 0 = v at *
            have HV := Lib.hid hv
            clear hz hbc hv z1 z2
            go_wp2_with fail
            refine region_st 12 (by kernel_rfl) (by kernel_rfl) ?_
            simp only [List.take_succ_cons, List.take_zero, List.drop_succ_cons, List.drop_zero]
            repeat still_step
            refine wpStill_nil ?_
            go_wp2_with fail
            go_roundw
            case rel =>
              refine ⟨k + 1, by omega, by rw [okTo, HOK.out, HAT.out, HBB.out]; rfl, by go_num, by rw [hp.out], ?_, (hb.setCell (p := ⟨w.heap.size, q, none⟩) (Nat.le_refl _) _).drew⟩
              have hd : dv s[k] = (s[k].toNat : Int) - 48 := by rw [HD.out]; omega
              rw [hp.out, hd]
              exact (hrow.set q (.int .i64 (10 * v + ((s[k].toNat : Int) - 48)))).congr fun j _ => by
                simp only [I64]
                rw [set_getD3 _ _ _ _ (by rw [HL.out]; exact hsb)]
                split <;> rfl
            case measure => simp [intOf]; omega
          · have hN := pa_no (s := s) (by rw [hform.out]; exact ok_not hlt (by rw [HAT.out, hbc]; rfl))
            have HN := Lib.hid hN
            have hz := HBC.out
            rw [hbc] at hz
            have hz' : (s[k].toNat : Int) < 48 ∨ 57 < (s[k].toNat : Int) := by
              have := hz.symm
              rw [Bool.or_eq_true, decide_eq_true_iff, decide_eq_true_iff] at this
              exact this
            clear hz hbc hN
            rcases hz' with z | z
            · go_wp2_with fail
              go_ret2
              exact ⟨tup2 HN.out.1.symm HN.out.2.symm, hb⟩
            · have z1 : 48 ≤ (s[k].toNat : Int) := by omega
              have z3 : decide (57 < (s[k].toNat : Int)) = true := by simp; omega
              go_wp2_with fail
              go_ret2
              exact ⟨tup2 HN.out.1.symm HN.out.2.symm, hb⟩
      · have hk10 : k = 10 := by omega
        rw [hk10, hend.out] at hrow
        rw [hk10] at hok
        have HY := Lib.hid (pa_yes (s := s) (by rw [hform.out]; exact hok))
        have c0 := hrow.cell (i := 0) (by omega)
        have c1 := hrow.cell (i := 1) (by omega)
        have c2 := hrow.cell (i := 2) (by omega)
        simp only [I64, List.getD_cons_zero, List.getD_cons_succ] at c0 c1 c2
        have HK := Lib.hid hk10
        clear hk10 hok
        generalize psY s = Y at *
        generalize psM s = M at *
        generalize psD s = D at *
        go_wp2_with fail
        refine (rOf_any _ _ _ _).mono ?_
        rintro e w4 ⟨rfl, hb4⟩
        go_wp2_with fail
        go_ret2
        exact ⟨tup2 HY.out.1.symm HY.out.2.symm, hb.trans (hb4.mono hb.size)⟩
  · have HN := Lib.hid (pa_no (s := s) (by unfold formB; rw [decide_eq_false h10]; simp))
    have hne10 : ((s.size : Int) != 10) = true := by rw [bne_iff_ne]; omega
    clear h10
    go_enter Tryd.func31, Tryd.ntmps31
    go_wp2_with fail
    go_ret2
    exact ⟨tup2 HN.out.1.symm HN.out.2.symm, Below.refl _ _⟩
end Go.Proofs.YtjkpfjnhgbcnkaaDoor
