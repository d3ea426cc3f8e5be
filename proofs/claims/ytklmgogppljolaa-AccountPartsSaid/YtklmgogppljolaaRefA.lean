/- The contract of the reference's CheckAll. -/
import Derived.Test.YtklmgogppljolaaRefC
namespace Go.Proofs.Ytklmgogppljolaa
open Go.RowKit

theorem le_flip (a p : List UInt8) : (Op.bytesLess a p || a == p) = !Op.bytesLess p a := by
  rw [bytesLess_eq, bytesLess_eq]
  by_cases h : p < a
  · have h1 : ¬ a < p := List.lt_asymm h
    have h2 : ¬ a = p := fun e => List.lt_irrefl p (by rw [e] at h; exact h)
    simp [h, h1, h2]
  · have h1 : a ≤ p := List.not_lt.1 h
    rcases List.le_iff_lt_or_eq.1 h1 with h2 | h2
    · simp [h, h2]
    · simp [h2]
set_option maxHeartbeats 4000000 in
set_option maxRecDepth 100000 in
theorem rCheckAll_any (A : Option Addr) (n c : Nat) (l : List Acc) (w : World) (h : Accs w A n c l) (hl : ∀ a ∈ l, a.1.length < 4294967281) :
    Calls Try.prog 13 #[.slice A n c] w fun e w' => e = .returned (.int .i64 (chkL l)) ∧ Below w.heap.size w w' := by
  have htop := h.top
  have hcap := h.cap
  have hlen := Lib.hid h.len
  have HA := Lib.hid h
  have HL := Lib.hid hl
  clear hl
  by_cases h256 : 256 < n
  · have hd : decide (256 < (n : Int)) = true := by simp; omega
    have hv := Lib.hid (show chkL l = 4 by rw [chkL, hlen.out, if_pos h256])
    clear h
    go_enter Try.func13, Try.ntmps13
    go_wp2_with fail
    go_ret
    exact ⟨by rw [hv.out]; rfl, Below.refl _ _⟩
  have hd : decide (256 < (n : Int)) = false := by simp; omega
  have HAT := Lib.hid (fun i (hi : i < n) => @chk_at l i (by rw [hlen.out]; omega) (by rw [hlen.out]; exact hi))
  have HOK := Lib.hid (@chk_ok l (by rw [hlen.out]; omega))
  clear h
  go_enter Try.func13, Try.ntmps13
  go_wp2_with fail
  go_loopw [2, 3, 4] (fun r i _ wr => ∃ k : Nat, k ≤ n ∧ r = .int .i64 0 ∧ i = .int .i64 (k : Int) ∧ Hid (∀ j, j < k → errAt l j = 0) ∧ Below w.heap.size w wr) (fun _ i _ _ => n - (intOf i).toNat)
  case atStart => exact ⟨0, by omega, rfl, rfl, Lib.hid (fun j hj => by omega), Below.refl _ _⟩
  case round =>
    obtain ⟨k, hk, rfl, rfl, hz, hbw⟩ := hrel
    by_cases hlt : k < n
    · obtain ⟨b, o, rfl, hbl, -⟩ := HA.out.at_ (by omega)
      obtain ⟨d1, d2⟩ := HA.out.cells hbw hlt
      have hak := Lib.hid (HL.out (accAt l k) (by rw [accAt, List.getD_eq_getElem?_getD, List.getElem?_eq_getElem (by rw [hlen.out]; exact hlt)]; exact List.getElem_mem _))
      have herr := Lib.hid (show errAt l k = if codeB (accAt l k).1 = false then 3 else if (accAt l k).2 < 1 ∨ 5 < (accAt l k).2 then 7 else if 0 < k ∧ (Op.bytesLess (accAt l k).1 (accAt l (k - 1)).1 || (accAt l k).1 == (accAt l (k - 1)).1) = true then 8 else if clash l k k then 18 else 0 from rfl)
      obtain ⟨⟨a1, a2⟩, hacc⟩ : ∃ a, accAt l k = a := ⟨_, rfl⟩
      rw [hacc] at d1 d2
      have HACC := Lib.hid hacc
      clear hacc
      have hck := Lib.hid (fun w => rCheck_any a1 w (by have := hak.out; rw [HACC.out] at this; simp only at this; omega))
      go_wp2_with fail
      refine (hck.out _).mono ?_
      rintro e w1 ⟨rfl, hb1⟩
      have hfin : ∀ v : Int, v ≠ 0 → errAt l k = v → chkL l = v := fun v hv he => by rw [← he]; exact HAT.out k hlt hz.out (by rw [he]; exact hv)
      have HFIN := Lib.hid hfin
      have hB1 : Below w.heap.size w w1 := hbw.trans (hb1.mono hbw.size)
      rw [HACC.out] at herr
      clear hfin hb1 d1 d2
      obtain ⟨d1, d2⟩ := HA.out.cells hB1 hlt
      rw [HACC.out] at d1 d2
      cases hcb : codeB a1
      · have hv := Lib.hid (HFIN.out 3 (by decide) (by rw [herr.out, hcb]; rfl))
        rw [show chk a1 = 3 by rw [chk, hcb]; rfl]
        go_wp2_with fail
        go_ret
        exact ⟨by rw [hv.out]; rfl, hB1⟩
      · rw [show chk a1 = 0 by rw [chk, hcb]; rfl]
        by_cases k1 : a2 < 1
        · have kd1 : decide (a2 < 1) = true := by simp [k1]
          have hv := Lib.hid (HFIN.out 7 (by decide) (by rw [herr.out, hcb, if_neg (by decide), if_pos (.inl k1)]))
          go_wp2_with fail
          go_ret
          exact ⟨by rw [hv.out]; rfl, hB1⟩
        have kd1 : decide (a2 < 1) = false := by simp; omega
        by_cases k5 : 5 < a2
        · have kd : decide (5 < a2) = true := by simp [k5]
          have hv := Lib.hid (HFIN.out 7 (by decide) (by rw [herr.out, hcb, if_neg (by decide), if_pos (.inr k5)]))
          go_wp2_with fail
          go_ret
          exact ⟨by rw [hv.out]; rfl, hB1⟩
        have kd : decide (5 < a2) = false := by simp; omega
        have herr2 := Lib.hid (show errAt l k = if 0 < k ∧ (Op.bytesLess a1 (accAt l (k - 1)).1 || a1 == (accAt l (k - 1)).1) = true then 8 else if clash l k k then 18 else 0 by rw [herr.out, hcb, if_neg (by decide), if_neg (by omega)])
        by_cases k0 : 0 < k
        · obtain ⟨m, hm⟩ : ∃ m, m = k - 1 := ⟨_, rfl⟩
          obtain ⟨⟨p1, p2⟩, hpp⟩ : ∃ a, accAt l m = a := ⟨_, rfl⟩
          obtain ⟨e1, -⟩ := HA.out.cells hB1 (show m < n by omega)
          rw [hpp] at e1
          rw [← hm, hpp] at herr2
          have hw : IntKind.i64.wrap ((k : Int) - 1) = (m : Int) := by rw [IntWalk.i64_in _ (by omega)]; omega
          have g0 : decide (0 < (k : Int)) = true := by simp; omega
          have hmn : (m : Int) < (n : Int) := by omega
          have HM2 := Lib.hid (And.intro hm hpp)
          have hcomm := le_flip a1 p1
          rw [show ((p1, p2) : Acc).1 = p1 from rfl, hcomm] at herr2
          clear hm hpp hcomm
          cases hle : (!Op.bytesLess p1 a1)
          · have herr3 := Lib.hid (show errAt l k = if clash l k k then 18 else 0 by rw [herr2.out, hle, if_neg (by simp)])
            go_wp2_with fail
            go_quiet (fail)
            go_wp2_with fail
            have hB2 : Below w.heap.size w (w1.drewN nq) := below_drewN hB1 nq
            generalize w1.drewN nq = w2 at *
            clear hB1
            go_loopw [2, 4] (fun r i wi => ∃ j : Nat, j ≤ k ∧ r = .int .i64 0 ∧ i = .int .i64 (j : Int) ∧ Hid (clash l k j = false) ∧ Below w.heap.size w wi) (fun _ i _ => k - (intOf i).toNat)
            case atStart => exact ⟨0, by omega, rfl, rfl, Lib.hid rfl, hB2⟩
            case round =>
              obtain ⟨j, hj, rfl, rfl, hcl, hB3⟩ := hrel
              by_cases hjk : j < k
              · obtain ⟨⟨c1, c2⟩, hcc⟩ : ∃ a, accAt l j = a := ⟨_, rfl⟩
                obtain ⟨e1, e2⟩ := HA.out.cells hB3 (show j < n by omega)
                obtain ⟨x1, x2⟩ := HA.out.cells hB3 hlt
                rw [hcc] at e1 e2
                rw [HACC.out] at x1 x2
                have hjn : (j : Int) < (n : Int) := by omega
                have hund := Lib.hid (rUnder_q a1 c1)
                have hsucc := Lib.hid (show clash l k (j + 1) = (undB a1 c1 && decide (a2 ≠ c2)) by rw [clash_succ, hcl.out, HACC.out, hcc]; rfl)
                have hof := Lib.hid (fun h => @clash_of l k j k hjk (by rw [HACC.out, hcc]; exact h))
                clear hcc
                generalize undB a1 c1 = ub at *
                cases ub
                · go_wp2_with fail
                  go_quiet ((go_at_call 26; exact Calls.quiet_of_same (hund.out _)))
                  have hB4 := Lib.hid (below_drewN hB3 nq)
                  go_wp2_with fail
                  go_roundw
                  case rel => exact ⟨j + 1, by omega, rfl, by go_num, Lib.hid hsucc.out, hB4.out⟩
                  case measure => simp [intOf]; omega
                · by_cases hkk : a2 = c2
                  · have hne : (c2 != a2) = false := by simp [hkk]
                    have hs2 := Lib.hid (show clash l k (j + 1) = false by rw [hsucc.out]; simp [hkk])
                    clear hkk
                    go_wp2_with fail
                    go_quiet ((go_at_call 26; exact Calls.quiet_of_same (hund.out _)))
                    have hB4 := Lib.hid (below_drewN hB3 nq)
                    go_wp2_with fail
                    go_roundw
                    case rel => exact ⟨j + 1, by omega, rfl, by go_num, hs2, hB4.out⟩
                    case measure => simp [intOf]; omega
                  · have hne : (c2 != a2) = true := by simp [Ne.symm hkk]
                    have hv := Lib.hid (HFIN.out 18 (by decide) (by rw [herr3.out, hof.out (by simp [hkk])]; rfl))
                    clear hkk
                    go_wp2_with fail
                    go_quiet ((go_at_call 26; exact Calls.quiet_of_same (hund.out _)))
                    have hB4 := Lib.hid (below_drewN hB3 nq)
                    go_wp2_with fail
                    go_ret
                    exact ⟨congrArg (fun z => Ending.returned (.int .i64 z)) hv.out.symm, hB4.out⟩
              · have hjk' : j = k := by omega
                have he0 := Lib.hid (show errAt l k = 0 by
                  have := hcl.out
                  rw [hjk'] at this
                  rw [herr3.out, this]; rfl)
                clear hjk'
                go_wp2_with fail
                go_roundw
                case rel =>
                  refine ⟨k + 1, by omega, rfl, by go_num, Lib.hid ?_, hB3⟩
                  intro i hi
                  rcases Nat.lt_or_eq_of_le (Nat.le_of_lt_succ hi) with h | h
                  · exact hz.out i h
                  · rw [h]; exact he0.out
                case measure => simp [intOf]; omega
          · have hv := Lib.hid (HFIN.out 8 (by decide) (by rw [herr2.out, if_pos ⟨k0, hle⟩]))
            go_wp2_with fail
            go_quiet (fail)
            go_wp2_with fail
            go_ret
            exact ⟨by rw [hv.out]; rfl, below_drewN hB1 _⟩
        · have g0 : decide (0 < (k : Int)) = false := by simp; omega
          have herr3 := Lib.hid (show errAt l k = if clash l k k then 18 else 0 by rw [herr2.out, if_neg (by omega)])
          go_wp2_with fail
          go_quiet (fail)
          go_wp2_with fail
          have hB2 : Below w.heap.size w (w1.drewN nq) := below_drewN hB1 nq
          generalize w1.drewN nq = w2 at *
          clear hB1
          go_loopw [2, 4] (fun r i wi => ∃ j : Nat, j ≤ k ∧ r = .int .i64 0 ∧ i = .int .i64 (j : Int) ∧ Hid (clash l k j = false) ∧ Below w.heap.size w wi) (fun _ i _ => k - (intOf i).toNat)
          case atStart => exact ⟨0, by omega, rfl, rfl, Lib.hid rfl, hB2⟩
          case round =>
            obtain ⟨j, hj, rfl, rfl, hcl, hB3⟩ := hrel
            by_cases hjk : j < k
            · exfalso; omega
            · have hjk' : j = k := by omega
              have he0 := Lib.hid (show errAt l k = 0 by
                have := hcl.out
                rw [hjk'] at this
                rw [herr3.out, this]; rfl)
              clear hjk'
              go_wp2_with fail
              go_roundw
              case rel =>
                refine ⟨k + 1, by omega, rfl, by go_num, Lib.hid ?_, hB3⟩
                intro i hi
                rcases Nat.lt_or_eq_of_le (Nat.le_of_lt_succ hi) with h | h
                · exact hz.out i h
                · rw [h]; exact he0.out
              case measure => simp [intOf]; omega
    · have hkn : k = n := by omega
      have hv := Lib.hid (show chkL l = 0 from HOK.out (by rw [hlen.out, ← hkn]; exact hz.out))
      clear hkn
      go_wp2_with fail
      go_ret
      exact ⟨by rw [hv.out]; rfl, hbw⟩
end Go.Proofs.Ytklmgogppljolaa
