/- The contract of CheckAll. -/
import Derived.Test.YtklmgogppljolaaDoorFind
import Derived.Deep.QuietTactic
import Derived.BigQuiet
import Derived.Sort.Walk0
import Derived.Laws.Cover1
namespace Go.Proofs.YtklmgogppljolaaDoor
open Go.RowKit

def accAt (l : List Acc) (i : Nat) : Acc := l.getD i ([], 0)
/-- an account before place k under which this one lies, of another kind -/
def clash (l : List Acc) (i k : Nat) : Bool := (List.range k).any fun j => undB (accAt l i).1 (accAt l j).1 && decide ((accAt l i).2 ≠ (accAt l j).2)
theorem clash_succ (l : List Acc) (i k : Nat) : clash l i (k + 1) = (clash l i k || (undB (accAt l i).1 (accAt l k).1 && decide ((accAt l i).2 ≠ (accAt l k).2))) := by
  simp [clash, List.range_succ]
theorem clash_of {l : List Acc} {i k n : Nat} (hk : k < n) (h : (undB (accAt l i).1 (accAt l k).1 && decide ((accAt l i).2 ≠ (accAt l k).2)) = true) : clash l i n = true := by
  rw [clash, List.any_eq_true]
  exact ⟨k, List.mem_range.2 hk, h⟩
def errAt (l : List Acc) (i : Nat) : Int :=
  if codeB (accAt l i).1 = false then 3 else if (accAt l i).2 < 1 ∨ 5 < (accAt l i).2 then 7 else if 0 < i ∧ (Op.bytesLess (accAt l i).1 (accAt l (i - 1)).1 || (accAt l i).1 == (accAt l (i - 1)).1) = true then 8 else if clash l i i then 18 else 0
def chkL (l : List Acc) : Int := if 256 < l.length then 4 else (((List.range l.length).map (errAt l)).find? (fun e => e != 0)).getD 0
theorem chk_at {l : List Acc} {i : Nat} (hn : l.length ≤ 256) (hi : i < l.length) (h : ∀ j, j < i → errAt l j = 0) (he : errAt l i ≠ 0) : chkL l = errAt l i := by
  rw [chkL, if_neg (by omega)]
  have e : (List.range l.length).map (errAt l) = (List.range i).map (errAt l) ++ errAt l i :: ((List.range (l.length - i - 1)).map fun j => errAt l (i + 1 + j)) := by
    have h1 : List.range l.length = List.range i ++ i :: (List.range (l.length - i - 1)).map (fun j => i + 1 + j) := by
      have h2 : l.length = i + (1 + (l.length - i - 1)) := by omega
      conv => lhs; rw [h2, List.range_add, List.range_add]
      simp [Nat.add_assoc]
    rw [h1, List.map_append, List.map_cons, List.map_map]
    rfl
  rw [e, List.find?_append]
  have hnone : ((List.range i).map (errAt l)).find? (fun e => e != 0) = none := by
    rw [List.find?_eq_none]
    intro x hx
    obtain ⟨j, hj, rfl⟩ := List.mem_map.1 hx
    rw [h j (List.mem_range.1 hj)]
    decide
  rw [hnone, Option.none_or, List.find?_cons_of_pos (by rw [bne_iff_ne]; exact he)]
  rfl
theorem chk_ok {l : List Acc} (hn : l.length ≤ 256) (h : ∀ j, j < l.length → errAt l j = 0) : chkL l = 0 := by
  rw [chkL, if_neg (by omega)]
  have hnone : ((List.range l.length).map (errAt l)).find? (fun e => e != 0) = none := by
    rw [List.find?_eq_none]
    intro x hx
    obtain ⟨j, hj, rfl⟩ := List.mem_map.1 hx
    rw [h j (List.mem_range.1 hj)]
    decide
  rw [hnone]; rfl
theorem Accs.cells {w wr : World} {b o n c : Nat} {l : List Acc} (h : Accs w (some ⟨b, o, none⟩) n c l) (hb : Below w.heap.size w wr) {k : Nat} (hk : k < n) :
    wr.cell? ⟨b, o + k * 2, none⟩ = some (.string ⟨(accAt l k).1.toArray⟩) ∧ wr.cell? ⟨b, o + k * 2 + 1, none⟩ = some (.int .i64 (accAt l k).2) := by
  obtain ⟨b', o', e, hlt, hc⟩ := h.at_ (by omega)
  cases e
  exact ⟨(hb.cell (p := ⟨b, o + k * 2, none⟩) hlt).trans (hc k hk).1, (hb.cell (p := ⟨b, o + k * 2 + 1, none⟩) hlt).trans (hc k hk).2⟩
theorem below_drewN {B : Nat} {w w' : World} (h : Below B w w') (n : Nat) : Below B w (w'.drewN n) := ⟨h.os, h.tape, h.output, h.size, h.block⟩
set_option maxHeartbeats 4000000 in
set_option maxRecDepth 100000 in
theorem CheckAll_any (A : Option Addr) (n c : Nat) (l : List Acc) (w : World) (h : Accs w A n c l) (hl : ∀ a ∈ l, a.1.length < 4294967281) (hm : ML w) :
    Calls Tryd.prog 16 #[.slice A n c] w fun e w' => e = .returned (.int .i64 (chkL l)) ∧ Below w.heap.size w w' := by
  have htop := h.top
  have hcap := h.cap
  have hlen := Lib.hid h.len
  have HA := Lib.hid h
  have HL := Lib.hid hl
  have HM := Lib.hid hm
  clear hl hm
  by_cases h256 : 256 < n
  · have hd : decide (256 < (n : Int)) = true := by simp; omega
    have hv := Lib.hid (show chkL l = 4 by rw [chkL, hlen.out, if_pos h256])
    clear h
    go_enter Tryd.func16, Tryd.ntmps16
    go_wp2_with fail
    go_ret
    exact ⟨by rw [hv.out]; rfl, Below.refl _ _⟩
  have hd : decide (256 < (n : Int)) = false := by simp; omega
  have HAT := Lib.hid (fun i (hi : i < n) => @chk_at l i (by rw [hlen.out]; omega) (by rw [hlen.out]; exact hi))
  have HOK := Lib.hid (@chk_ok l (by rw [hlen.out]; omega))
  clear h
  go_enter Tryd.func16, Tryd.ntmps16
  go_wp2_with fail
  go_loopw [2, 3, 4, 6, 12, 17, 22, 31] (fun _ _ _ _ i _ _ _ wr => ∃ k : Nat, k ≤ n ∧ i = .int .i64 (k : Int) ∧ Hid (∀ j, j < k → errAt l j = 0) ∧ Below w.heap.size w wr) (fun _ _ _ _ i _ _ _ _ => n - (intOf i).toNat)
  case atStart => exact ⟨0, by omega, rfl, (fun j hj => by omega), Below.refl _ _⟩
  case round =>
    obtain ⟨k, hk, rfl, hz, hbw⟩ := hrel
    obtain ⟨wo, rfl⟩ : ∃ wo : World, wo = wr := ⟨_, rfl⟩
    by_cases hlt : k < n
    · obtain ⟨b, o, rfl, hbl, -⟩ := HA.out.at_ (by omega)
      obtain ⟨d1, d2⟩ := HA.out.cells hbw hlt
      have hak := Lib.hid (HL.out (accAt l k) (by rw [accAt, List.getD_eq_getElem?_getD, List.getElem?_eq_getElem (by rw [hlen.out]; exact hlt)]; exact List.getElem_mem _))
      have herr := Lib.hid (show errAt l k = if codeB (accAt l k).1 = false then 3 else if (accAt l k).2 < 1 ∨ 5 < (accAt l k).2 then 7 else if 0 < k ∧ (Op.bytesLess (accAt l k).1 (accAt l (k - 1)).1 || (accAt l k).1 == (accAt l (k - 1)).1) = true then 8 else if clash l k k then 18 else 0 from rfl)
      have hbW : b < wo.heap.size := Nat.lt_of_lt_of_le hbl hbw.size
      obtain ⟨⟨a1, a2⟩, hacc⟩ : ∃ a, accAt l k = a := ⟨_, rfl⟩
      rw [hacc] at d1 d2
      have HACC := Lib.hid hacc
      clear hacc
      have hck := Lib.hid (fun w hm => Check_any ⟨a1.toArray⟩ w (by have := hak.out; rw [HACC.out] at this; exact this) hm)
      have hnew : Below w.heap.size w (wo.alloc (.cells #[.string ⟨a1.toArray⟩, .int .i64 a2] 38)) := hbw.alloc hbw.size _
      go_wp2_with fail
      refine (hck.out _ (HM.out.below hnew)).mono ?_
      rintro e w1 ⟨rfl, hb1⟩
      have hfin : ∀ v : Int, v ≠ 0 → errAt l k = v → chkL l = v := fun v hv he => by rw [← he]; exact HAT.out k hlt hz.out (by rw [he]; exact hv)
      have HFIN := Lib.hid hfin
      have hB1 : Below w.heap.size w w1 := hnew.trans (hb1.mono hnew.size)
      have hsz1 : wo.heap.size < w1.heap.size := by have := hb1.size; simp at this; omega
      have q0 : w1.cell? ⟨wo.heap.size, 0, none⟩ = some (.string ⟨a1.toArray⟩) := (hb1.cell (p := ⟨wo.heap.size, 0, none⟩) (by simp)).trans (by go_simp)
      have q1 : w1.cell? ⟨wo.heap.size, 1, none⟩ = some (.int .i64 a2) := (hb1.cell (p := ⟨wo.heap.size, 1, none⟩) (by simp)).trans (by go_simp)
      rw [HACC.out] at herr
      clear hfin hb1 hnew d1 d2
      cases hcb : codeB a1
      · have hv := Lib.hid (HFIN.out 3 (by decide) (by rw [herr.out, hcb]; rfl))
        rw [show chk (ByteArray.mk a1.toArray).data.toList = 3 by show chk a1 = 3; rw [chk, hcb]; rfl]
        go_wp2_with fail
        go_ret
        exact ⟨by rw [hv.out]; rfl, hB1⟩
      · rw [show chk (ByteArray.mk a1.toArray).data.toList = 0 by show chk a1 = 0; rw [chk, hcb]; rfl]
        by_cases k1 : a2 < 1
        · have hv := Lib.hid (HFIN.out 7 (by decide) (by rw [herr.out, hcb, if_neg (by decide), if_pos (.inl k1)]))
          go_wp2_with fail
          go_ret
          exact ⟨by rw [hv.out]; rfl, hB1⟩
        by_cases k5 : 5 < a2
        · have kd : decide (5 < a2) = true := by simp [k5]
          have hv := Lib.hid (HFIN.out 7 (by decide) (by rw [herr.out, hcb, if_neg (by decide), if_pos (.inr k5)]))
          go_wp2_with fail
          go_ret
          exact ⟨by rw [hv.out]; rfl, hB1⟩
        have kd : decide (5 < a2) = false := by simp; omega
        have kd1 : decide (a2 < 1) = false := by simp; omega
        have herr2 := Lib.hid (show errAt l k = if 0 < k ∧ (Op.bytesLess a1 (accAt l (k - 1)).1 || a1 == (accAt l (k - 1)).1) = true then 8 else if clash l k k then 18 else 0 by rw [herr.out, hcb, if_neg (by decide), if_neg (by omega)])
        by_cases k0 : 0 < k
        · obtain ⟨m, hm⟩ : ∃ m, m = k - 1 := ⟨_, rfl⟩
          obtain ⟨⟨p1, p2⟩, hpp⟩ : ∃ a, accAt l m = a := ⟨_, rfl⟩
          obtain ⟨e1, -⟩ := HA.out.cells hB1 (show m < n by omega)
          rw [hpp] at e1
          rw [← hm, hpp] at herr2
          have hw : IntKind.i64.wrap ((k : Int) - 1) = (m : Int) := by rw [IntWalk.i64_in _ (by omega)]; omega
          have g0 : decide (0 < (k : Int)) = true := by simp; omega
          have hmn : (m : Int) < (n : Int) := by omega
          have HM2 := Lib.hid (And.intro hm hpp)
          clear hm hpp
          cases hle : (Op.bytesLess a1 p1 || a1 == p1)
          · have herr3 := Lib.hid (show errAt l k = if clash l k k then 18 else 0 by rw [herr2.out, hle, if_neg (by simp)])
            go_wp2_with fail
            go_quiet (fail)
            go_wp2_with fail
            have hB2 : Below w.heap.size w (w1.drewN nq) := below_drewN hB1 nq
            have q0' : (w1.drewN nq).cell? ⟨wo.heap.size, 0, none⟩ = some (.string ⟨a1.toArray⟩) := q0
            have q1' : (w1.drewN nq).cell? ⟨wo.heap.size, 1, none⟩ = some (.int .i64 a2) := q1
            have hsz2 : wo.heap.size < (w1.drewN nq).heap.size := hsz1
            generalize w1.drewN nq = w2 at *
            clear q0 q1 hsz1 hB1
            go_loopw [2, 6, 49] (fun _ _ i wi => ∃ j : Nat, j ≤ k ∧ i = .int .i64 (j : Int) ∧ Hid (clash l k j = false) ∧ Below w2.heap.size w2 wi) (fun _ _ i _ => k - (intOf i).toNat)
            case atStart => exact ⟨0, by omega, rfl, rfl, Below.refl _ _⟩
            case round =>
              obtain ⟨j, hj, rfl, hcl, hbi⟩ := hrel
              have hB3 : Below w.heap.size w wr := hB2.trans (hbi.mono hB2.size)
              by_cases hjk : j < k
              · obtain ⟨⟨c1, c2⟩, hcc⟩ : ∃ a, accAt l j = a := ⟨_, rfl⟩
                obtain ⟨e1, e2⟩ := HA.out.cells hB3 (show j < n by omega)
                rw [hcc] at e1 e2
                have q0 := (hbi.cell (p := ⟨wo.heap.size, 0, none⟩) hsz2).trans q0'
                have q1 := (hbi.cell (p := ⟨wo.heap.size, 1, none⟩) hsz2).trans q1'
                have hszi : wo.heap.size < wr.heap.size := Nat.lt_of_lt_of_le hsz2 hbi.size
                have hsne : ¬ (wo.heap.size = wr.heap.size) := by omega
                have hund := Lib.hid (Under_any a1 c1)
                have hbx := Lib.hid (hbi.alloc hbi.size (.cells #[.string ⟨c1.toArray⟩, .int .i64 c2] 38))
                have hsucc := Lib.hid (show clash l k (j + 1) = (undB a1 c1 && decide (a2 ≠ c2)) by rw [clash_succ, hcl.out, HACC.out, hcc]; rfl)
                have hof := Lib.hid (fun h => @clash_of l k j k hjk (by rw [HACC.out, hcc]; exact h))
                clear hcc q0' q1'
                generalize undB a1 c1 = ub at *
                cases ub
                · go_wp2_with fail
                  refine (hund.out _).mono ?_
                  rintro e w3 ⟨rfl, rfl⟩
                  go_wp2_with fail
                  go_roundw
                  case rel => exact ⟨j + 1, by omega, by go_num, hsucc.out, hbx.out⟩
                  case measure => simp [intOf]; omega
                · by_cases hkk : a2 = c2
                  · have hne : (a2 != c2) = false := by simp [hkk]
                    have hs2 := Lib.hid (show clash l k (j + 1) = false by rw [hsucc.out]; simp [hkk])
                    clear hkk
                    go_wp2_with fail
                    refine (hund.out _).mono ?_
                    rintro e w3 ⟨rfl, rfl⟩
                    go_wp2_with fail
                    go_roundw
                    case rel => exact ⟨j + 1, by omega, by go_num, hs2.out, hbx.out⟩
                    case measure => simp [intOf]; omega
                  · have hne : (a2 != c2) = true := by simp [hkk]
                    have hv := Lib.hid (HFIN.out 18 (by decide) (by rw [herr3.out, hof.out (by simp [hkk])]; rfl))
                    clear hkk
                    go_wp2_with fail
                    refine (hund.out _).mono ?_
                    rintro e w3 ⟨rfl, rfl⟩
                    go_wp2_with fail
                    go_ret
                    exact ⟨by rw [hv.out]; rfl, hB3.alloc hB3.size _⟩
              · have hjk' : j = k := by omega
                have he0 := Lib.hid (show errAt l k = 0 by
                  have := hcl.out
                  rw [hjk'] at this
                  rw [herr3.out, this]; rfl)
                clear hjk'
                go_wp2_with fail
                go_roundw
                case rel =>
                  refine ⟨k + 1, by omega, by go_num, ?_, hB3⟩
                  intro i hi
                  rcases Nat.lt_or_eq_of_le (Nat.le_of_lt_succ hi) with h | h
                  · exact hz.out i h
                  · rw [h]; exact he0.out
                case measure => simp [intOf]; omega
          · have hv := Lib.hid (HFIN.out 8 (by decide) (by rw [herr2.out, if_pos ⟨k0, hle⟩]))
            go_wp2_with fail
            go_quiet (fail)
            go_wp2_with fail
            go_ret
            exact ⟨by rw [hv.out]; rfl, below_drewN hB1 _⟩
        · have g0 : decide (0 < (k : Int)) = false := by simp; omega
          have herr3 := Lib.hid (show errAt l k = if clash l k k then 18 else 0 by rw [herr2.out, if_neg (by omega)])
          go_wp2_with fail
          go_quiet (fail)
          go_wp2_with fail
          have hB2 : Below w.heap.size w (w1.drewN nq) := below_drewN hB1 nq
          have q0' : (w1.drewN nq).cell? ⟨wo.heap.size, 0, none⟩ = some (.string ⟨a1.toArray⟩) := q0
          have q1' : (w1.drewN nq).cell? ⟨wo.heap.size, 1, none⟩ = some (.int .i64 a2) := q1
          have hsz2 : wo.heap.size < (w1.drewN nq).heap.size := hsz1
          generalize w1.drewN nq = w2 at *
          clear q0 q1 hsz1 hB1
          go_loopw [2, 6, 49] (fun _ _ i wi => ∃ j : Nat, j ≤ k ∧ i = .int .i64 (j : Int) ∧ Hid (clash l k j = false) ∧ Below w2.heap.size w2 wi) (fun _ _ i _ => k - (intOf i).toNat)
          case atStart => exact ⟨0, by omega, rfl, rfl, Below.refl _ _⟩
          case round =>
            obtain ⟨j, hj, rfl, hcl, hbi⟩ := hrel
            have hB3 : Below w.heap.size w wr := hB2.trans (hbi.mono hB2.size)
            by_cases hjk : j < k
            · exfalso; omega
            · have hjk' : j = k := by omega
              have he0 := Lib.hid (show errAt l k = 0 by
                have := hcl.out
                rw [hjk'] at this
                rw [herr3.out, this]; rfl)
              clear hjk'
              go_wp2_with fail
              go_roundw
              case rel =>
                refine ⟨k + 1, by omega, by go_num, ?_, hB3⟩
                intro i hi
                rcases Nat.lt_or_eq_of_le (Nat.le_of_lt_succ hi) with h | h
                · exact hz.out i h
                · rw [h]; exact he0.out
              case measure => simp [intOf]; omega
    · have hkn : k = n := by omega
      have hv := Lib.hid (show chkL l = 0 from HOK.out (by rw [hlen.out, ← hkn]; exact hz.out))
      clear hkn
      go_wp2_with fail
      go_ret
      exact ⟨by rw [hv.out]; rfl, hbw⟩
end Go.Proofs.YtklmgogppljolaaDoor
