/- The walk of AccountParents. -/
import Derived.Test.YtklmgogppljolaaDoorParP
import Derived.Test.YtklmgogppljolaaDoorTempl
import Derived.Outline
namespace Go.Proofs.YtklmgogppljolaaDoor
open Go.RowKit

theorem not_name (x : List UInt8) (w : World) (hx : nameB x = true) (hl : x.length ≤ maxLen) : Calls Tryd.prog 12 #[.string ⟨x.toArray⟩] w fun e w' => e = .returned (.bool false) ∧ Below w.heap.size w w' := by
  have h := name_any ⟨x.toArray⟩ w hl
  have e : nameB (⟨x.toArray⟩ : ByteArray).data.toList = true := hx
  rw [e] at h
  have H := Lib.hid h
  clear h e
  go_enter Tryd.func12, Tryd.ntmps12
  go_wp2_with fail
  refine H.out.mono ?_
  rintro e w1 ⟨rfl, hb⟩
  go_wp2_with fail
  go_ret
  exact ⟨rfl, hb⟩
set_option maxHeartbeats 2000000 in
set_option maxRecDepth 100000 in
theorem index_none (S : List (List UInt8)) (n b : Nat) (w : World) (hn : S.length = n) (hS : Names S) (h : Row w b S) : Calls Tryd.prog 23 #[.slice (some ⟨b, 0, none⟩) n n, .func (.func 12) #[] #[]] w fun e w' => e = .returned (.int .i64 (-1)) ∧ Below w.heap.size w w' := by
  have HN := Lib.hid hS
  have HR := Lib.hid h
  have HL := Lib.hid hn
  have hn6 : n ≤ 6 := by rw [← hn]; exact hS.le
  clear hn h hS
  go_enter Tryd.func23, Tryd.ntmps23
  go_wp2_with fail
  go_loopw [8] (fun i wr => ∃ k : Nat, k ≤ n ∧ i = .int .i64 (k : Int) ∧ Hid (Below w.heap.size w wr)) (fun i _ => n - (intOf i).toNat)
  case atStart => exact ⟨0, by omega, rfl, Lib.hid (Below.refl _ _)⟩
  case round =>
    obtain ⟨k, hk, rfl, hb⟩ := hrel
    by_cases hlt : k < n
    · have c1 := (HR.out.below hb.out).2 k (by rw [HL.out]; exact hlt)
      have hm : segAt S k ∈ S := by
        rw [segAt, List.getD_eq_getElem?_getD, List.getElem?_eq_getElem (by rw [HL.out]; exact hlt)]
        exact List.getElem_mem _
      have hnm := HN.out.each _ hm
      have hl := (name_no hnm).2.2.2.2
      generalize segAt S k = x at *
      have HC := Lib.hid (fun W => not_name x W hnm (by unfold maxLen; omega))
      clear hnm hm
      go_wp2_with fail
      refine (HC.out _).mono ?_
      rintro e w1 ⟨rfl, hb1⟩
      go_wp2_with fail
      go_roundw
      case rel => exact ⟨k + 1, by omega, by go_num, Lib.hid (hb.out.trans (hb1.mono hb.out.size))⟩
      case measure => simp [intOf]; omega
    · go_wp2_with fail
      go_ret
      exact ⟨rfl, hb.out⟩
theorem contains_none (S : List (List UInt8)) (n b : Nat) (w : World) (hn : S.length = n) (hS : Names S) (h : Row w b S) : Calls Tryd.prog 11 #[.slice (some ⟨b, 0, none⟩) n n, .func (.func 12) #[] #[]] w fun e w' => e = .returned (.bool false) ∧ Below w.heap.size w w' := by
  have H := Lib.hid (index_none S n b w hn hS h)
  clear hn hS h
  go_enter Tryd.func11, Tryd.ntmps11
  go_wp2_with fail
  refine H.out.mono ?_
  rintro e w1 ⟨rfl, hb⟩
  go_wp2_with fail
  go_ret
  exact ⟨rfl, hb⟩
theorem join_any (S : List (List UInt8)) (n b j : Nat) (w : World) (hn : S.length = n) (hj : j ≤ n) (hS : Names S) (h : Row w b S) :
    Calls Tryd.prog 14 #[.slice (some ⟨b, 0, none⟩) j n, .string ⟨#[46]⟩] w fun e w' => e = .returned (.string ⟨(pre S j).toArray⟩) ∧ Below w.heap.size w w' := by
  have hn6 : n ≤ 6 := by rw [← hn]; exact hS.le
  have hl : ((S.take j).map (fun x => (⟨x.toArray⟩ : ByteArray))).length = j := by rw [List.length_map, List.length_take]; omega
  have e : ((S.take j).map (fun x => (⟨x.toArray⟩ : ByteArray))).map (·.data.toList) = S.take j := by
    rw [List.map_map]
    conv => rhs; rw [← List.map_id (S.take j)]
    exact List.map_congr_left fun x _ => rfl
  have hc := Tryd.strings_Join b 0 n ((S.take j).map (fun x => (⟨x.toArray⟩ : ByteArray))) ⟨#[46]⟩ w (fun q x hx => by
    have hq : q < j := by have := (List.getElem?_eq_some_iff.1 hx).1; omega
    rw [Nat.zero_add, h.2 q (by omega)]
    rw [List.getElem?_map, List.getElem?_take, if_pos hq, List.getElem?_eq_getElem (by omega)] at hx
    cases hx
    rw [segAt, List.getD_eq_getElem?_getD, List.getElem?_eq_getElem (by omega)]
    rfl) h.1 (by omega) (by omega) (by rw [e]; have := hS.len j; exact Nat.le_trans this (by omega))
  rw [hl, e] at hc
  exact hc
set_option maxHeartbeats 8000000 in
set_option maxRecDepth 100000 in
theorem parents_main (code other : List UInt8) (w : World) (hm : ML w) (hc : code.length ≤ 120) (ho : other.length ≤ 120) (hcb : codeB code = true) :
    Calls Tryd.prog 4 #[.string ⟨code.toArray⟩, .string ⟨other.toArray⟩] w (Yes w) := by
  obtain ⟨hN, hP⟩ := names_of hcb
  have HM := Lib.hid hm
  have HC := Lib.hid (fun W hW => Check_any ⟨code.toArray⟩ W (by simp [ByteArray.size]; omega) hW)
  have e1 : chk (⟨code.toArray⟩ : ByteArray).data.toList = 0 := by show chk code = 0; rw [chk, hcb]; rfl
  simp only [e1] at HC
  obtain ⟨n, hn⟩ : ∃ n, (segs code).length = n := ⟨_, rfl⟩
  have HS := Lib.hid (fun W hW => split_any code n W (by omega) hn hW)
  obtain ⟨S, hS⟩ : ∃ S, segs code = S := ⟨_, rfl⟩
  simp only [hS] at HS
  rw [hS] at hN hP hn
  have HN := Lib.hid hN
  have hn1 : 1 ≤ n := by rw [← hn]; exact hN.pos
  have hn6 : n ≤ 6 := by rw [← hn]; exact hN.le
  rw [hn] at hP
  have HP := Lib.hid hP
  have HL := Lib.hid hn
  have dc : decide (120 < (code.length : Int)) = false := by simp; omega
  have do_ : decide (120 < (other.length : Int)) = false := by simp; omega
  have d6 : decide (6 < (n : Int)) = false := by simp; omega
  clear hcb hN hP hn hS e1 hm
  go_enter Tryd.func4, Tryd.ntmps4
  go_wp2_with fail
  refine (HC.out _ HM.out).mono ?_
  rintro e w1 ⟨rfl, hb1⟩
  have B1 := Lib.hid hb1
  clear hb1
  go_wp2_with fail
  refine (HS.out _ (HM.out.below B1.out)).mono ?_
  rintro e w2 ⟨rfl, r2, hb2⟩
  have B2 := Lib.hid (B1.out.trans (hb2.mono B1.out.size))
  have R2 := Lib.hid r2
  clear hb2 r2
  go_wp2_with fail
  refine (contains_none S n _ _ HL.out HN.out R2.out).mono ?_
  rintro e w3 ⟨rfl, hb3⟩
  have B3 := Lib.hid (B2.out.trans (hb3.mono B2.out.size))
  have R3 := Lib.hid (R2.out.below hb3)
  clear hb3 R2
  go_wp2_with fail
  go_loopw [8, 9, 10] (fun s8 s9 s10 wr => ∃ (m : Nat) (am : Bool) (x : List UInt8), 1 ≤ m ∧ m ≤ n ∧ s10 = .int .i64 (m : Int) ∧ s9 = .string ⟨x.toArray⟩ ∧ s8 = .bool am ∧ Hid (x = pre S m ∧ am = amB S other (n - m)) ∧ Hid (Below w3.heap.size w3 wr)) (fun _ _ s10 _ => (intOf s10).toNat)
  case atStart => exact ⟨n, false, code, hn1, Nat.le_refl _, rfl, rfl, rfl, Lib.hid ⟨HP.out.symm, by rw [Nat.sub_self]; rfl⟩, Lib.hid (Below.refl _ _)⟩
  case round =>
    obtain ⟨m, am, x, hm1, hmn, rfl, rfl, rfl, hx, hb⟩ := hrel
    have BR := Lib.hid (B3.out.trans (hb.out.mono B3.out.size))
    have RR := Lib.hid (R3.out.below hb.out)
    by_cases h1 : 1 < m
    · obtain ⟨j, rfl⟩ : ∃ j, m = j + 1 := ⟨m - 1, by omega⟩
      obtain ⟨p1, p2⟩ := HN.out.parent (j := j) (by omega) (by rw [HL.out]; omega)
      have hPar := Lib.hid (fun W hW => Parent_any x W (by rw [hx.out.1]; have := HN.out.len (j + 1); omega) hW)
      rw [hx.out.1] at hPar
      simp only [p1, p2] at hPar
      have hund := HN.out.under (j := j) (by omega) (by rw [HL.out]; omega)
      have hcode := HN.out.code (j := j) (by omega)
      have hlen := HN.out.len j
      have has := am_succ S other (n - (j + 1))
      rw [HL.out, show n - (j + 1) + 1 = n - j by omega, show n - 1 - (n - (j + 1)) = j by omega, ← hx.out.2] at has
      have hJ := Lib.hid (fun W hW => join_any S n w1.heap.size j W HL.out (by omega) HN.out hW)
      have hxe := hx.out.1
      obtain ⟨y, hy⟩ : ∃ y, pre S j = y := ⟨_, rfl⟩
      rw [hy] at hPar hund hcode hlen has hJ
      rw [← hxe] at hPar hund
      have hU := Lib.hid (fun W => Under_any x y W)
      simp only [hund] at hU
      have hCh := Lib.hid (fun W hW => Check_any ⟨y.toArray⟩ W (by simp [ByteArray.size]; omega) hW)
      have e1 : chk (⟨y.toArray⟩ : ByteArray).data.toList = 0 := by show chk y = 0; rw [chk, hcode]; rfl
      simp only [e1] at hCh
      have HAS := Lib.hid (And.intro has hy)
      clear hx p1 p2 hund hcode has hxe hy e1
      have hw1 : IntKind.i64.wrap (((j + 1 : Nat) : Int) - 1) = (j : Int) := by rw [IntWalk.i64_in _ (by omega)]; omega
      have i1 : (j : Int) ≤ (n : Int) := by omega
      have hj1 : (1 : Int) < (j : Int) + 1 := by omega
      have hrest : ∀ (am2 : Bool), am2 = (am || decide (y = other)) → am2 = amB S other (n - j) := fun am2 h => by rw [h, HAS.out.1]
      have HRE := Lib.hid hrest
      clear hrest
      cases am
      · by_cases ho' : y = other
        · have d1 : (y == other) = true := by simp [ho']
          have HO := Lib.hid ho'
          clear ho'
          go_wp2_with fail
          refine (hPar.out _ (HM.out.below BR.out)).mono ?_
          rintro e v1 ⟨rfl, c1⟩
          have C1 := Lib.hid (BR.out.trans (c1.mono BR.out.size))
          have D1 := Lib.hid (hb.out.trans (c1.mono hb.out.size))
          have R1 := Lib.hid (RR.out.below c1)
          clear c1
          go_wp2_with fail
          refine (hCh.out _ (HM.out.below C1.out)).mono ?_
          rintro e v2 ⟨rfl, c2⟩
          have C2 := Lib.hid (C1.out.trans (c2.mono C1.out.size))
          have D2 := Lib.hid (D1.out.trans (c2.mono D1.out.size))
          have R2 := Lib.hid (R1.out.below c2)
          clear c2
          go_wp2_with fail
          refine (hU.out _).mono ?_
          rintro e v3 ⟨rfl, rfl⟩
          go_wp2_with fail
          refine (hJ.out _ R2.out).mono ?_
          rintro e v4 ⟨rfl, c4⟩
          have D4 := Lib.hid (D2.out.trans (c4.mono D2.out.size))
          clear c4
          go_wp2_with fail
          go_roundw
          case rel => exact ⟨j, true, y, by omega, by omega, by go_num, rfl, rfl, Lib.hid ⟨HAS.out.2.symm, HRE.out _ (by simp [HO.out])⟩, D4⟩
          case measure => simp [intOf]
        · have d1 : (y == other) = false := by simp [ho']
          have HO := Lib.hid ho'
          clear ho'
          go_wp2_with fail
          refine (hPar.out _ (HM.out.below BR.out)).mono ?_
          rintro e v1 ⟨rfl, c1⟩
          have C1 := Lib.hid (BR.out.trans (c1.mono BR.out.size))
          have D1 := Lib.hid (hb.out.trans (c1.mono hb.out.size))
          have R1 := Lib.hid (RR.out.below c1)
          clear c1
          go_wp2_with fail
          refine (hCh.out _ (HM.out.below C1.out)).mono ?_
          rintro e v2 ⟨rfl, c2⟩
          have C2 := Lib.hid (C1.out.trans (c2.mono C1.out.size))
          have D2 := Lib.hid (D1.out.trans (c2.mono D1.out.size))
          have R2 := Lib.hid (R1.out.below c2)
          clear c2
          go_wp2_with fail
          refine (hU.out _).mono ?_
          rintro e v3 ⟨rfl, rfl⟩
          go_wp2_with fail
          refine (hJ.out _ R2.out).mono ?_
          rintro e v4 ⟨rfl, c4⟩
          have D4 := Lib.hid (D2.out.trans (c4.mono D2.out.size))
          clear c4
          go_wp2_with fail
          go_roundw
          case rel => exact ⟨j, false, y, by omega, by omega, by go_num, rfl, rfl, Lib.hid ⟨HAS.out.2.symm, HRE.out _ (by simp [HO.out])⟩, D4⟩
          case measure => simp [intOf]
      · go_wp2_with fail
        refine (hPar.out _ (HM.out.below BR.out)).mono ?_
        rintro e v1 ⟨rfl, c1⟩
        have C1 := Lib.hid (BR.out.trans (c1.mono BR.out.size))
        have D1 := Lib.hid (hb.out.trans (c1.mono hb.out.size))
        have R1 := Lib.hid (RR.out.below c1)
        clear c1
        go_wp2_with fail
        refine (hCh.out _ (HM.out.below C1.out)).mono ?_
        rintro e v2 ⟨rfl, c2⟩
        have C2 := Lib.hid (C1.out.trans (c2.mono C1.out.size))
        have D2 := Lib.hid (D1.out.trans (c2.mono D1.out.size))
        have R2 := Lib.hid (R1.out.below c2)
        clear c2
        go_wp2_with fail
        refine (hU.out _).mono ?_
        rintro e v3 ⟨rfl, rfl⟩
        go_wp2_with fail
        refine (hJ.out _ R2.out).mono ?_
        rintro e v4 ⟨rfl, c4⟩
        have D4 := Lib.hid (D2.out.trans (c4.mono D2.out.size))
        clear c4
        go_wp2_with fail
        go_roundw
        case rel => exact ⟨j, true, y, by omega, by omega, by go_num, rfl, rfl, Lib.hid ⟨HAS.out.2.symm, HRE.out _ (by simp)⟩, D4⟩
        case measure => simp [intOf]
    · obtain rfl : m = 1 := by omega
      obtain ⟨t1, t2⟩ := HN.out.top
      have hPar := Lib.hid (fun W hW => Parent_any x W (by rw [hx.out.1]; have := HN.out.len 1; omega) hW)
      rw [hx.out.1] at hPar
      simp only [t1, t2] at hPar
      rw [← hx.out.1] at hPar
      have ham := hx.out.2
      have hamo : other ≠ code → undB code other = am := fun hne => by
        have := among HN.out other (by rw [HL.out, HP.out]; exact hne)
        rw [HL.out, HP.out] at this
        rw [this, ham]
      have HAM := Lib.hid hamo
      have hCo := Lib.hid (fun W hW => Check_any ⟨other.toArray⟩ W (by simp [ByteArray.size]; omega) hW)
      have e1 : chk (⟨other.toArray⟩ : ByteArray).data.toList = chk other := rfl
      simp only [e1] at hCo
      have hU := Lib.hid (fun W => Under_any code other W)
      clear hx t1 t2 ham hamo e1
      cases hob : codeB other
      · have e2 : chk other = 3 := by rw [chk, hob]; rfl
        simp only [e2] at hCo
        clear e2 hob
        go_wp2_with fail
        refine (hPar.out _ (HM.out.below BR.out)).mono ?_
        rintro e v1 ⟨rfl, c1⟩
        have C1 := Lib.hid (BR.out.trans (c1.mono BR.out.size))
        clear c1
        go_wp2_with fail
        refine (hCo.out _ (HM.out.below C1.out)).mono ?_
        rintro e v2 ⟨rfl, c2⟩
        have C2 := Lib.hid (C1.out.trans (c2.mono C1.out.size))
        clear c2
        go_wp2_with fail
        refine (awake_any _ (HM.out.below C2.out)).mono ?_
        rintro e v9 ⟨rfl, c9⟩
        go_wp2_with fail
        go_ret
        exact ⟨rfl, C2.out.trans (c9.mono C2.out.size)⟩
      · have e2 : chk other = 0 := by rw [chk, hob]; rfl
        simp only [e2] at hCo
        clear e2 hob
        by_cases hoc : other = code
        · have d1 : (other != code) = false := by simp [hoc]
          have d2 : (other == code) = true := by simp [hoc]
          clear hoc
          go_wp2_with fail
          refine (hPar.out _ (HM.out.below BR.out)).mono ?_
          rintro e v1 ⟨rfl, c1⟩
          have C1 := Lib.hid (BR.out.trans (c1.mono BR.out.size))
          clear c1
          go_wp2_with fail
          refine (hCo.out _ (HM.out.below C1.out)).mono ?_
          rintro e v2 ⟨rfl, c2⟩
          have C2 := Lib.hid (C1.out.trans (c2.mono C1.out.size))
          clear c2
          go_wp2_with fail
          refine (awake_any _ (HM.out.below C2.out)).mono ?_
          rintro e v9 ⟨rfl, c9⟩
          go_wp2_with fail
          go_ret
          exact ⟨rfl, C2.out.trans (c9.mono C2.out.size)⟩
        · have d1 : (other != code) = true := by simp [hoc]
          have d2 : (other == code) = false := by simp [hoc]
          have hu := HAM.out hoc
          simp only [hu] at hU
          clear hoc hu
          cases am
          all_goals
            go_wp2_with fail
            refine (hPar.out _ (HM.out.below BR.out)).mono ?_
            rintro e v1 ⟨rfl, c1⟩
            have C1 := Lib.hid (BR.out.trans (c1.mono BR.out.size))
            clear c1
            go_wp2_with fail
            refine (hCo.out _ (HM.out.below C1.out)).mono ?_
            rintro e v2 ⟨rfl, c2⟩
            have C2 := Lib.hid (C1.out.trans (c2.mono C1.out.size))
            clear c2
            go_wp2_with fail
            refine (hU.out _).mono ?_
            rintro e v3 ⟨rfl, rfl⟩
            go_wp2_with fail
            refine (awake_any _ (HM.out.below C2.out)).mono ?_
            rintro e v9 ⟨rfl, c9⟩
            go_wp2_with fail
            go_ret
            exact ⟨rfl, C2.out.trans (c9.mono C2.out.size)⟩
set_option maxHeartbeats 2000000 in
set_option maxRecDepth 100000 in
theorem parents_early (code other : List UInt8) (w : World) (hm : ML w) (lc : code.length ≤ maxLen) (lo : other.length ≤ maxLen) (h : 120 < code.length ∨ 120 < other.length ∨ codeB code = false) :
    Calls Tryd.prog 4 #[.string ⟨code.toArray⟩, .string ⟨other.toArray⟩] w (Yes w) := by
  unfold maxLen at lc lo
  have HM := Lib.hid hm
  by_cases h1 : 120 < code.length
  · have dc : decide (120 < (code.length : Int)) = true := by simp; omega
    go_enter Tryd.func4, Tryd.ntmps4
    go_wp2_with fail
    refine (awake_any _ HM.out).mono ?_
    rintro e v9 ⟨rfl, c9⟩
    go_wp2_with fail
    go_ret
    exact ⟨rfl, c9⟩
  · have dc : decide (120 < (code.length : Int)) = false := by simp; omega
    by_cases h2 : 120 < other.length
    · have do_ : decide (120 < (other.length : Int)) = true := by simp; omega
      go_enter Tryd.func4, Tryd.ntmps4
      go_wp2_with fail
      refine (awake_any _ HM.out).mono ?_
      rintro e v9 ⟨rfl, c9⟩
      go_wp2_with fail
      go_ret
      exact ⟨rfl, c9⟩
    · have do_ : decide (120 < (other.length : Int)) = false := by simp; omega
      have hcb : codeB code = false := by
        rcases h with h | h | h
        · omega
        · omega
        · exact h
      have HC := Lib.hid (fun W hW => Check_any ⟨code.toArray⟩ W (by simp [ByteArray.size]; omega) hW)
      have e1 : chk (⟨code.toArray⟩ : ByteArray).data.toList = 3 := by show chk code = 3; rw [chk, hcb]; rfl
      simp only [e1] at HC
      obtain ⟨p1, p2⟩ := par_bad hcb
      have hPar := Lib.hid (fun W hW => Parent_any code W (by omega) hW)
      simp only [p1, p2] at hPar
      clear h hcb e1 p1 p2
      go_enter Tryd.func4, Tryd.ntmps4
      go_wp2_with fail
      refine (HC.out _ HM.out).mono ?_
      rintro e w1 ⟨rfl, hb1⟩
      go_wp2_with fail
      refine (hPar.out _ (HM.out.below hb1)).mono ?_
      rintro e v1 ⟨rfl, c1⟩
      have C1 := hb1.trans (c1.mono hb1.size)
      go_wp2_with fail
      refine (awake_any _ (HM.out.below C1)).mono ?_
      rintro e v9 ⟨rfl, c9⟩
      go_wp2_with fail
      go_ret
      exact ⟨rfl, C1.trans (c9.mono C1.size)⟩
theorem parents_row (code other : ByteArray) (w : World) (hm : ML w) (lc : code.size ≤ maxLen) (lo : other.size ≤ maxLen) :
    Calls Tryd.prog 4 #[.string code, .string other] w (Yes w) := by
  suffices H : ∀ code other : List UInt8, code.length ≤ maxLen → other.length ≤ maxLen → Calls Tryd.prog 4 #[.string ⟨code.toArray⟩, .string ⟨other.toArray⟩] w (Yes w) from
    H code.data.toList other.data.toList lc lo
  intro code other lc lo
  by_cases h : 120 < code.length ∨ 120 < other.length ∨ codeB code = false
  · exact parents_early code other w hm lc lo h
  · refine parents_main code other w hm (by omega) (by omega) ?_
    cases hc : codeB code with
    | false => exact (h (.inr (.inr hc))).elim
    | true => rfl
end Go.Proofs.YtklmgogppljolaaDoor
