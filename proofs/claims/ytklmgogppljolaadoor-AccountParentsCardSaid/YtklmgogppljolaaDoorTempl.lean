/- The walk of AccountTemplates. -/
import Derived.Test.YtklmgogppljolaaDoorTmplP
import Derived.Outline
namespace Go.Proofs.YtklmgogppljolaaDoor
open Go.RowKit

def segAt (l : List (List UInt8)) (k : Nat) : List UInt8 := l.getD k []
/-- a block that holds strings -/
def Row (w : World) (b : Nat) (l : List (List UInt8)) : Prop := b < w.heap.size ∧ ∀ j, j < l.length → w.cell? ⟨b, j, none⟩ = some (.string ⟨(segAt l j).toArray⟩)
theorem Row.below {w w' : World} {b : Nat} {l : List (List UInt8)} (h : Row w b l) (hb : Below w.heap.size w w') : Row w' b l :=
  ⟨Nat.lt_of_lt_of_le h.1 hb.size, fun j hj => (hb.cell (p := ⟨b, j, none⟩) h.1).trans (h.2 j hj)⟩
def Yes (w : World) (e : Ending) (w' : World) : Prop := e = .returned (.bool true) ∧ Below w.heap.size w w'
theorem split_any (s : List UInt8) (n : Nat) (w : World) (hs : s.length < 4294967281) (hn : (segs s).length = n) (hm : ML w) :
    Calls Tryd.prog 9 #[.string ⟨s.toArray⟩, .string ⟨#[46]⟩] w fun e w' => e = .returned (.slice (some ⟨w.heap.size, 0, none⟩) n n) ∧ Row w' w.heap.size (segs s) ∧ Below w.heap.size w w' := by
  obtain ⟨m, hm⟩ := hm
  obtain ⟨e1, e2⟩ := split_segs s.length s (Nat.le_refl _)
  have h := Tryd.strings_Split ⟨s.toArray⟩ ⟨#[46]⟩ m w hs hm (by decide)
  rw [e1, e2, hn] at h
  refine h.mono ?_
  rintro e w' ⟨rfl, rfl⟩
  refine ⟨rfl, ⟨by simp, fun j hj => ?_⟩, (Below.refl _ _).alloc (Nat.le_refl _) _⟩
  rw [cell_of_row _ _ _ _ _ _ (heap_alloc_new w _)]
  simp [segAt, hj]
theorem take_mem (l : List (List UInt8)) (q : List UInt8) (j : Nat) (hj : j < l.length) : decide (q ∈ l.take (j + 1)) = (decide (q ∈ l.take j) || decide (segAt l j = q)) := by
  rw [List.take_succ_eq_append_getElem hj, segAt, List.getD_eq_getElem?_getD, List.getElem?_eq_getElem hj, Option.getD_some]
  generalize l.take j = m
  generalize l[j] = z
  by_cases ha : q ∈ m
  · simp [ha]
  · by_cases hb : z = q
    · simp [hb]
    · have : ¬ q = z := fun e => hb e.symm
      simp [ha, hb, this]
theorem ne_of {x y : List UInt8} (h : x = y) : (x != y) = false := by rw [h]; simp
set_option maxHeartbeats 8000000 in
set_option maxRecDepth 100000 in
theorem templ_main (t one two : List UInt8) (w : World) (hm : ML w) (ht : t.length ≤ 120) (h1 : nameB one = true) (h2 : nameB two = true) (l1 : one.length ≤ maxLen) (l2 : two.length ≤ maxLen) (hc : codeB t = false) (he : exE t one two = 0) :
    Calls Tryd.prog 3 #[.string ⟨t.toArray⟩, .string ⟨one.toArray⟩, .string ⟨two.toArray⟩] w (Yes w) := by
  have HI := Lib.hid (tinfo t one two h1 h2)
  have HM := Lib.hid hm
  have HN1 := Lib.hid (fun W => name_any ⟨one.toArray⟩ W l1)
  have HN2 := Lib.hid (fun W => name_any ⟨two.toArray⟩ W l2)
  have e1 : nameB (⟨one.toArray⟩ : ByteArray).data.toList = true := h1
  have e2 : nameB (⟨two.toArray⟩ : ByteArray).data.toList = true := h2
  simp only [e1] at HN1
  simp only [e2] at HN2
  have HE := Lib.hid (fun W hW => Expand_any t one two W (by omega) l1 l2 hW)
  have HE1 := Lib.hid (fun W hW => Expand_any t [] two W (by omega) (by unfold maxLen; simp) l2 hW)
  have HE2 := Lib.hid (fun W hW => Expand_any t one [] W (by omega) l1 (by unfold maxLen; simp) hW)
  have HC := Lib.hid (fun W hW => Check_any ⟨t.toArray⟩ W (by simp [ByteArray.size]; omega) hW)
  have e3 : chk (⟨t.toArray⟩ : ByteArray).data.toList = 3 := by show chk t = 3; rw [chk, hc]; rfl
  simp only [e3] at HC
  obtain ⟨y1, y2, y3, y4, y5, y6⟩ := HI.out.yes he
  obtain ⟨s, hs⟩ : ∃ s, exR t one two = s := ⟨_, rfl⟩
  rw [hs] at y1 y2 y3
  simp only [he, hs] at HE
  have HCS := Lib.hid (fun W hW => Check_any ⟨s.toArray⟩ W (by simp [ByteArray.size]; omega) hW)
  have e4 : chk (⟨s.toArray⟩ : ByteArray).data.toList = 0 := by show chk s = 0; rw [chk, y2]; rfl
  simp only [e4] at HCS
  obtain ⟨n, hn⟩ : ∃ n, (segs t).length = n := ⟨_, rfl⟩
  have hn' : (segs s).length = n := by rw [y1, List.length_map, hn]
  have HS1 := Lib.hid (fun W hW => split_any t n W (by omega) hn hW)
  have HS2 := Lib.hid (fun W hW => split_any s n W (by omega) hn' hW)
  have hn6 : n ≤ 6 := by omega
  have hrep : ∀ j, j < n → segAt (segs s) j = rep one two (segAt (segs t) j) := fun j hj => by
    rw [y1, segAt, segAt]
    simp only [List.getD_eq_getElem?_getD, List.getElem?_map]
    rw [List.getElem?_eq_getElem (by omega)]
    rfl
  have hstar : ∀ q : List UInt8, decide (q ∈ (segs t).take n) = decide (q ∈ segs t) := fun q => by rw [List.take_of_length_le (by omega)]
  have htk : ∀ q : List UInt8, ∀ j, j < n → decide (q ∈ (segs t).take (j + 1)) = (decide (q ∈ (segs t).take j) || decide (segAt (segs t) j = q)) := fun q j hj => take_mem _ q j (by omega)
  have HY := Lib.hid (And.intro y5 (And.intro y6 (And.intro hrep (And.intro hstar htk))))
  obtain ⟨f1, hf1⟩ : ∃ f, exE t [] two = f := ⟨_, rfl⟩
  obtain ⟨f2, hf2⟩ : ∃ f, exE t one [] = f := ⟨_, rfl⟩
  rw [hf1, hf2] at HY
  simp only [hf1] at HE1
  simp only [hf2] at HE2
  generalize exR t [] two = r1 at HE1
  generalize exR t one [] = r2 at HE2
  obtain ⟨S, hS⟩ : ∃ S, segs t = S := ⟨_, rfl⟩
  obtain ⟨S2, hS2⟩ : ∃ S2, segs s = S2 := ⟨_, rfl⟩
  rw [hS, hS2] at HY
  simp only [hS] at HS1
  simp only [hS2] at HS2
  have HLn := Lib.hid (show S.length = n ∧ S2.length = n by rw [← hS, ← hS2]; exact ⟨hn, hn'⟩)
  have hd120 : decide (120 < (t.length : Int)) = false := by simp; omega
  clear hm h1 h2 hc he e1 e2 e3 e4 y1 y2 y5 y6 hs hn hn' hrep hstar htk hf1 hf2 hS hS2
  go_enter Tryd.func3, Tryd.ntmps3
  go_wp2_with fail
  refine (HN1.out _).mono ?_
  rintro e w1 ⟨rfl, hb1⟩
  go_wp2_with fail
  refine (HN2.out _).mono ?_
  rintro e w2 ⟨rfl, hb2⟩
  have B2 := Lib.hid (hb1.trans (hb2.mono hb1.size))
  clear hb1 hb2
  go_wp2_with fail
  refine (HE.out _ (HM.out.below B2.out)).mono ?_
  rintro e w3 ⟨rfl, hb3⟩
  have B3 := Lib.hid (B2.out.trans (hb3.mono B2.out.size))
  clear hb3
  go_wp2_with fail
  refine (HC.out _ (HM.out.below B3.out)).mono ?_
  rintro e w4 ⟨rfl, hb4⟩
  have B4 := Lib.hid (B3.out.trans (hb4.mono B3.out.size))
  clear hb4
  go_wp2_with fail
  refine (HS1.out _ (HM.out.below B4.out)).mono ?_
  rintro e w5 ⟨rfl, ra, hb5⟩
  have B5 := Lib.hid (B4.out.trans (hb5.mono B4.out.size))
  clear hb5
  go_wp2_with fail
  refine (HS2.out _ (HM.out.below B5.out)).mono ?_
  rintro e w6 ⟨rfl, rb, hb6⟩
  have B6 := Lib.hid (B5.out.trans (hb6.mono B5.out.size))
  have RA := Lib.hid (ra.below hb6)
  clear hb6 ra
  go_wp2_with fail
  refine (HCS.out _ (HM.out.below B6.out)).mono ?_
  rintro e w7 ⟨rfl, hb7⟩
  have B7 := Lib.hid (B6.out.trans (hb7.mono B6.out.size))
  have RA7 := Lib.hid (RA.out.below hb7)
  have RB7 := Lib.hid (rb.below hb7)
  clear hb7 RA rb
  go_wp2_with fail
  go_loop [13, 14, 96] (fun s13 s14 s96 => ∃ (k : Nat) (sb pb : Bool), k ≤ n ∧ s96 = .int .i64 (k : Int) ∧ s13 = .bool sb ∧ s14 = .bool pb ∧ Hid (sb = decide ([42] ∈ S.take k) ∧ pb = decide ([43] ∈ S.take k))) (fun _ _ s96 => n - (intOf s96).toNat)
  case atStart => exact ⟨0, false, false, by omega, rfl, rfl, rfl, Lib.hid (by simp)⟩
  case round =>
    obtain ⟨k, sb, pb, hk, rfl, rfl, rfl, hsp⟩ := hrel
    by_cases hlt : k < n
    · have cA := RA7.out.2 k (by rw [HLn.out.1]; exact hlt)
      have cB := RB7.out.2 k (by rw [HLn.out.2]; exact hlt)
      have er := HY.out.2.2.1 k hlt
      have q1 := HY.out.2.2.2.2 [42] k hlt
      have q2 := HY.out.2.2.2.2 [43] k hlt
      rw [er] at cB
      clear er
      obtain ⟨x, hx⟩ : ∃ x, segAt S k = x := ⟨_, rfl⟩
      rw [hx] at cA cB q1 q2
      have Q := Lib.hid (And.intro q1 q2)
      clear hx q1 q2
      have i1 : (k : Int) < (n : Int) := by omega
      by_cases x1 : x = [42]
      · subst x1
        have hr : rep one two [42] = one := by rw [rep, if_pos rfl]
        rw [hr] at cB
        clear hr
        go_wp2_with fail
        go_round
        case rel => exact ⟨k + 1, true, pb, by omega, by go_num, rfl, rfl, Lib.hid ⟨by rw [Q.out.1]; simp, by rw [Q.out.2, ← hsp.out.2]; simp⟩⟩
        case measure => simp [intOf]; omega
      · by_cases x2 : x = [43]
        · subst x2
          have hr : rep one two [43] = two := by rw [rep, if_neg (by decide), if_pos rfl]
          rw [hr] at cB
          clear hr x1
          go_wp2_with fail
          go_round
          case rel => exact ⟨k + 1, sb, true, by omega, by go_num, rfl, rfl, Lib.hid ⟨by rw [Q.out.1, ← hsp.out.1]; simp, by rw [Q.out.2]; simp⟩⟩
          case measure => simp [intOf]; omega
        · have hr : rep one two x = x := by rw [rep, if_neg x1, if_neg x2]
          rw [hr] at cB
          have d1 : (x == [42]) = false := by simp [x1]
          have d2 : (x == [43]) = false := by simp [x2]
          have X := Lib.hid (And.intro x1 x2)
          clear hr x1 x2
          go_wp2_with fail
          go_round
          case rel => exact ⟨k + 1, sb, pb, by omega, by go_num, rfl, rfl, Lib.hid ⟨by rw [Q.out.1, ← hsp.out.1, decide_eq_false X.out.1]; simp, by rw [Q.out.2, ← hsp.out.2, decide_eq_false X.out.2]; simp⟩⟩
          case measure => simp [intOf]; omega
    · obtain rfl : n = k := by omega
      have g1 : (f1 == 9) = sb := by
        rw [hsp.out.1, HY.out.2.2.2.1]
        rw [Bool.eq_iff_iff]; simpa using HY.out.1
      have g2 : (f2 == 9) = pb := by
        rw [hsp.out.2, HY.out.2.2.2.1]
        rw [Bool.eq_iff_iff]; simpa using HY.out.2.1
      cases sb <;> cases pb
      all_goals
        go_wp2_with fail
        refine (HE1.out _ (HM.out.below B7.out)).mono ?_
        rintro e w8 ⟨rfl, hb8⟩
        have B8 := Lib.hid (B7.out.trans (hb8.mono B7.out.size))
        clear hb8
        go_wp2_with fail
        refine (HE2.out _ (HM.out.below B8.out)).mono ?_
        rintro e w9 ⟨rfl, hb9⟩
        have B9 := Lib.hid (B8.out.trans (hb9.mono B8.out.size))
        clear hb9
        go_wp2_with fail
        refine (awake_any _ (HM.out.below B9.out)).mono ?_
        rintro e w10 ⟨rfl, hb10⟩
        go_wp2_with fail
        go_ret
        exact ⟨rfl, B9.out.trans (hb10.mono B9.out.size)⟩
set_option maxHeartbeats 4000000 in
set_option maxRecDepth 100000 in
theorem templ_rest (t one two : List UInt8) (w : World) (hm : ML w) (ht : t.length ≤ 120) (h1 : nameB one = true) (h2 : nameB two = true) (l1 : one.length ≤ maxLen) (l2 : two.length ≤ maxLen) (hc : codeB t = true ∨ exE t one two ≠ 0) :
    Calls Tryd.prog 3 #[.string ⟨t.toArray⟩, .string ⟨one.toArray⟩, .string ⟨two.toArray⟩] w (Yes w) := by
  have HI := Lib.hid (tinfo t one two h1 h2)
  have HM := Lib.hid hm
  have HN1 := Lib.hid (fun W => name_any ⟨one.toArray⟩ W l1)
  have HN2 := Lib.hid (fun W => name_any ⟨two.toArray⟩ W l2)
  have e1 : nameB (⟨one.toArray⟩ : ByteArray).data.toList = true := h1
  have e2 : nameB (⟨two.toArray⟩ : ByteArray).data.toList = true := h2
  simp only [e1] at HN1
  simp only [e2] at HN2
  have HE := Lib.hid (fun W hW => Expand_any t one two W (by omega) l1 l2 hW)
  have HE0 := Lib.hid (fun W hW => Expand_any t [] [] W (by omega) (by unfold maxLen; simp) (by unfold maxLen; simp) hW)
  have HC := Lib.hid (fun W hW => Check_any ⟨t.toArray⟩ W (by simp [ByteArray.size]; omega) hW)
  have hd120 : decide (120 < (t.length : Int)) = false := by simp; omega
  cases hcb : codeB t
  · have he : exE t one two ≠ 0 := hc.resolve_left (by rw [hcb]; decide)
    obtain ⟨n1, n2⟩ := HI.out.no hcb he
    have e3 : chk (⟨t.toArray⟩ : ByteArray).data.toList = 3 := by show chk t = 3; rw [chk, hcb]; rfl
    simp only [e3] at HC
    simp only [n1, n2] at HE
    clear hm h1 h2 hc e1 e2 e3 n1 n2 he hcb HE0
    go_enter Tryd.func3, Tryd.ntmps3
    go_wp2_with fail
    refine (HN1.out _).mono ?_
    rintro e w1 ⟨rfl, hb1⟩
    go_wp2_with fail
    refine (HN2.out _).mono ?_
    rintro e w2 ⟨rfl, hb2⟩
    have B2 := Lib.hid (hb1.trans (hb2.mono hb1.size))
    clear hb1 hb2
    go_wp2_with fail
    refine (HE.out _ (HM.out.below B2.out)).mono ?_
    rintro e w3 ⟨rfl, hb3⟩
    have B3 := Lib.hid (B2.out.trans (hb3.mono B2.out.size))
    clear hb3
    go_wp2_with fail
    refine (HC.out _ (HM.out.below B3.out)).mono ?_
    rintro e w4 ⟨rfl, hb4⟩
    have B4 := Lib.hid (B3.out.trans (hb4.mono B3.out.size))
    clear hb4
    go_wp2_with fail
    refine (awake_any _ (HM.out.below B4.out)).mono ?_
    rintro e w10 ⟨rfl, hb10⟩
    go_wp2_with fail
    go_ret
    exact ⟨rfl, B4.out.trans (hb10.mono B4.out.size)⟩
  · obtain ⟨n1, n2, n3, n4⟩ := HI.out.code hcb
    have e3 : chk (⟨t.toArray⟩ : ByteArray).data.toList = 0 := by show chk t = 0; rw [chk, hcb]; rfl
    simp only [e3] at HC
    simp only [n1, n2] at HE
    simp only [n3, n4] at HE0
    clear hm h1 h2 hc e1 e2 e3 n1 n2 n3 n4 hcb
    go_enter Tryd.func3, Tryd.ntmps3
    go_wp2_with fail
    refine (HN1.out _).mono ?_
    rintro e w1 ⟨rfl, hb1⟩
    go_wp2_with fail
    refine (HN2.out _).mono ?_
    rintro e w2 ⟨rfl, hb2⟩
    have B2 := Lib.hid (hb1.trans (hb2.mono hb1.size))
    clear hb1 hb2
    go_wp2_with fail
    refine (HE.out _ (HM.out.below B2.out)).mono ?_
    rintro e w3 ⟨rfl, hb3⟩
    have B3 := Lib.hid (B2.out.trans (hb3.mono B2.out.size))
    clear hb3
    go_wp2_with fail
    refine (HC.out _ (HM.out.below B3.out)).mono ?_
    rintro e w4 ⟨rfl, hb4⟩
    have B4 := Lib.hid (B3.out.trans (hb4.mono B3.out.size))
    clear hb4
    go_wp2_with fail
    refine (HE0.out _ (HM.out.below B4.out)).mono ?_
    rintro e w5 ⟨rfl, hb5⟩
    have B5 := Lib.hid (B4.out.trans (hb5.mono B4.out.size))
    clear hb5
    go_wp2_with fail
    refine (awake_any _ (HM.out.below B5.out)).mono ?_
    rintro e w10 ⟨rfl, hb10⟩
    go_wp2_with fail
    go_ret
    exact ⟨rfl, B5.out.trans (hb10.mono B5.out.size)⟩
set_option maxHeartbeats 2000000 in
set_option maxRecDepth 100000 in
theorem templ_early (t one two : List UInt8) (w : World) (hm : ML w) (lt : t.length ≤ maxLen) (l1 : one.length ≤ maxLen) (l2 : two.length ≤ maxLen) (hc : 120 < t.length ∨ nameB one = false ∨ nameB two = false) :
    Calls Tryd.prog 3 #[.string ⟨t.toArray⟩, .string ⟨one.toArray⟩, .string ⟨two.toArray⟩] w (Yes w) := by
  unfold maxLen at lt
  have HM := Lib.hid hm
  have HN1 := Lib.hid (fun W => name_any ⟨one.toArray⟩ W l1)
  have HN2 := Lib.hid (fun W => name_any ⟨two.toArray⟩ W l2)
  have e1 : nameB (⟨one.toArray⟩ : ByteArray).data.toList = nameB one := rfl
  have e2 : nameB (⟨two.toArray⟩ : ByteArray).data.toList = nameB two := rfl
  simp only [e1] at HN1
  simp only [e2] at HN2
  clear e1 e2
  by_cases h120 : 120 < t.length
  · have hd : decide (120 < (t.length : Int)) = true := by simp; omega
    go_enter Tryd.func3, Tryd.ntmps3
    go_wp2_with fail
    refine (awake_any _ HM.out).mono ?_
    rintro e w10 ⟨rfl, hb10⟩
    go_wp2_with fail
    go_ret
    exact ⟨rfl, hb10⟩
  · have hd : decide (120 < (t.length : Int)) = false := by simp; omega
    cases h1 : nameB one
    · simp only [h1] at HN1
      clear h1
      go_enter Tryd.func3, Tryd.ntmps3
      go_wp2_with fail
      refine (HN1.out _).mono ?_
      rintro e w1 ⟨rfl, hb1⟩
      go_wp2_with fail
      refine (awake_any _ (HM.out.below hb1)).mono ?_
      rintro e w10 ⟨rfl, hb10⟩
      go_wp2_with fail
      go_ret
      exact ⟨rfl, hb1.trans (hb10.mono hb1.size)⟩
    · have h2 : nameB two = false := by
        rcases hc with h | h | h
        · omega
        · rw [h1] at h; cases h
        · exact h
      simp only [h1] at HN1
      simp only [h2] at HN2
      clear h1 h2
      go_enter Tryd.func3, Tryd.ntmps3
      go_wp2_with fail
      refine (HN1.out _).mono ?_
      rintro e w1 ⟨rfl, hb1⟩
      go_wp2_with fail
      refine (HN2.out _).mono ?_
      rintro e w2 ⟨rfl, hb2⟩
      have B2 := hb1.trans (hb2.mono hb1.size)
      go_wp2_with fail
      refine (awake_any _ (HM.out.below B2)).mono ?_
      rintro e w10 ⟨rfl, hb10⟩
      go_wp2_with fail
      go_ret
      exact ⟨rfl, B2.trans (hb10.mono B2.size)⟩
theorem templ_row (t one two : ByteArray) (w : World) (hm : ML w) (lt : t.size ≤ maxLen) (l1 : one.size ≤ maxLen) (l2 : two.size ≤ maxLen) :
    Calls Tryd.prog 3 #[.string t, .string one, .string two] w (Yes w) := by
  suffices H : ∀ t one two : List UInt8, t.length ≤ maxLen → one.length ≤ maxLen → two.length ≤ maxLen → Calls Tryd.prog 3 #[.string ⟨t.toArray⟩, .string ⟨one.toArray⟩, .string ⟨two.toArray⟩] w (Yes w) from
    H t.data.toList one.data.toList two.data.toList lt l1 l2
  intro t one two lt l1 l2
  by_cases hc : 120 < t.length ∨ nameB one = false ∨ nameB two = false
  · exact templ_early t one two w hm lt l1 l2 hc
  · have ht : t.length ≤ 120 := by omega
    have h1 : nameB one = true := by cases h : nameB one with | false => exact (hc (.inr (.inl h))).elim | true => rfl
    have h2 : nameB two = true := by cases h : nameB two with | false => exact (hc (.inr (.inr h))).elim | true => rfl
    by_cases hd : codeB t = true ∨ exE t one two ≠ 0
    · exact templ_rest t one two w hm ht h1 h2 l1 l2 hd
    · refine templ_main t one two w hm ht h1 h2 l1 l2 ?_ ?_
      · cases h : codeB t with | false => rfl | true => exact (hd (.inl h)).elim
      · exact Decidable.byContradiction fun h => hd (.inr h)
end Go.Proofs.YtklmgogppljolaaDoor
