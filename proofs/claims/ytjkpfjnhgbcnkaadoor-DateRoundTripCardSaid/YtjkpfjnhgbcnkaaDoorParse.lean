/- Contracts of Parse and its closure. -/
import Derived.Test.YtjkpfjnhgbcnkaaDoorPrint
import Derived.Lib.ConvBytes
import Derived.Outline
namespace Go.Proofs.YtjkpfjnhgbcnkaaDoor
open Go.RowKit

def dv (c : UInt8) : Int := ((c.toNat : Int) - 48) % 256
def numL (l : List UInt8) : Int := l.foldl (fun n c => 10 * n + dv c) 0
def badC (c : UInt8) : Bool := decide ((c.toNat : Int) < 48) || decide (57 < (c.toNat : Int))
def badL (l : List UInt8) : Bool := l.any badC
theorem dv_bd (c : UInt8) : 0 ≤ dv c ∧ dv c ≤ 255 := by unfold dv; omega
theorem numL_snoc (l : List UInt8) (c : UInt8) : numL (l ++ [c]) = 10 * numL l + dv c := by simp [numL]
theorem badL_snoc (l : List UInt8) (c : UInt8) : badL (l ++ [c]) = (badL l || badC c) := by simp [badL]
theorem numL_bd : ∀ (l : List UInt8), l.length ≤ 4 → 0 ≤ numL l ∧ numL l ≤ 300000
  | [], _ => by decide
  | [a], _ => by have := dv_bd a; have e : numL [a] = 10 * 0 + dv a := rfl; omega
  | [a, b], _ => by have := dv_bd a; have := dv_bd b; have e : numL [a, b] = 10 * (10 * 0 + dv a) + dv b := rfl; omega
  | [a, b, c], _ => by have := dv_bd a; have := dv_bd b; have := dv_bd c; have e : numL [a, b, c] = 10 * (10 * (10 * 0 + dv a) + dv b) + dv c := rfl; omega
  | [a, b, c, d], _ => by have := dv_bd a; have := dv_bd b; have := dv_bd c; have := dv_bd d; have e : numL [a, b, c, d] = 10 * (10 * (10 * (10 * 0 + dv a) + dv b) + dv c) + dv d := rfl; omega
  | a :: b :: c :: d :: e :: r, h => by simp at h

structure NumW (B bs bw : Nat) (s : ByteArray) (wr : Bool) (w w' : World) : Prop where
  cs : w'.cell? ⟨bs, 0, none⟩ = some (.string s)
  cw : w'.cell? ⟨bw, 0, none⟩ = some (.bool wr)
  fw : w'.frozen? ⟨bw, 0, none⟩ = false
  bel : Below B w w'
  ls : bs < w'.heap.size
  lw : bw < w'.heap.size
theorem NumW.put {B bs bw : Nat} {s : ByteArray} {wr : Bool} {w w' : World} (h : NumW B bs bw s wr w w') (hB : B ≤ bw) (hne : bs ≠ bw) (x : Bool) : NumW B bs bw s x w (w'.setCell ⟨bw, 0, none⟩ (.bool x)) :=
  ⟨by rw [World.cell?_setCell_other _ _ _ _ (fun e => hne (congrArg Addr.block e).symm)]; exact h.cs, World.cell?_setCell_same' _ _ _ (by rw [h.cw]; rfl), by rw [World.frozen?_setCell]; exact h.fw, h.bel.setCell hB _, by have := h.ls; simpa using this, by have := h.lw; simpa using this⟩
set_option maxHeartbeats 1000000 in
theorem number_any (s : ByteArray) (a b : Int) (B bs bw : Nat) (ff : Bool) (w0 w : World) (a0 : 0 ≤ a) (ab : a ≤ b) (b1 : b ≤ 10) (b4 : b ≤ a + 4) (hs : s.size = 10) (hB : B ≤ bw) (hne : bs ≠ bw) (hBw : B ≤ w.heap.size) (hw : NumW B bs bw s ff w0 w) :
    Calls Tryd.prog 42 #[.int .i64 a, .int .i64 b, .pointer (some ⟨bs, 0, none⟩), .pointer (some ⟨bw, 0, none⟩)] w fun e w' => e = .returned (.int .i64 (numL (s.extract a.toNat b.toNat).data.toList)) ∧ NumW B bs bw s (ff || badL (s.extract a.toNat b.toNat).data.toList) w0 w' := by
  have hsz : (s.extract a.toNat b.toNat).size = b.toNat - a.toNat := by rw [ByteArray.size_extract, hs]; omega
  have hcv := Lib.run_convert_string_bytes (P := Tryd.prog) w 9 55 5 (s.extract a.toNat b.toNat) Tryd.underlying9 Tryd.underlying55 Tryd.underlying5
  have hcell := fun j h => Lib.bytesWorld_cell w 5 (s.extract a.toNat b.toNat) j h
  have hnew : NumW B bs bw s ff w0 (Lib.bytesWorld w 5 (s.extract a.toNat b.toNat)) := by
    have hb := Joins.below_bytesWorld w.heap.size w 5 (s.extract a.toNat b.toNat) (Nat.le_refl _)
    exact ⟨(hb.cell (p := ⟨bs, 0, none⟩) hw.ls).trans hw.cs, (hb.cell (p := ⟨bw, 0, none⟩) hw.lw).trans hw.cw, (hb.frozen (p := ⟨bw, 0, none⟩) hw.lw).trans hw.fw, hw.bel.trans (hb.mono hBw), Nat.lt_of_lt_of_le hw.ls hb.size, Nat.lt_of_lt_of_le hw.lw hb.size⟩
  have c1 := hw.cs
  have hlw := hw.lw
  have hab : a ≤ (s.size : Int) := by omega
  have hbs : b ≤ (s.size : Int) := by omega
  have hle : (s.size : Int) ≤ 10 := by omega
  have HS := Lib.hid hs
  clear hs hw
  go_enter Tryd.func42, Tryd.ntmps42
  go_wp2_with fail
  have hlen : (s.extract a.toNat b.toNat).data.toList.length = b.toNat - a.toNat := hsz
  have hn4 : b.toNat - a.toNat ≤ 4 := by omega
  rw [hsz] at hcell
  have hsame : w.heap.size < (Lib.bytesWorld w 5 (s.extract a.toNat b.toNat)).heap.size := by rw [Lib.bytesWorld_size]; omega
  generalize Lib.bytesWorld w 5 (s.extract a.toNat b.toNat) = w1 at *
  generalize grownCap w (b.toNat - a.toNat) 0 5 = cap at *
  generalize hT : (s.extract a.toNat b.toNat).data.toList = T at *
  have HT := Lib.hid hT
  clear hT
  clear hcv hsz c1
  generalize b.toNat - a.toNat = n at *
  have HL := Lib.hid hlen
  have HC := Lib.hid hcell
  clear hlen hcell
  have hbn : bw ≠ w.heap.size := by omega
  go_loopw [7, 9, 16] (fun v _ i wi => ∃ k : Nat, k ≤ n ∧ i = .int .i64 (k : Int) ∧ v = .int .i64 (numL (T.take k)) ∧ NumW B bs bw s (ff || badL (T.take k)) w0 wi ∧ (∀ j, j < n → wi.cell? ⟨w.heap.size, j, none⟩ = some (.int .u8 (T.getD j 0).toNat))) (fun _ _ i _ => n - (intOf i).toNat)
  case atStart => exact ⟨0, by omega, rfl, rfl, by simpa [badL] using hnew, HC.out⟩
  case round =>
    obtain ⟨k, hk, rfl, rfl, hi, hc⟩ := hrel
    have hnum := numL_bd (T.take k) (by rw [List.length_take]; omega)
    by_cases hlt : k < n
    · have h1 := hc k hlt
      have h2 := hi.cw
      have h3 := hi.fw
      have hts : T.take (k + 1) = T.take k ++ [T.getD k 0] := by
        rw [List.take_succ_eq_append_getElem (by rw [HL.out]; omega), List.getD_eq_getElem?_getD, List.getElem?_eq_getElem (by rw [HL.out]; omega)]; rfl
      have HN := Lib.hid (numL_snoc (T.take k) (T.getD k 0))
      have HB := Lib.hid (badL_snoc (T.take k) (T.getD k 0))
      rw [← hts] at HN HB
      have hbyte : (T.getD k 0).toNat < 256 := UInt8.toNat_lt _
      have hdv := dv_bd (T.getD k 0)
      have HD := Lib.hid (show dv (T.getD k 0) = (((T.getD k 0).toNat : Int) - 48) % 256 from rfl)
      have HBC := Lib.hid (show badC (T.getD k 0) = (decide (((T.getD k 0).toNat : Int) < 48) || decide (57 < ((T.getD k 0).toNat : Int))) from rfl)
      have HCC := Lib.hid hc
      clear hts hc
      generalize numL (T.take k) = N at *
      generalize badL (T.take k) = bd at *
      generalize badC (T.getD k 0) = bc at *
      generalize dv (T.getD k 0) = D at *
      generalize (T.getD k 0).toNat = z at *
      generalize hx : (ff || bd) = x at *
      have HX := Lib.hid hx
      clear hx
      have fin : ∀ (v : Bool), v = (x || (decide ((z : Int) < 48) || decide (57 < (z : Int)))) → NumW B bs bw s (ff || badL (T.take (k + 1))) w0 (wr.setCell ⟨bw, 0, none⟩ (.bool v)) ∧ (∀ j, j < n → (wr.setCell ⟨bw, 0, none⟩ (.bool v)).cell? ⟨w.heap.size, j, none⟩ = some (.int .u8 (T.getD j 0).toNat)) := by
        intro v hv
        refine ⟨?_, fun j hj => ?_⟩
        · rw [HB.out, ← Bool.or_assoc, HX.out, HBC.out, ← hv]
          exact hi.put hB hne v
        · rw [World.cell?_setCell_other _ _ _ _ (fun e => hbn (congrArg Addr.block e))]
          exact HCC.out j hj
      have FIN := Lib.hid fin
      clear fin
      cases x
      · by_cases z1 : (z : Int) < 48
        · have hv := Lib.hid (show true = (false || (decide ((z : Int) < 48) || decide (57 < (z : Int)))) by rw [decide_eq_true z1]; rfl)
          go_wp2_with fail
          go_roundw
          case rel => exact ⟨k + 1, by omega, by go_num, by rw [HN.out, HD.out] <;> go_num, FIN.out _ hv.out⟩
          case measure => simp [intOf]; omega
        · by_cases z2 : 57 < (z : Int)
          · have hv := Lib.hid (show true = (false || (decide ((z : Int) < 48) || decide (57 < (z : Int)))) by rw [decide_eq_true z2, Bool.or_true]; rfl)
            have hz2 : decide (57 < (z : Int)) = true := by simp [z2]
            go_wp2_with fail
            go_roundw
            case rel => exact ⟨k + 1, by omega, by go_num, by rw [HN.out, HD.out] <;> go_num, FIN.out _ hv.out⟩
            case measure => simp [intOf]; omega
          · have hv := Lib.hid (show false = (false || (decide ((z : Int) < 48) || decide (57 < (z : Int)))) by rw [decide_eq_false z1, decide_eq_false z2]; rfl)
            have hz2 : decide (57 < (z : Int)) = false := by simp; omega
            go_wp2_with fail
            go_roundw
            case rel => exact ⟨k + 1, by omega, by go_num, by rw [HN.out, HD.out] <;> go_num, FIN.out _ hv.out⟩
            case measure => simp [intOf]; omega
      · have hv := Lib.hid (show true = (true || (decide ((z : Int) < 48) || decide (57 < (z : Int)))) by simp)
        go_wp2_with fail
        go_roundw
        case rel => exact ⟨k + 1, by omega, by go_num, by rw [HN.out, HD.out] <;> go_num, FIN.out _ hv.out⟩
        case measure => simp [intOf]; omega
    · have hkn := Lib.hid (show T.take k = T from List.take_of_length_le (by rw [HL.out]; omega))
      go_wp2_with fail
      go_ret
      refine ⟨ret_int (by rw [hkn.out, HT.out]), ?_⟩
      have := hi
      rw [hkn.out] at this
      rw [HT.out]
      exact this
/-- the text has the form of a date -/
def formB (s : ByteArray) : Bool := decide (s.size = 10) && decide (s.data.toList.getD 4 0 = 45) && decide (s.data.toList.getD 7 0 = 45) && !(badL (s.extract 0 4).data.toList || badL (s.extract 5 7).data.toList || badL (s.extract 8 10).data.toList)
def psY (s : ByteArray) : Int := numL (s.extract 0 4).data.toList
def psM (s : ByteArray) : Int := numL (s.extract 5 7).data.toList
def psD (s : ByteArray) : Int := numL (s.extract 8 10).data.toList
def paN (s : ByteArray) : Int := if formB s then ofN (psY s) (psM s) (psD s) else 0
def paE (s : ByteArray) : Int := if formB s then ofE (psY s) (psM s) (psD s) else 3
theorem pa_no {s : ByteArray} (h : formB s = false) : paN s = 0 ∧ paE s = 3 := by simp [paN, paE, h]
theorem pa_yes {s : ByteArray} (h : formB s = true) : paN s = ofN (psY s) (psM s) (psD s) ∧ paE s = ofE (psY s) (psM s) (psD s) := by simp [paN, paE, h]
set_option maxHeartbeats 1000000 in
theorem Parse_any (s : ByteArray) (w : World) (hs : s.size ≤ maxLen) : Calls Tryd.prog 30 #[.string s] w (Ret2 (paN s) (paE s) w) := by
  unfold maxLen at hs
  by_cases h10 : s.size = 10
  · have h4 : 4 < s.size := by omega
    have h7 : 7 < s.size := by omega
    have e4 : s.data.toList.getD 4 0 = s[4] := by rw [List.getD_eq_getElem?_getD, List.getElem?_eq_getElem (by simpa using h4)]; rfl
    have e7 : s.data.toList.getD 7 0 = s[7] := by rw [List.getD_eq_getElem?_getD, List.getElem?_eq_getElem (by simpa using h7)]; rfl
    have hne10 : ((s.size : Int) != 10) = false := by rw [bne_eq_false_iff_eq]; omega
    by_cases c4 : s[4] = 45
    · have d4 : ((s[4].toNat : Int) != 45) = false := by rw [c4]; rfl
      by_cases c7 : s[7] = 45
      · have d7 : ((s[7].toNat : Int) != 45) = false := by rw [c7]; rfl
        have HS := Lib.hid h10
        have hf := Lib.hid (show formB s = !(badL (s.extract 0 4).data.toList || badL (s.extract 5 7).data.toList || badL (s.extract 8 10).data.toList) by simp only [formB, h10, e4, e7, c4, c7]; simp)
        clear c4 c7 e4 e7 h10
        go_enter Tryd.func30, Tryd.ntmps30
        go_wp2_with fail
        have n0 : NumW w.heap.size w.heap.size (w.heap.size + 1) s false w ((w.alloc (.cells #[.string s] 9)).alloc (.cells #[.bool false] 4)) := by
          refine ⟨by go_simp, by go_simp, by go_simp, ((Below.refl _ _).alloc (Nat.le_refl _) _).alloc (by simp) _, by simp; omega, by simp⟩
        refine (number_any s 0 4 w.heap.size w.heap.size (w.heap.size + 1) false w _ (by omega) (by omega) (by omega) (by omega) HS.out (by omega) (by omega) n0.bel.size n0).mono ?_
        rintro e w1 ⟨rfl, n1⟩
        simp only [Int.toNat_zero, show (4 : Int).toNat = 4 from rfl, Bool.false_or] at n1 ⊢
        have hPY : Hid (numL (s.extract 0 4).data.toList = psY s) := rfl
        generalize numL (s.extract 0 4).data.toList = Y at *
        generalize badL (s.extract 0 4).data.toList = b1 at *
        go_wp2_with fail
        refine (number_any s 5 7 w.heap.size w.heap.size (w.heap.size + 1) _ w _ (by omega) (by omega) (by omega) (by omega) HS.out (by omega) (by omega) n1.bel.size n1).mono ?_
        rintro e w2 ⟨rfl, n2⟩
        simp only [show (5 : Int).toNat = 5 from rfl, show (7 : Int).toNat = 7 from rfl] at n2 ⊢
        have hPM : Hid (numL (s.extract 5 7).data.toList = psM s) := rfl
        generalize numL (s.extract 5 7).data.toList = M at *
        generalize badL (s.extract 5 7).data.toList = b2 at *
        go_wp2_with fail
        refine (number_any s 8 10 w.heap.size w.heap.size (w.heap.size + 1) _ w _ (by omega) (by omega) (by omega) (by omega) HS.out (by omega) (by omega) n2.bel.size n2).mono ?_
        rintro e w3 ⟨rfl, n3⟩
        simp only [show (8 : Int).toNat = 8 from rfl, show (10 : Int).toNat = 10 from rfl] at n3 ⊢
        have hPD : Hid (numL (s.extract 8 10).data.toList = psD s) := rfl
        generalize numL (s.extract 8 10).data.toList = D at *
        generalize badL (s.extract 8 10).data.toList = b3 at *
        have hcw := n3.cw
        generalize (b1 || b2 || b3) = bb at *
        cases bb
        · have hfy := pa_yes hf.out
          have HY := Lib.hid hfy
          clear hfy
          go_wp2_with fail
          refine (Of_any _ _ _ _).mono ?_
          rintro e w4 ⟨rfl, hb4⟩
          go_wp2_with fail
          go_ret2
          exact ⟨tup2 (by rw [HY.out.1, ← hPY.out, ← hPM.out, ← hPD.out]) (by rw [HY.out.2, ← hPY.out, ← hPM.out, ← hPD.out]), n3.bel.trans (hb4.mono n3.bel.size)⟩
        · have HN := Lib.hid (pa_no hf.out)
          go_wp2_with fail
          go_ret2
          exact ⟨tup2 HN.out.1.symm HN.out.2.symm, n3.bel⟩
      · have HN := Lib.hid (pa_no (s := s) (by unfold formB; rw [e7, decide_eq_false c7]; simp))
        have d7 : ((s[7].toNat : Int) != 45) = true := by rw [bne_iff_ne]; intro e; exact c7 (UInt8.toNat_inj.1 (by rw [show (45 : UInt8).toNat = 45 from rfl]; omega))
        clear c4 c7 e4 e7 h10
        go_enter Tryd.func30, Tryd.ntmps30
        go_wp2_with fail
        go_ret2
        exact ⟨tup2 HN.out.1.symm HN.out.2.symm, (Below.refl _ _).alloc (Nat.le_refl _) _⟩
    · have HN := Lib.hid (pa_no (s := s) (by unfold formB; rw [e4, decide_eq_false c4]; simp))
      have d4 : ((s[4].toNat : Int) != 45) = true := by rw [bne_iff_ne]; intro e; exact c4 (UInt8.toNat_inj.1 (by rw [show (45 : UInt8).toNat = 45 from rfl]; omega))
      clear c4 e4 e7 h10
      go_enter Tryd.func30, Tryd.ntmps30
      go_wp2_with fail
      go_ret2
      exact ⟨tup2 HN.out.1.symm HN.out.2.symm, (Below.refl _ _).alloc (Nat.le_refl _) _⟩
  · have HN := Lib.hid (pa_no (s := s) (by simp [formB, h10]))
    have hne10 : ((s.size : Int) != 10) = true := by rw [bne_iff_ne]; omega
    clear h10
    go_enter Tryd.func30, Tryd.ntmps30
    go_wp2_with fail
    go_ret2
    exact ⟨tup2 HN.out.1.symm HN.out.2.symm, (Below.refl _ _).alloc (Nat.le_refl _) _⟩
end Go.Proofs.YtjkpfjnhgbcnkaaDoor
