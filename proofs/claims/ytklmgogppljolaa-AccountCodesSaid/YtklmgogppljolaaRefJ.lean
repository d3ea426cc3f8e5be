/- The contracts of the reference's join and Parent. -/
import Derived.Test.YtklmgogppljolaaPar
namespace Go.Proofs.Ytklmgogppljolaa
open Go.RowKit

/-- a row of strings in memory -/
structure SRow (w : World) (A : Option Addr) (n c : Nat) (l : List (List UInt8)) : Prop where
  len : l.length = n
  cap : n ≤ c
  top : c ≤ 9223372036854775807
  at_ : 0 < n → ∃ g, A = some ⟨g, 0, none⟩ ∧ g < w.heap.size ∧ ∀ k, k < n → w.cell? ⟨g, k, none⟩ = some (.string ⟨(l.getD k []).toArray⟩)
theorem join_nil_any (sep : List UInt8) : Lib.join [] sep = [] := rfl
theorem join_snoc (x sep : List UInt8) : ∀ (xs : List (List UInt8)), xs ≠ [] → Lib.join (xs ++ [x]) sep = Lib.join xs sep ++ (sep ++ x)
  | [], h => absurd rfl h
  | [y], _ => by rw [List.singleton_append, join_cons, Lib.join_one, Lib.join_one]
  | y :: z :: r, _ => by
    have ih := join_snoc x sep (z :: r) (by simp)
    rw [List.cons_append, List.cons_append, join_cons, join_cons, ← List.cons_append, ih]
    simp
theorem join_take_succ (l : List (List UInt8)) (k : Nat) (hk : k < l.length) (h0 : 0 < k) : Lib.join (l.take (k + 1)) [46] = Lib.join (l.take k) [46] ++ ([46] ++ l.getD k []) := by
  rw [List.take_succ_eq_append_getElem hk, join_snoc _ _ _ (by intro h; have := congrArg List.length h; simp at this; rcases this with h | h
                                                               · omega
                                                               · rw [h] at hk; simp at hk), List.getD_eq_getElem?_getD, List.getElem?_eq_getElem hk]
  rfl
theorem join_take_one (l : List (List UInt8)) (hk : 0 < l.length) : Lib.join (l.take 1) [46] = l.getD 0 [] := by
  cases l with
  | nil => simp at hk
  | cons x r => simp [Lib.join_one]
theorem join_len_le (l : List (List UInt8)) : ∀ (j k : Nat), j ≤ k → k ≤ l.length → (Lib.join (l.take j) [46]).length ≤ (Lib.join (l.take k) [46]).length := by
  intro j k hjk hk
  induction k with
  | zero => rw [show j = 0 by omega]; exact Nat.le_refl _
  | succ k ih =>
    rcases Nat.eq_or_lt_of_le hjk with rfl | h
    · exact Nat.le_refl _
    · refine Nat.le_trans (ih (by omega) (by omega)) ?_
      rcases Nat.eq_zero_or_pos k with rfl | h0
      · simp [Lib.join_nil]
      · rw [join_take_succ l k (by omega) h0]; simp
theorem ba_dot (a x : List UInt8) : ((⟨a.toArray⟩ : ByteArray) ++ ⟨#[46]⟩) ++ ⟨x.toArray⟩ = ⟨(a ++ ([46] ++ x)).toArray⟩ := by
  apply ByteArray.ext
  simp [ByteArray.data_append]
theorem ba_nil (x : List UInt8) : (⟨#[]⟩ : ByteArray) ++ ⟨x.toArray⟩ = ⟨x.toArray⟩ := by
  apply ByteArray.ext
  simp [ByteArray.data_append]
set_option maxHeartbeats 1000000 in
set_option maxRecDepth 100000 in
theorem join_any (A : Option Addr) (n c : Nat) (l : List (List UInt8)) (w : World) (h : SRow w A n c l) (hj : (Lib.join l [46]).length ≤ 4294967296) : Calls Try.prog 38 #[.slice A n c] w fun e w' => e = .returned (.string ⟨(Lib.join l [46]).toArray⟩) ∧ w = w' := by
  have htop := h.top
  have hcap := h.cap
  have hlen := Lib.hid h.len
  have HA := Lib.hid h
  have HJ := Lib.hid hj
  clear h hj
  go_enter Try.func38, Try.ntmps38
  go_wp2_with fail
  go_loop [3, 4] (fun s i => ∃ (k : Nat) (o : List UInt8), k ≤ n ∧ s = .string ⟨o.toArray⟩ ∧ i = .int .i64 (k : Int) ∧ Hid (o = Lib.join (l.take k) [46])) (fun _ i => n - (intOf i).toNat)
  case atStart => exact ⟨0, [], by omega, rfl, rfl, Lib.hid rfl⟩
  case round =>
    obtain ⟨k, o, hk, rfl, rfl, ho⟩ := hrel
    by_cases hlt : k < n
    · obtain ⟨g, rfl, hg, hcell⟩ := HA.out.at_ (by omega)
      have h1 := hcell k hlt
      clear hcell
      obtain ⟨x, hx⟩ : ∃ x, x = l.getD k [] := ⟨_, rfl⟩
      rw [← hx] at h1
      have hol : (Lib.join (l.take (k + 1)) [46]).length ≤ 4294967296 := by
        refine Nat.le_trans (join_len_le l (k + 1) l.length (by rw [hlen.out]; omega) (Nat.le_refl _)) ?_
        rw [List.take_length]; exact HJ.out
      by_cases h0 : 0 < k
      · have hd : decide (0 < (k : Int)) = true := by simp; omega
        have hs := join_take_succ l k (by rw [hlen.out]; exact hlt) h0
        rw [← hx, ← ho.out] at hs
        have hol2 : o.length + 1 + x.length ≤ 4294967296 := by rw [hs] at hol; simp at hol; omega
        have hb := ba_dot o x
        have HS := Lib.hid hs
        clear hs hol ho hx
        have b1 : ((o.length : Int) + 1) ≤ 4294967296 := by omega
        go_wp2_with fail
        go_round
        case rel => exact ⟨k + 1, o ++ ([46] ++ x), by omega, rfl, by go_num, Lib.hid HS.out.symm⟩
        case measure => simp [intOf]; omega
      · obtain rfl : k = 0 := by omega
        have hs := join_take_one l (by rw [hlen.out]; exact hlt)
        rw [← hx] at hs
        rw [hs] at hol
        have ho' : o = [] := ho.out
        subst ho'
        have HS := Lib.hid hs
        have hb := ba_nil x
        clear hs hx ho
        go_wp2_with fail
        go_round
        case rel => exact ⟨1, x, by omega, by first | rfl | exact congrArg Value.string hb, by go_num, Lib.hid HS.out.symm⟩
        case measure => simp [intOf]; omega
    · have hfin := Lib.hid (show o = Lib.join l [46] by rw [ho.out, List.take_of_length_le (by rw [hlen.out]; omega)])
      clear ho
      go_wp2_with fail
      go_ret
      exact ⟨by rw [← hfin.out]; rfl, rfl⟩
theorem OwnS.row {B : Nat} {w : World} {v : Value} {l : List (List UInt8)} (h : OwnS B w v l) : ∃ A c, v = .slice A l.length c ∧ SRow w A l.length c l := by
  obtain ⟨A, c, rfl, h1, h2, h3⟩ := h.cells
  exact ⟨A, c, rfl, rfl, h1, h2, h3⟩
theorem SRow.below {w w' : World} {A : Option Addr} {n c : Nat} {l : List (List UInt8)} (h : SRow w A n c l) (hb : Below w.heap.size w w') : SRow w' A n c l :=
  ⟨h.len, h.cap, h.top, fun h0 => by
    obtain ⟨g, e, hlt, hc⟩ := h.at_ h0
    exact ⟨g, e, Nat.lt_of_lt_of_le hlt hb.size, fun k hk => (hb.cell (p := ⟨g, k, none⟩) hlt).trans (hc k hk)⟩⟩
theorem SRow.front {w : World} {A : Option Addr} {n c : Nat} {l : List (List UInt8)} (h : SRow w A n c l) (m : Nat) (hm : m ≤ n) : SRow w A m c (l.take m) :=
  ⟨by rw [List.length_take, h.len]; omega, by have := h.cap; omega, h.top, fun h0 => by
    obtain ⟨g, e, hlt, hc⟩ := h.at_ (by omega)
    refine ⟨g, e, hlt, fun k hk => ?_⟩
    rw [hc k (by omega), List.getD_eq_getElem?_getD, List.getD_eq_getElem?_getD, List.getElem?_take, if_pos hk]⟩
theorem dropLast_join (s : List UInt8) : (Lib.join (segs s).dropLast [46]).length ≤ s.length := by
  have h := join_len_le (segs s) ((segs s).length - 1) (segs s).length (by omega) (Nat.le_refl _)
  rw [List.take_length, join_segs] at h
  rw [List.dropLast_eq_take]
  exact h
set_option maxHeartbeats 1000000 in
set_option maxRecDepth 100000 in
theorem rParent_any (s : List UInt8) (w : World) (hs : s.length < 4294967281) : Calls Try.prog 20 #[.string ⟨s.toArray⟩] w (RetSB (parS s) (parB s) w) := by
  have HSEG := Lib.hid (fun w => rSegs_any s w (by omega))
  have HC := Lib.hid (fun w => rCheck_any s w (by omega))
  have hchk := Lib.hid (show chk s = if codeB s then 0 else 3 from rfl)
  have hdl := Lib.hid (dropLast_join s)
  have hdr := Lib.hid (List.dropLast_eq_take (l := segs s))
  have hpb := Lib.hid (@par_bad s)
  have hS := Lib.hid (show parS s = if codeB s && decide (1 < (segs s).length) then Lib.join (segs s).dropLast [46] else [] from rfl)
  have hB := Lib.hid (show parB s = (codeB s && decide (1 < (segs s).length)) from rfl)
  have hp := segs_pos s
  generalize segs s = l at *
  go_enter Try.func20, Try.ntmps20
  go_wp2_with fail
  refine (HSEG.out _).mono ?_
  rintro e w1 ⟨v, rfl, hown, hb1⟩
  obtain ⟨A, c, rfl, hrow⟩ := hown.row
  obtain ⟨n, hn⟩ : ∃ n, n = l.length := ⟨_, rfl⟩
  have hcap := hrow.cap
  have htop := hrow.top
  rw [← hn] at hrow hp hcap ⊢
  have HN := Lib.hid hn
  have HR := Lib.hid hrow
  clear hn hown hrow
  cases hcb : codeB s
  · have hk := Lib.hid (show chk s = 3 by rw [hchk.out, hcb]; rfl)
    have hv := Lib.hid (hpb.out hcb)
    clear hcb
    go_wp2_with fail
    refine (HC.out _).mono ?_
    rintro e w2 ⟨rfl, hb2⟩
    rw [hk.out]
    go_wp2_with fail
    go_ret2
    exact ⟨by rw [hv.out.1, hv.out.2]; rfl, hb1.trans (hb2.mono hb1.size)⟩
  · have hk := Lib.hid (show chk s = 0 by rw [hchk.out, hcb]; rfl)
    by_cases h2 : n < 2
    · have hd : decide ((n : Int) < 2) = true := by simp; omega
      have hv := Lib.hid (show parS s = [] ∧ parB s = false by
        rw [hS.out, hB.out, ← HN.out, decide_eq_false (by omega), Bool.and_false]; exact ⟨rfl, rfl⟩)
      clear hcb
      go_wp2_with fail
      refine (HC.out _).mono ?_
      rintro e w2 ⟨rfl, hb2⟩
      rw [hk.out]
      go_wp2_with fail
      go_ret2
      exact ⟨by rw [hv.out.1, hv.out.2]; rfl, hb1.trans (hb2.mono hb1.size)⟩
    · have hd : decide ((n : Int) < 2) = false := by simp; omega
      have hv := Lib.hid (show parS s = Lib.join l.dropLast [46] ∧ parB s = true by
        rw [hS.out, hB.out, ← HN.out, decide_eq_true (by omega), hcb]; exact ⟨rfl, rfl⟩)
      clear hcb
      go_wp2_with fail
      refine (HC.out _).mono ?_
      rintro e w2 ⟨rfl, hb2⟩
      rw [hk.out]
      obtain ⟨m, hmn⟩ : ∃ m, n = m + 1 := ⟨n - 1, by omega⟩
      have hw : IntKind.i64.wrap ((n : Int) - 1) = (m : Int) := by rw [IntWalk.i64_in _ (by omega)]; omega
      have HRF := Lib.hid ((HR.out.below hb2).front m (by omega))
      have HJL := Lib.hid (show (Lib.join (l.take m) [46]).length ≤ 4294967296 by
        have := hdl.out
        rw [hdr.out, ← HN.out, hmn] at this
        simp only [Nat.add_sub_cancel] at this
        omega)
      have b1 : (m : Int) ≤ (c : Int) := by omega
      go_wp2_with fail
      refine (join_any _ _ _ _ _ HRF.out HJL.out).mono ?_
      rintro e w3 ⟨rfl, rfl⟩
      go_wp2_with fail
      go_ret2
      refine ⟨?_, hb1.trans (hb2.mono hb1.size)⟩
      rw [hv.out.1, hv.out.2, hdr.out, ← HN.out, hmn]
      rfl
end Go.Proofs.Ytklmgogppljolaa
