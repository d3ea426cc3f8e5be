/- Ledgers, plain: the rows of an account. -/
import Derived.Test.YtohdpidlilhnjaaGreatDoorQ7
import Derived.Test.YtohdpidlilhnjaaGreatDoorQ9
import Derived.Test.YtohdpidlilhnjaaGreatDoorQ4
import Derived.Test.YtohdpidlilhnjaaGreatDoorQ8
import Derived.Test.YtohdpidlilhnjaaGreatDoorQ5
namespace Go.Proofs.YtohdpidlilhnjaaGreatDoor
open Go.RowKit Go.Maps Num

/-- a row: day, cause, amount, running -/
abbrev Rw := Int × List UInt8 × List UInt8 × List UInt8
/-- the sum of a key in all entries -/
def totE (l : List En) (k : Ky) : Int := (l.map fun e => tot e.2.2 k).sum
theorem totE_cons (e : En) (l : List En) (k : Ky) : totE (e :: l) k = tot e.2.2 k + totE l k := by simp [totE]
theorem totE_snoc (l : List En) (e : En) (k : Ky) : totE (l ++ [e]) k = totE l k + tot e.2.2 k := by simp [totE]
theorem totE_nil (k : Ky) : totE [] k = 0 := rfl
/-- the rows of entries, behind a sum -/
def rowsE (k : Ky) : Int → List En → List Rw
  | _, [] => []
  | s, e :: r => if tot e.2.2 k = 0 then rowsE k s r else (e.1, e.2.1, txt (tot e.2.2 k), txt (s + tot e.2.2 k)) :: rowsE k (s + tot e.2.2 k) r
theorem rowsE_snoc (k : Ky) : ∀ (s : Int) (l : List En) (e : En), rowsE k s (l ++ [e]) = rowsE k s l ++ if tot e.2.2 k = 0 then [] else [(e.1, e.2.1, txt (tot e.2.2 k), txt (s + totE l k + tot e.2.2 k))]
  | s, [], e => by
    rw [List.nil_append, rowsE, rowsE, totE_nil, rowsE]
    split <;> simp [rowsE]
  | s, x :: l, e => by
    rw [List.cons_append, rowsE, rowsE, totE_cons]
    split
    · rename_i h
      rw [rowsE_snoc k s l e, h, Int.zero_add]
    · rw [rowsE_snoc k _ l e, List.cons_append, Int.add_assoc s (tot x.2.2 k) (totE l k)]
theorem rowsE_len (k : Ky) : ∀ (s : Int) (l : List En), (rowsE k s l).length ≤ l.length
  | _, [] => Nat.le_refl _
  | s, e :: l => by
    rw [rowsE]
    split
    · have := rowsE_len k s l; rw [List.length_cons]; omega
    · have := rowsE_len k (s + tot e.2.2 k) l; rw [List.length_cons, List.length_cons]; omega
/-- the sum of rows' amounts -/
def rsum (r : List Rw) : Int := (r.map fun x => val x.2.2.1).sum
theorem rsum_cons (x : Rw) (r : List Rw) : rsum (x :: r) = val x.2.2.1 + rsum r := by simp [rsum]
theorem rsum_snoc (r : List Rw) (x : Rw) : rsum (r ++ [x]) = rsum r + val x.2.2.1 := by simp [rsum]
theorem rsum_nil : rsum [] = 0 := rfl
def rw0 : Rw := (0, [], [], [])
theorem rows_run (k : Ky) : ∀ (s : Int) (l : List En) (i : Nat), i < (rowsE k s l).length → ((rowsE k s l).getD i rw0).2.2.2 = txt (s + rsum ((rowsE k s l).take (i + 1)))
  | _, [], i, h => by cases h
  | s, e :: l, i, h => by
    rw [rowsE] at h ⊢
    split
    · rename_i h0; rw [if_pos h0] at h; exact rows_run k s l i h
    · rename_i h0
      rw [if_neg h0] at h
      cases i with
      | zero => simp [rsum, val_txt]
      | succ i =>
        have := rows_run k (s + tot e.2.2 k) l i (by simpa using h)
        rw [List.getD_cons_succ, this, List.take_succ_cons, rsum_cons, val_txt, Int.add_assoc]
theorem rows_ne (k : Ky) : ∀ (s : Int) (l : List En), ∀ x ∈ rowsE k s l, x.2.2.1 ≠ []
  | _, [], x, h => by cases h
  | s, e :: l, x, h => by
    rw [rowsE] at h
    split at h
    · exact rows_ne k s l x h
    · rename_i h0
      rcases List.mem_cons.1 h with rfl | h
      · exact fun e' => h0 (txt_nil.1 e')
      · exact rows_ne k _ l x h
theorem rows_day (k : Ky) : ∀ (s : Int) (l : List En), ∀ x ∈ rowsE k s l, ∃ e ∈ l, x.1 = e.1
  | _, [], x, h => by cases h
  | s, e :: l, x, h => by
    rw [rowsE] at h
    split at h
    · obtain ⟨e', h1, h2⟩ := rows_day k s l x h
      exact ⟨e', by simp [h1], h2⟩
    · rcases List.mem_cons.1 h with rfl | h
      · exact ⟨e, by simp, rfl⟩
      · obtain ⟨e', h1, h2⟩ := rows_day k _ l x h
        exact ⟨e', by simp [h1], h2⟩
theorem rows_srt (k : Ky) : ∀ (s : Int) (l : List En), l.Pairwise (fun a b => a.1 ≤ b.1) → (rowsE k s l).Pairwise fun a b => a.1 ≤ b.1
  | _, [], _ => List.Pairwise.nil
  | s, e :: l, h => by
    rw [List.pairwise_cons] at h
    rw [rowsE]
    split
    · exact rows_srt k s l h.2
    · refine List.pairwise_cons.2 ⟨fun x hx => ?_, rows_srt k _ l h.2⟩
      obtain ⟨e', h1, h2⟩ := rows_day k _ l x hx
      rw [h2]
      exact h.1 e' h1
theorem rows_flat (k : Ky) (d : Int) : ∀ (s : Int) (l : List En), rsum ((rowsE k s l).filter fun x => decide (x.1 ≤ d)) = tot (flat l fun x => decide (x ≤ d)) k
  | _, [] => rfl
  | s, e :: l => by
    rw [rowsE, flat_cons, tot_append]
    split
    · rename_i h0
      rw [rows_flat k d s l]
      split
      · rw [h0]; omega
      · rw [tot_nil]; omega
    · rw [List.filter_cons]
      by_cases h : e.1 ≤ d
      · rw [if_pos (by exact decide_eq_true h), if_pos (decide_eq_true h), rsum_cons, val_txt, rows_flat k d _ l]
      · rw [if_neg (by show ¬ decide (e.1 ≤ d) = true; rw [decide_eq_false h]; decide), if_neg (by rw [decide_eq_false h]; decide), rows_flat k d _ l, tot_nil]; omega
theorem flat_perm {a b : List En} (h : a.Perm b) (p : Int → Bool) (k : Ky) : tot (flat a p) k = tot (flat b p) k := by
  induction h with
  | nil => rfl
  | cons x _ ih => rw [flat_cons, flat_cons, tot_append, tot_append, ih]
  | swap x y l => rw [flat_cons, flat_cons, flat_cons, flat_cons, tot_append, tot_append, tot_append, tot_append]; omega
  | trans _ _ h1 h2 => exact h1.trans h2
/-- rows in order: those up to a day, where a later one follows, are the first ones -/
theorem rows_take {r : List Rw} (h : r.Pairwise fun a b => a.1 ≤ b.1) {i : Nat} (hi : i < r.length) (hn : i + 1 = r.length ∨ (r.getD i rw0).1 < (r.getD (i + 1) rw0).1) : r.filter (fun x => decide (x.1 ≤ (r.getD i rw0).1)) = r.take (i + 1) := by
  have h1 : r.getD i rw0 = r[i] := by rw [List.getD_eq_getElem?_getD, List.getElem?_eq_getElem hi]; rfl
  rw [List.pairwise_iff_getElem] at h
  have e1 : (r.take (i + 1)).filter (fun x => decide (x.1 ≤ (r.getD i rw0).1)) = r.take (i + 1) := by
    rw [List.filter_eq_self]
    intro x hx
    obtain ⟨j, hj, rfl⟩ := List.mem_iff_getElem.1 hx
    rw [List.length_take] at hj
    rw [List.getElem_take, h1]
    refine decide_eq_true ?_
    rcases Nat.lt_or_eq_of_le (show j ≤ i by omega) with hl | rfl
    · exact h j i (by omega) hi hl
    · exact Int.le_refl _
  have e2 : (r.drop (i + 1)).filter (fun x => decide (x.1 ≤ (r.getD i rw0).1)) = [] := by
    rw [List.filter_eq_nil_iff]
    intro x hx
    obtain ⟨j, hj, rfl⟩ := List.mem_iff_getElem.1 hx
    rw [List.length_drop] at hj
    have hlt : (r.getD i rw0).1 < (r.getD (i + 1) rw0).1 := by
      rcases hn with hn | hn
      · omega
      · exact hn
    have h2 : r.getD (i + 1) rw0 = r[i + 1] := by rw [List.getD_eq_getElem?_getD, List.getElem?_eq_getElem (by omega)]; rfl
    rw [List.getElem_drop]
    have h3 : r[i + 1].1 ≤ (r[i + 1 + j]).1 := by
      rcases Nat.eq_zero_or_pos j with rfl | hj0
      · exact Int.le_refl _
      · exact h (i + 1) (i + 1 + j) (by omega) (by omega) (by omega)
    rw [h2] at hlt
    intro h4
    have := of_decide_eq_true h4
    omega
  have e3 : r.filter (fun x => decide (x.1 ≤ (r.getD i rw0).1)) = (r.take (i + 1) ++ r.drop (i + 1)).filter (fun x => decide (x.1 ≤ (r.getD i rw0).1)) := by rw [List.take_append_drop]
  rw [e3, List.filter_append, e1, e2, List.append_nil]
theorem rows_last {r : List Rw} (h : ∀ x ∈ r, x.1 ≤ 84005) : r.filter (fun x => decide (x.1 ≤ 84005)) = r := by
  rw [List.filter_eq_self]
  intro x hx
  exact decide_eq_true (h x hx)
/-- entries in order -/
def srtE (l : List En) : List En := l.mergeSort fun a b => decide (cmpE a b ≤ 0)
theorem srtE_perm (l : List En) : (srtE l).Perm l := List.mergeSort_perm _ _
theorem srtE_srt (l : List En) : Srt cmpE (srtE l) := by
  have h := List.pairwise_mergeSort (le := fun a b => decide (cmpE a b ≤ 0)) (fun a b c h1 h2 => by
    simp only [decide_eq_true_eq] at *
    exact cmpE_cmp.le_tr h1 h2) (fun a b => by
    simp only [Bool.or_eq_true, decide_eq_true_eq]
    have := cmpE_cmp.anti a b
    omega) l
  exact h.imp fun h => of_decide_eq_true h
theorem srtE_days {l : List En} : (srtE l).Pairwise fun a b => a.1 ≤ b.1 := (srtE_srt l).imp fun {a b} h => by
  have h2 : (if cmpI a.1 b.1 ≠ 0 then cmpI a.1 b.1 else orC (fun a b : En => cmpS a.2.1 b.2.1) (fun a b => cmpLs cmpL a.2.2 b.2.2) a b) ≤ 0 := h
  split at h2
  · unfold cmpI at h2
    split at h2
    · omega
    · split at h2 <;> omega
  · rename_i h0
    have := (cmpI_zero).1 (Classical.not_not.1 h0)
    omega
/-- the rows of entries, in their order -/
def rowsL (es : List En) (k : Ky) : List Rw := rowsE k 0 (srtE es)
end Go.Proofs.YtohdpidlilhnjaaGreatDoor

/- Contracts of slices.Equal at balances, rows, numbers; of the law's line and usd; of ledger.Same (printed by gen_eq.py). -/
namespace Go.Proofs.YtohdpidlilhnjaaGreatDoor
open Go.RowKit Go.Maps Num

def RV (x : Rw) : List Value := [.int .i64 x.1, .string ⟨x.2.1.toArray⟩, .string ⟨x.2.2.1.toArray⟩, .string ⟨x.2.2.2.toArray⟩]
abbrev rowR : Row Rw := ⟨44, 48, .agg #[.int .i64 0, .string ⟨#[]⟩, .string ⟨#[]⟩, .string ⟨#[]⟩], 4, 56, RV⟩
theorem rowR_ok : rowR.Ok where
  hS := Tryz.underlying44
  info := by kernel_rfl
  zc := rfl
  k0 := by decide
  b1 := by decide
  hk _ := rfl
  h1 x v hv := by
    simp only [RV, List.mem_cons, List.not_mem_nil, or_false] at hv
    rcases hv with rfl | rfl | rfl | rfl <;> rfl
abbrev rowI : Row (List UInt8) := ⟨68, 31, .string ⟨#[]⟩, 1, 16, fun s => [.string ⟨s.toArray⟩]⟩
theorem rowI_ok : rowI.Ok where
  hS := Tryz.underlying68
  info := by kernel_rfl
  zc := rfl
  k0 := by decide
  b1 := by decide
  hk _ := rfl
  h1 x v hv := by
    simp only [List.mem_cons, List.not_mem_nil, or_false] at hv
    rcases hv with rfl; rfl
theorem take_gen {α : Type} (x0 : α) (l : List α) (k : Nat) (h : k < l.length) : l.take (k + 1) = l.take k ++ [l.getD k x0] := by
  rw [List.take_succ_eq_append_getElem h, List.getD_eq_getElem?_getD, List.getElem?_eq_getElem h]; rfl
def EqG {α : Type} (w : World) (l m : List α) (k : Nat) (W : World) : Prop := l.take k = m.take k ∧ Below w.heap.size w W

set_option maxRecDepth 100000 in
set_option maxHeartbeats 4000000 in
theorem Eq82_any (A B : Option Addr) (n c p d : Nat) (l m : List Ln) (w : World) (hl : rowB.Rds w A n c l) (hm : rowB.Rds w B p d m) (hn : n ≤ 100000) (hp : p ≤ 100000) :
    Calls Tryz.prog 82 #[.slice A n c, .slice B p d] w (BoolPost (decide (l = m)) w) := by
  have ll := Lib.hid hl.len
  have lm := Lib.hid hm.len
  have L1 := Lib.hid hl
  have L2 := Lib.hid hm
  generalize hr : decide (l = m) = r
  clear hl hm
  by_cases hnp : n = p
  case neg =>
    have h1 : ((n : Int) == (p : Int)) = false := beq_eq_false_iff_ne.2 (by omega)
    have h2 : (n == p) = false := beq_eq_false_iff_ne.2 hnp
    have hv := Lib.hid (show r = false by rw [← hr]; exact decide_eq_false (fun e => hnp (by rw [← ll.out, ← lm.out, e])))
    clear hr
    go_enter Tryz.func82, Tryz.ntmps82
    go_wp2_with fail
    go_ret
    exact ⟨by rw [hv.out]; rfl, Below.refl _ _⟩
  subst hnp
  have HR := Lib.hid hr
  clear hr
  go_enter Tryz.func82, Tryz.ntmps82
  go_wp2_with fail
  have R0 := Lib.hid (show EqG w l m 0 w from ⟨by simp, Below.refl _ _⟩)
  go_loopw [13] (fun i wr => ∃ k : Nat, k ≤ n ∧ i = .int .i64 (k : Int) ∧ Hid (EqG w l m k wr)) (fun i _ => n - (intOf i).toNat)
  case atStart => exact ⟨0, by omega, rfl, R0⟩
  case round =>
    obtain ⟨k, hk, rfl, hR⟩ := hrel
    have HE := Lib.hid hR.out.1
    have HB := Lib.hid hR.out.2
    clear hR R0
    by_cases hlt : k < n
    · obtain ⟨b1, o1, rfl, hb1, _⟩ := L1.out.at_ (by omega)
      obtain ⟨b2, o2, rfl, hb2, _⟩ := L2.out.at_ (by omega)
      have r0 := (L1.out.below HB.out).cell rowB_ok ln0 k 0 _ hlt rfl
      have r1 := (L1.out.below HB.out).cell rowB_ok ln0 k 1 _ hlt rfl
      have r2 := (L1.out.below HB.out).cell rowB_ok ln0 k 2 _ hlt rfl
      have s0 := (L2.out.below HB.out).cell rowB_ok ln0 k 0 _ hlt rfl
      have s1 := (L2.out.below HB.out).cell rowB_ok ln0 k 1 _ hlt rfl
      have s2 := (L2.out.below HB.out).cell rowB_ok ln0 k 2 _ hlt rfl
      have hki : (k : Int) < (n : Int) := by omega
      have hk0 : (0 : Int) ≤ (k : Int) := by omega
      have t1 := Lib.hid (take_gen ln0 l k (by rw [ll.out]; exact hlt))
      have t2 := Lib.hid (take_gen ln0 m k (by rw [lm.out]; exact hlt))
      have HD := Lib.hid (show l.getD k ln0 ≠ m.getD k ln0 → l ≠ m from fun h e => h (by rw [e]))
      generalize l.getD k ln0 = x at *
      generalize m.getD k ln0 = y at *
      obtain ⟨a, cu, u⟩ := x
      obtain ⟨a', cu', u'⟩ := y
      simp only [Nat.add_zero] at r0 s0 r1 s1 r2 s2
      by_cases hxy : (a, cu, u) = (a', cu', u')
      · have HE2 := Lib.hid (show l.take (k + 1) = m.take (k + 1) by rw [t1.out, t2.out, HE.out, hxy])
        simp only [Prod.mk.injEq] at hxy
        obtain ⟨rfl, rfl, rfl⟩ := hxy
        clear t1 t2 HD
        go_wp2_with fail
        go_quiet (fail)
        have HB2 := Lib.hid (below_dr HB.out nq)
        go_wp2_with fail
        go_roundw
        case rel => exact ⟨k + 1, by omega, by go_num, Lib.hid ⟨HE2.out, HB2.out⟩⟩
        case measure => simp [intOf]; omega
      · have hv := Lib.hid (show r = false by rw [← HR.out]; exact decide_eq_false (HD.out hxy))
        clear t1 t2 HD
        by_cases h0 : a = a'
        case neg =>
          have e0 : (a == a') = false := beq_eq_false_iff_ne.2 h0
          clear hxy
          go_wp2_with fail
          go_quiet (fail)
          have HB2 := Lib.hid (below_dr HB.out nq)
          go_wp2_with fail
          go_ret
          exact ⟨by rw [hv.out]; rfl, HB2.out⟩
        subst h0
        by_cases h1 : cu = cu'
        case neg =>
          have e1 : (cu == cu') = false := beq_eq_false_iff_ne.2 h1
          clear hxy
          go_wp2_with fail
          go_quiet (fail)
          have HB2 := Lib.hid (below_dr HB.out nq)
          go_wp2_with fail
          go_ret
          exact ⟨by rw [hv.out]; rfl, HB2.out⟩
        subst h1
        have e2 : (u == u') = false := beq_eq_false_iff_ne.2 (fun e => hxy (by rw [e]))
        clear hxy
        go_wp2_with fail
        go_quiet (fail)
        have HB2 := Lib.hid (below_dr HB.out nq)
        go_wp2_with fail
        go_ret
        exact ⟨by rw [hv.out]; rfl, HB2.out⟩
    · have hkn : k = n := by omega
      subst hkn
      have hki : ¬ (k : Int) < (k : Int) := by omega
      have e := HE.out
      rw [List.take_of_length_le (by rw [ll.out]; exact Nat.le_refl _), List.take_of_length_le (by rw [lm.out]; exact Nat.le_refl _)] at e
      have hv := Lib.hid (show r = true by rw [← HR.out]; exact decide_eq_true e)
      clear e HE
      go_wp2_with fail
      go_ret
      exact ⟨by rw [hv.out]; rfl, HB.out⟩

set_option maxRecDepth 100000 in
set_option maxHeartbeats 4000000 in
theorem Eq52_any (A B : Option Addr) (n c p d : Nat) (l m : List Rw) (w : World) (hl : rowR.Rds w A n c l) (hm : rowR.Rds w B p d m) (hn : n ≤ 100000) (hp : p ≤ 100000) :
    Calls Tryz.prog 52 #[.slice A n c, .slice B p d] w (BoolPost (decide (l = m)) w) := by
  have ll := Lib.hid hl.len
  have lm := Lib.hid hm.len
  have L1 := Lib.hid hl
  have L2 := Lib.hid hm
  generalize hr : decide (l = m) = r
  clear hl hm
  by_cases hnp : n = p
  case neg =>
    have h1 : ((n : Int) == (p : Int)) = false := beq_eq_false_iff_ne.2 (by omega)
    have h2 : (n == p) = false := beq_eq_false_iff_ne.2 hnp
    have hv := Lib.hid (show r = false by rw [← hr]; exact decide_eq_false (fun e => hnp (by rw [← ll.out, ← lm.out, e])))
    clear hr
    go_enter Tryz.func52, Tryz.ntmps52
    go_wp2_with fail
    go_ret
    exact ⟨by rw [hv.out]; rfl, Below.refl _ _⟩
  subst hnp
  have HR := Lib.hid hr
  clear hr
  go_enter Tryz.func52, Tryz.ntmps52
  go_wp2_with fail
  have R0 := Lib.hid (show EqG w l m 0 w from ⟨by simp, Below.refl _ _⟩)
  go_loopw [13] (fun i wr => ∃ k : Nat, k ≤ n ∧ i = .int .i64 (k : Int) ∧ Hid (EqG w l m k wr)) (fun i _ => n - (intOf i).toNat)
  case atStart => exact ⟨0, by omega, rfl, R0⟩
  case round =>
    obtain ⟨k, hk, rfl, hR⟩ := hrel
    have HE := Lib.hid hR.out.1
    have HB := Lib.hid hR.out.2
    clear hR R0
    by_cases hlt : k < n
    · obtain ⟨b1, o1, rfl, hb1, _⟩ := L1.out.at_ (by omega)
      obtain ⟨b2, o2, rfl, hb2, _⟩ := L2.out.at_ (by omega)
      have r0 := (L1.out.below HB.out).cell rowR_ok rw0 k 0 _ hlt rfl
      have r1 := (L1.out.below HB.out).cell rowR_ok rw0 k 1 _ hlt rfl
      have r2 := (L1.out.below HB.out).cell rowR_ok rw0 k 2 _ hlt rfl
      have r3 := (L1.out.below HB.out).cell rowR_ok rw0 k 3 _ hlt rfl
      have s0 := (L2.out.below HB.out).cell rowR_ok rw0 k 0 _ hlt rfl
      have s1 := (L2.out.below HB.out).cell rowR_ok rw0 k 1 _ hlt rfl
      have s2 := (L2.out.below HB.out).cell rowR_ok rw0 k 2 _ hlt rfl
      have s3 := (L2.out.below HB.out).cell rowR_ok rw0 k 3 _ hlt rfl
      have hki : (k : Int) < (n : Int) := by omega
      have hk0 : (0 : Int) ≤ (k : Int) := by omega
      have t1 := Lib.hid (take_gen rw0 l k (by rw [ll.out]; exact hlt))
      have t2 := Lib.hid (take_gen rw0 m k (by rw [lm.out]; exact hlt))
      have HD := Lib.hid (show l.getD k rw0 ≠ m.getD k rw0 → l ≠ m from fun h e => h (by rw [e]))
      generalize l.getD k rw0 = x at *
      generalize m.getD k rw0 = y at *
      obtain ⟨t, z, u, v⟩ := x
      obtain ⟨t', z', u', v'⟩ := y
      simp only [Nat.add_zero] at r0 s0 r1 s1 r2 s2 r3 s3
      by_cases hxy : (t, z, u, v) = (t', z', u', v')
      · have HE2 := Lib.hid (show l.take (k + 1) = m.take (k + 1) by rw [t1.out, t2.out, HE.out, hxy])
        simp only [Prod.mk.injEq] at hxy
        obtain ⟨rfl, rfl, rfl, rfl⟩ := hxy
        clear t1 t2 HD
        go_wp2_with fail
        go_quiet (fail)
        have HB2 := Lib.hid (below_dr HB.out nq)
        go_wp2_with fail
        go_roundw
        case rel => exact ⟨k + 1, by omega, by go_num, Lib.hid ⟨HE2.out, HB2.out⟩⟩
        case measure => simp [intOf]; omega
      · have hv := Lib.hid (show r = false by rw [← HR.out]; exact decide_eq_false (HD.out hxy))
        clear t1 t2 HD
        by_cases h0 : t = t'
        case neg =>
          have e0 : (t == t') = false := beq_eq_false_iff_ne.2 h0
          clear hxy
          go_wp2_with fail
          go_quiet (fail)
          have HB2 := Lib.hid (below_dr HB.out nq)
          go_wp2_with fail
          go_ret
          exact ⟨by rw [hv.out]; rfl, HB2.out⟩
        subst h0
        by_cases h1 : z = z'
        case neg =>
          have e1 : (z == z') = false := beq_eq_false_iff_ne.2 h1
          clear hxy
          go_wp2_with fail
          go_quiet (fail)
          have HB2 := Lib.hid (below_dr HB.out nq)
          go_wp2_with fail
          go_ret
          exact ⟨by rw [hv.out]; rfl, HB2.out⟩
        subst h1
        by_cases h2 : u = u'
        case neg =>
          have e2 : (u == u') = false := beq_eq_false_iff_ne.2 h2
          clear hxy
          go_wp2_with fail
          go_quiet (fail)
          have HB2 := Lib.hid (below_dr HB.out nq)
          go_wp2_with fail
          go_ret
          exact ⟨by rw [hv.out]; rfl, HB2.out⟩
        subst h2
        have e3 : (v == v') = false := beq_eq_false_iff_ne.2 (fun e => hxy (by rw [e]))
        clear hxy
        go_wp2_with fail
        go_quiet (fail)
        have HB2 := Lib.hid (below_dr HB.out nq)
        go_wp2_with fail
        go_ret
        exact ⟨by rw [hv.out]; rfl, HB2.out⟩
    · have hkn : k = n := by omega
      subst hkn
      have hki : ¬ (k : Int) < (k : Int) := by omega
      have e := HE.out
      rw [List.take_of_length_le (by rw [ll.out]; exact Nat.le_refl _), List.take_of_length_le (by rw [lm.out]; exact Nat.le_refl _)] at e
      have hv := Lib.hid (show r = true by rw [← HR.out]; exact decide_eq_true e)
      clear e HE
      go_wp2_with fail
      go_ret
      exact ⟨by rw [hv.out]; rfl, HB.out⟩

set_option maxRecDepth 100000 in
set_option maxHeartbeats 4000000 in
theorem Eq44_any (A B : Option Addr) (n c p d : Nat) (l m : List (List UInt8)) (w : World) (hl : rowI.Rds w A n c l) (hm : rowI.Rds w B p d m) (hn : n ≤ 100000) (hp : p ≤ 100000) :
    Calls Tryz.prog 44 #[.slice A n c, .slice B p d] w (BoolPost (decide (l = m)) w) := by
  have ll := Lib.hid hl.len
  have lm := Lib.hid hm.len
  have L1 := Lib.hid hl
  have L2 := Lib.hid hm
  generalize hr : decide (l = m) = r
  clear hl hm
  by_cases hnp : n = p
  case neg =>
    have h1 : ((n : Int) == (p : Int)) = false := beq_eq_false_iff_ne.2 (by omega)
    have h2 : (n == p) = false := beq_eq_false_iff_ne.2 hnp
    have hv := Lib.hid (show r = false by rw [← hr]; exact decide_eq_false (fun e => hnp (by rw [← ll.out, ← lm.out, e])))
    clear hr
    go_enter Tryz.func44, Tryz.ntmps44
    go_wp2_with fail
    go_ret
    exact ⟨by rw [hv.out]; rfl, Below.refl _ _⟩
  subst hnp
  have HR := Lib.hid hr
  clear hr
  go_enter Tryz.func44, Tryz.ntmps44
  go_wp2_with fail
  have R0 := Lib.hid (show EqG w l m 0 w from ⟨by simp, Below.refl _ _⟩)
  go_loopw [13] (fun i wr => ∃ k : Nat, k ≤ n ∧ i = .int .i64 (k : Int) ∧ Hid (EqG w l m k wr)) (fun i _ => n - (intOf i).toNat)
  case atStart => exact ⟨0, by omega, rfl, R0⟩
  case round =>
    obtain ⟨k, hk, rfl, hR⟩ := hrel
    have HE := Lib.hid hR.out.1
    have HB := Lib.hid hR.out.2
    clear hR R0
    by_cases hlt : k < n
    · obtain ⟨b1, o1, rfl, hb1, _⟩ := L1.out.at_ (by omega)
      obtain ⟨b2, o2, rfl, hb2, _⟩ := L2.out.at_ (by omega)
      have r0 := (L1.out.below HB.out).cell rowI_ok ([] : List UInt8) k 0 _ hlt rfl
      have s0 := (L2.out.below HB.out).cell rowI_ok ([] : List UInt8) k 0 _ hlt rfl
      have hki : (k : Int) < (n : Int) := by omega
      have hk0 : (0 : Int) ≤ (k : Int) := by omega
      have t1 := Lib.hid (take_gen ([] : List UInt8) l k (by rw [ll.out]; exact hlt))
      have t2 := Lib.hid (take_gen ([] : List UInt8) m k (by rw [lm.out]; exact hlt))
      have HD := Lib.hid (show l.getD k ([] : List UInt8) ≠ m.getD k ([] : List UInt8) → l ≠ m from fun h e => h (by rw [e]))
      generalize l.getD k ([] : List UInt8) = x at *
      generalize m.getD k ([] : List UInt8) = y at *
      simp only [Nat.add_zero, Nat.mul_one] at r0 s0
      by_cases hxy : x = y
      · have HE2 := Lib.hid (show l.take (k + 1) = m.take (k + 1) by rw [t1.out, t2.out, HE.out, hxy])
        subst hxy
        clear t1 t2 HD
        go_wp2_with fail
        go_quiet (fail)
        have HB2 := Lib.hid (below_dr HB.out nq)
        go_wp2_with fail
        go_roundw
        case rel => exact ⟨k + 1, by omega, by go_num, Lib.hid ⟨HE2.out, HB2.out⟩⟩
        case measure => simp [intOf]; omega
      · have hv := Lib.hid (show r = false by rw [← HR.out]; exact decide_eq_false (HD.out hxy))
        clear t1 t2 HD
        have e0 : (x == y) = false := beq_eq_false_iff_ne.2 (hxy)
        clear hxy
        go_wp2_with fail
        go_quiet (fail)
        have HB2 := Lib.hid (below_dr HB.out nq)
        go_wp2_with fail
        go_ret
        exact ⟨by rw [hv.out]; rfl, HB2.out⟩
    · have hkn : k = n := by omega
      subst hkn
      have hki : ¬ (k : Int) < (k : Int) := by omega
      have e := HE.out
      rw [List.take_of_length_le (by rw [ll.out]; exact Nat.le_refl _), List.take_of_length_le (by rw [lm.out]; exact Nat.le_refl _)] at e
      have hv := Lib.hid (show r = true by rw [← HR.out]; exact decide_eq_true e)
      clear e HE
      go_wp2_with fail
      go_ret
      exact ⟨by rw [hv.out]; rfl, HB.out⟩

set_option maxRecDepth 100000 in
set_option maxHeartbeats 1000000 in
theorem line_any (s : List UInt8) (n : Int) (w : World) (h0 : -9223372036854775808 ≤ n) (h1 : n ≤ 9223372036854775807) (ht : Tab w) :
    Calls Tryz.prog 50 #[.string ⟨s.toArray⟩, .int .i64 n] w fun e w' => e = .returned (.agg #[.string ⟨s.toArray⟩, .string ⟨#[85, 83, 68]⟩, .string ⟨(txt n).toArray⟩]) ∧ Below w.heap.size w w' := by
  have hB0 : Below w.heap.size w (w.alloc (.cells #[.string ⟨#[]⟩, .string ⟨#[]⟩, .string ⟨#[]⟩] 40)) := (Below.refl _ w).alloc (Nat.le_refl _) _
  have c1 := Of_any n _ h0 h1 (ht.below hB0)
  have C1 := Lib.hid c1
  have HB := Lib.hid hB0
  have X := Lib.hid (heap_alloc_new w (.cells #[.string ⟨#[]⟩, .string ⟨#[]⟩, .string ⟨#[]⟩] 40))
  generalize txt n = t at *
  clear c1 hB0 ht
  go_enter Tryz.func50, Tryz.ntmps50
  go_wp2_with fail
  refine C1.out.mono ?_
  rintro e w2 ⟨rfl, hb⟩
  have z1 := (hb.block w.heap.size (by simp)).trans X.out
  have HB2 := Lib.hid (below_next HB.out hb ⟨rfl, rfl, rfl, rfl⟩)
  obtain ⟨⟨c10, c11, c12⟩, f10, f11, f12⟩ := cells3 z1
  obtain ⟨⟨g10, g11, g12⟩, _⟩ := cells3 (set3 z1 (.string ⟨s.toArray⟩) (.string ⟨#[85, 83, 68]⟩) (.string ⟨t.toArray⟩))
  have hb3 := below_set3 HB2.out (b := w.heap.size) (Nat.le_refl _) (.string ⟨s.toArray⟩) (.string ⟨#[85, 83, 68]⟩) (.string ⟨t.toArray⟩)
  clear z1 hb C1
  go_wp2_with fail
  exact bodyPost_ret (v := .agg #[.string ⟨s.toArray⟩, .string ⟨#[85, 83, 68]⟩, .string ⟨t.toArray⟩]) (by simp [results, Tryz.results50, go_sem, g10, g11, g12]) rfl ⟨rfl, hb3⟩

set_option maxRecDepth 100000 in
set_option maxHeartbeats 1000000 in
theorem usd_any (s : List UInt8) (n : Int) (w : World) (h0 : -9223372036854775808 ≤ n) (h1 : n ≤ 9223372036854775807) (ht : Tab w) :
    Calls Tryz.prog 51 #[.string ⟨s.toArray⟩, .int .i64 n] w fun e w' => e = .returned (.agg #[.string ⟨s.toArray⟩, .string ⟨#[85, 83, 68]⟩, .string ⟨(txt n).toArray⟩]) ∧ Below w.heap.size w w' := by
  have hB0 : Below w.heap.size w (w.alloc (.cells #[.string ⟨#[]⟩, .string ⟨#[]⟩, .string ⟨#[]⟩] 33)) := (Below.refl _ w).alloc (Nat.le_refl _) _
  have c1 := Of_any n _ h0 h1 (ht.below hB0)
  have C1 := Lib.hid c1
  have HB := Lib.hid hB0
  have X := Lib.hid (heap_alloc_new w (.cells #[.string ⟨#[]⟩, .string ⟨#[]⟩, .string ⟨#[]⟩] 33))
  generalize txt n = t at *
  clear c1 hB0 ht
  go_enter Tryz.func51, Tryz.ntmps51
  go_wp2_with fail
  refine C1.out.mono ?_
  rintro e w2 ⟨rfl, hb⟩
  have z1 := (hb.block w.heap.size (by simp)).trans X.out
  have HB2 := Lib.hid (below_next HB.out hb ⟨rfl, rfl, rfl, rfl⟩)
  obtain ⟨⟨c10, c11, c12⟩, f10, f11, f12⟩ := cells3 z1
  obtain ⟨⟨g10, g11, g12⟩, _⟩ := cells3 (set3 z1 (.string ⟨s.toArray⟩) (.string ⟨#[85, 83, 68]⟩) (.string ⟨t.toArray⟩))
  have hb3 := below_set3 HB2.out (b := w.heap.size) (Nat.le_refl _) (.string ⟨s.toArray⟩) (.string ⟨#[85, 83, 68]⟩) (.string ⟨t.toArray⟩)
  clear z1 hb C1
  go_wp2_with fail
  exact bodyPost_ret (v := .agg #[.string ⟨s.toArray⟩, .string ⟨#[85, 83, 68]⟩, .string ⟨t.toArray⟩]) (by simp [results, Tryz.results51, go_sem, g10, g11, g12]) rfl ⟨rfl, hb3⟩

set_option maxRecDepth 100000 in
set_option maxHeartbeats 1000000 in
theorem Same_any (A B : Option Addr) (n c p d : Nat) (l m : List Ln) (w : World) (hl : rowB.Rds w A n c l) (hm : rowB.Rds w B p d m) (hn : n ≤ 100000) (hp : p ≤ 100000) :
    Calls Tryz.prog 32 #[.slice A n c, .slice B p d] w (BoolPost (decide (l = m)) w) := by
  have CE := Lib.hid (Eq82_any A B n c p d l m w hl hm hn hp)
  generalize decide (l = m) = r at *
  clear hl hm
  go_enter Tryz.func32, Tryz.ntmps32
  go_wp2_with fail
  refine CE.out.mono ?_
  rintro e w2 ⟨rfl, hb⟩
  have HB := Lib.hid hb
  clear hb
  go_wp2_with fail
  go_ret
  exact ⟨rfl, HB.out⟩
end Go.Proofs.YtohdpidlilhnjaaGreatDoor

/- Contracts of slices.Clone at entries, of ledger.Rows. -/
namespace Go.Proofs.YtohdpidlilhnjaaGreatDoor
open Go.RowKit Go.Maps Num

def RetOwn {α : Type} (R : Row α) (l : List α) (w : World) (e : Ending) (w' : World) : Prop := ∃ v, e = .returned v ∧ R.Own w.heap.size w' v l ∧ Below w.heap.size w w'
theorem own_fresh {α : Type} (R : Row α) (w : World) : R.Own w.heap.size (w.alloc (.cells #[] R.E)) (.slice (some ⟨w.heap.size, 0, none⟩) 0 0) [] :=
  World.ownsRow_made w #[] 0 (Nat.le_refl _) (by unfold maxLen; omega) (by simp)
theorem own_bel {α : Type} {R : Row α} {B : Nat} {w W W' : World} {v : Value} {l : List α} (h : R.Own B W v l) (hb : Below w.heap.size w W) (hB : w.heap.size ≤ B) (hg : W.grownBy W' v.ownBlock) : Below w.heap.size w W' :=
  below_own hb (Nat.le_refl _) hg fun k hk => Nat.le_trans hB (h.own k hk).1
set_option maxRecDepth 100000 in
theorem cloneE_any (A : Option Addr) (n c : Nat) (ps : List RE) (w : World) (h : rowE.Rds w A n c ps) (hn : n ≤ 1000) :
    Calls Tryz.prog 38 #[.slice A n c] w (RetOwn rowE ps w) := by
  have H1 := Lib.hid h
  have hB0 := Lib.hid (show Below w.heap.size w (w.alloc (.cells #[] 39)) from (Below.refl _ _).alloc (Nat.le_refl _) _)
  cases A with
  | none =>
    have h0 : n = 0 := by
      rcases Nat.eq_zero_or_pos n with h0 | h0
      · exact h0
      · obtain ⟨b, o, e, _⟩ := h.at_ h0; cases e
    have hp : ps = [] := List.eq_nil_of_length_eq_zero (by rw [h.len]; exact h0)
    subst hp
    clear h H1
    subst h0
    have hnil := fun W => Lib.run_eql_slice_nil (P := Tryz.prog) W 22 39 none 0 c 0 0 Tryz.underlying22
    go_enter Tryz.func38, Tryz.ntmps38
    go_wp2_with fail
    go_ret
    exact ⟨_, rfl, Row.Own.nil _ _, Below.refl _ _⟩
  | some ad =>
    clear h
    have hnil := fun W => Lib.run_eql_slice_nil (P := Tryz.prog) W 22 39 (some ad) n c 0 0 Tryz.underlying22
    go_enter Tryz.func38, Tryz.ntmps38
    go_wp2_with (at_builtin; go_must (refine Row.wp_append rowE_ok rfl (.tmp 5) (.tmp 6) rfl w.heap.size _ [] (w.alloc (.cells #[] 39)) (some ad) n c ps rfl (own_fresh rowE w) rfl (H1.out.below ((Below.refl _ _).alloc (Nat.le_refl _) _)) hB0.out.size (by simp; omega) ?_); intro v' w5 hown' hg' _)
    have HB5 := Lib.hid (own_bel (own_fresh rowE w) hB0.out (Nat.le_refl _) hg')
    have HO := Lib.hid hown'
    clear hg' hown'
    go_wp2_with fail
    go_ret
    exact ⟨_, rfl, HO.out, HB5.out⟩
theorem srt_of {pa qa : List RE} (h : ∀ x ∈ pa.map Prod.snd, okE x = true) (hp : qa.Perm pa) (hs : Srt cE qa) : qa.map Prod.snd = srtE (pa.map Prod.snd) := by
  have h1 : (qa.map Prod.snd).Perm (pa.map Prod.snd) := hp.map _
  have h2 : Srt cmpE (qa.map Prod.snd) := List.Pairwise.map Prod.snd (fun a b h => h) hs
  refine srt_uniq cmpE_cmp h2 (srtE_srt _) (h1.trans (srtE_perm _).symm) ?_
  exact ok_tight fun x hx => h x (h1.mem_iff.1 hx)


def rwI (es : List En) : Int := if es.all okE = true then 0 else 1
def rwL (es : List En) (k : Ky) : List Rw := if es.all okE = true then rowsL es k else []
def RowsC (r : List Rw) (i : Int) (w : World) (e : Ending) (w' : World) : Prop := ∃ v, e = .returned (.tuple #[v, .int .i64 i]) ∧ rowR.Own w.heap.size w' v r ∧ Below w.heap.size w w'
theorem totE_bd {l : List En} (h : ∀ e ∈ l, e.2.2.length ≤ 64 ∧ ∀ x ∈ e.2.2, Sml x) (k : Ky) : (totE l k).natAbs ≤ 64 * l.length * big := by
  induction l with
  | nil => simp [totE]
  | cons e r ih =>
    have h1 := ih fun x hx => h x (by simp [hx])
    have h2 := tot_bd e.2.2 (h e (by simp)).2 k
    have h3 : e.2.2.length * big ≤ 64 * big := Nat.mul_le_mul_right _ (h e (by simp)).1
    rw [totE_cons, List.length_cons, Nat.mul_add, Nat.add_mul]
    omega
structure RwsR (w3 : World) (k : Ky) (l : List En) (v u : Value) (W : World) : Prop where
  out : rowR.Own w3.heap.size W v (rowsE k 0 l)
  run : u = .string ⟨(txt (totE l k)).toArray⟩
  bel : Below w3.heap.size w3 W
theorem map_take_re (qs : List RE) (j : Nat) (h : j < qs.length) : (qs.take (j + 1)).map Prod.snd = (qs.take j).map Prod.snd ++ [(qs.getD j re0).2] := by
  rw [List.take_succ_eq_append_getElem h, List.map_append, List.getD_eq_getElem?_getD, List.getElem?_eq_getElem h]; rfl
set_option maxRecDepth 100000 in
set_option maxHeartbeats 8000000 in
theorem Rows_any (A : Option Addr) (n c : Nat) (ps : List RE) (ka kc : List UInt8) (w : World) (h : Res w A n c ps) (hz : ∀ p ∈ ps, p.2.2.1.length ≤ 1000) (hn : n ≤ 12) (ht : Tab w) (hm : ML w) :
    Calls Tryz.prog 20 #[.slice A n c, .string ⟨ka.toArray⟩, .string ⟨kc.toArray⟩] w (RowsC (rwL (ps.map Prod.snd) (ka, kc)) (rwI (ps.map Prod.snd)) w) := by
  have hlen := h.rds.len
  have HAE := Lib.hid (areEn_any A n c ps w h hz (by omega) ht hm)
  rw [bad_all] at HAE
  have HT := Lib.hid ht
  have HR := Lib.hid h
  have HP := Lib.hid (fun v i W (h1 : rowR.Own w.heap.size W v (rwL (ps.map Prod.snd) (ka, kc))) (h2 : Below w.heap.size w W) (hi : rwI (ps.map Prod.snd) = i) => (show RowsC (rwL (ps.map Prod.snd) (ka, kc)) (rwI (ps.map Prod.snd)) w (.returned (.tuple #[v, .int .i64 i])) W from ⟨v, by rw [hi], h1, h2⟩))
  have HLL := Lib.hid (show rwL (ps.map Prod.snd) (ka, kc) = if (ps.map Prod.snd).all okE = true then rowsL (ps.map Prod.snd) (ka, kc) else [] from rfl)
  have HLI := Lib.hid (show rwI (ps.map Prod.snd) = if (ps.map Prod.snd).all okE = true then 0 else 1 from rfl)
  have c0 := fun W hW => Of_any 0 W (by omega) (by omega) hW
  rw [txt_zero] at c0
  have C0 := Lib.hid c0
  clear h hz ht hm c0
  generalize RowsC (rwL (ps.map Prod.snd) (ka, kc)) (rwI (ps.map Prod.snd)) w = Post at *
  generalize rwI (ps.map Prod.snd) = ri at *
  generalize rwL (ps.map Prod.snd) (ka, kc) = rl at *
  go_enter Tryz.func20, Tryz.ntmps20
  go_wp2_with fail
  refine HAE.out.mono ?_
  rintro e w1 ⟨rfl, hb⟩
  have B1 := Lib.hid hb
  clear hb HAE
  cases hok : (ps.map Prod.snd).all okE
  · have hv := Lib.hid (HP.out (.slice none 0 0) 1 w1 (by rw [HLL.out, hok, if_neg (by simp)]; exact Row.Own.nil _ _) B1.out (by rw [HLI.out, hok, if_neg (by simp)]))
    clear hok HLL HLI HP
    go_wp2_with fail
    exact hv.out
  have HOK := Lib.hid (okL_all.1 hok)
  have hv := Lib.hid (fun v W h1 hb => HP.out v 0 W (by rw [HLL.out, hok, if_pos rfl]; exact h1) hb (by rw [HLI.out, hok, if_pos rfl]))
  clear hok HLL HLI HP
  have HR1 := Lib.hid (HR.out.below B1.out)
  go_wp2_with fail
  refine (cloneE_any A n c ps w1 HR1.out.rds (by omega)).mono ?_
  rintro e w2 ⟨v, rfl, hown, hb⟩
  have B2 := Lib.hid (below_next B1.out hb ⟨rfl, rfl, rfl, rfl⟩)
  have HS := Lib.hid (sortE_any w1.heap.size v w1 w2 ps hown HR1.out.all hb (Nat.le_refl _) (by omega))
  have HW1 := Lib.hid (fun W (hg : w2.grownBy W v.ownBlock) => own_bel hown hb (Nat.le_refl _) hg)
  clear hown hb
  go_wp2_with fail
  refine HS.out.mono ?_
  rintro e w3 ⟨rfl, qs, hp, hs, ho3, hg3⟩
  have B3 := Lib.hid (HW1.out w3 hg3)
  have HQ := Lib.hid (srt_of (fun x hx => HOK.out x hx) hp hs)
  have HQA := Lib.hid (show ∀ q ∈ qs, RdE w3 q ∧ q.2.2.2.length ≤ 64 ∧ ∀ x ∈ q.2.2.2, Sml x from fun q hq => by
    have hq' := (hp.mem_iff).1 hq
    have h1 := HR1.out.all q hq'
    exact ⟨h1.below B3.out, HOK.out.len q.2 (List.mem_map_of_mem hq'), h1.2.2.sml⟩)
  have hql : qs.length = n := by rw [hp.length_eq]; exact hlen
  have HB := Lib.hid (B1.out.trans (B3.out.mono B1.out.size))
  have HT3 := Lib.hid (HT.out.below HB.out)
  obtain ⟨A3, c3, hv3, hrd3⟩ := ho3.rds
  subst hv3
  rw [hql] at hrd3 ⊢
  have HQL := Lib.hid hql
  have HRD := Lib.hid hrd3
  clear HS HW1 hp hs ho3 hg3 B2 B3 HR HR1 HOK B1 HT hrd3 hql hlen
  go_wp2_with fail
  refine (C0.out _ HT3.out).mono ?_
  rintro e w4 ⟨rfl, hb4⟩
  have HB4 := Lib.hid (below_next HB.out hb4 ⟨rfl, rfl, rfl, rfl⟩)
  have HT4 := Lib.hid (HT3.out.below hb4)
  have HRD4 := Lib.hid (HRD.out.below hb4)
  have HQA4 := Lib.hid (show ∀ q ∈ qs, RdE w4 q ∧ q.2.2.2.length ≤ 64 ∧ ∀ x ∈ q.2.2.2, Sml x from fun q hq => ⟨(HQA.out q hq).1.below hb4, (HQA.out q hq).2⟩)
  have hv4 := Lib.hid (fun v W (h1 : rowR.Own w4.heap.size W v (rowsE (ka, kc) 0 (qs.map Prod.snd))) (hb : Below w4.heap.size w4 W) => hv.out v W (by unfold rowsL; rw [← HQ.out]; exact Row.Own.mono h1 HB4.out.size) (HB4.out.trans (hb.mono HB4.out.size)))
  have HBD := Lib.hid (show ∀ j, ((txt (totE ((qs.take j).map Prod.snd) (ka, kc))).length ≤ 110) from fun j => by
    have h1 := totE_bd (l := (qs.take j).map Prod.snd) (fun e he => by
      obtain ⟨q, hq, rfl⟩ := List.mem_map.1 he
      exact (HQA4.out q (List.mem_of_mem_take hq)).2) (ka, kc)
    refine bd_txt4 h1 ?_
    rw [List.length_map, List.length_take]
    have := HQL.out
    omega)
  clear hb4 HB HB4 HT3 HRD HQA hv HQ
  have R0 := Lib.hid (show RwsR w4 (ka, kc) ((qs.take 0).map Prod.snd) (.slice none 0 0) (.string ⟨#[]⟩) w4 from ⟨Row.Own.nil _ _, by rw [List.take_zero, List.map_nil, totE_nil, txt_zero], Below.refl _ _⟩)
  go_wp2_with fail
  go_loopw [24, 9, 10] (fun i v u wr => ∃ j : Nat, j ≤ n ∧ i = .int .i64 (j : Int) ∧ Hid (RwsR w4 (ka, kc) ((qs.take j).map Prod.snd) v u wr)) (fun i _ _ _ => n - (intOf i).toNat)
  case atStart => exact ⟨0, by omega, rfl, R0⟩
  case round =>
    clear R0
    obtain ⟨j, hj, rfl, hR⟩ := hrel
    have hu := hR.out.run
    subst hu
    by_cases hlt : j < n
    · have hjl : j < qs.length := by rw [HQL.out]; exact hlt
      have hmem := getD_mem re0 qs j hjl
      have htk := Lib.hid (map_take_re qs j hjl)
      have hbd := Lib.hid (HBD.out j)
      have hljl := Lib.hid (show ((qs.take j).map Prod.snd).length ≤ 1000 by rw [List.length_map, List.length_take]; omega)
      generalize (qs.take j).map Prod.snd = LJ at *
      obtain ⟨b1, o1, rfl, hb1, _⟩ := HRD4.out.at_ (by omega)
      have q0 := (HRD4.out.below hR.out.bel).cell rowE_ok re0 j 0 _ hlt rfl
      have q1 := (HRD4.out.below hR.out.bel).cell rowE_ok re0 j 1 _ hlt rfl
      have q2 := (HRD4.out.below hR.out.bel).cell rowE_ok re0 j 2 _ hlt rfl
      have hqa := Lib.hid (HQA4.out _ hmem)
      have hji : (j : Int) < (n : Int) := by omega
      generalize qs.getD j re0 = p at *
      obtain ⟨⟨d1, z1, A1, n1, c1⟩, e1, f1, k1⟩ := p
      simp only [rawA, rawN, rawC, Nat.add_zero] at q0 q1 q2
      obtain ⟨⟨h1, h2, h3⟩, h64, hsm⟩ := hqa.out
      simp only [rawA, rawN, rawC] at h1 h2 h3 h64 hsm
      subst h1 h2
      simp only at htk
      have HBA := Lib.hid (hR.out.bel.alloc hR.out.bel.size (.cells #[.int .i64 d1, .string ⟨z1.toArray⟩, .slice A1 n1 c1] 39))
      have HAM0 := Amount_any d1 z1 A1 n1 c1 k1 ka kc (wr.alloc (.cells #[.int .i64 d1, .string ⟨z1.toArray⟩, .slice A1 n1 c1] 39)) (h3.below HBA.out) (HT4.out.below HBA.out)
      unfold enV at HAM0
      have HAM := Lib.hid HAM0
      have HX := Lib.hid (cells3 (heap_alloc_new wr (.cells #[.int .i64 d1, .string ⟨z1.toArray⟩, .slice A1 n1 c1] 39))).1
      obtain ⟨x0, x1, x2⟩ := HX.out
      have lx := block_lt_of_cell x0
      have HO := Lib.hid (hR.out.out.alloc (.cells #[.int .i64 d1, .string ⟨z1.toArray⟩, .slice A1 n1 c1] 39))
      have hbt := Lib.hid (show (txt (tot k1 (ka, kc))).length ≤ 110 from bd_txt4 (tot_bd k1 hsm (ka, kc)) (by omega))
      have hsn := Lib.hid (rowsE_snoc (ka, kc) 0 LJ (d1, z1, k1))
      have hts := Lib.hid (totE_snoc LJ (d1, z1, k1) (ka, kc))
      have hrl := Lib.hid (show (rowsE (ka, kc) 0 LJ).length ≤ 1000 from by
        have := rowsE_len (ka, kc) 0 LJ
        have := hljl.out
        omega)
      clear HAM0 hR h3 hsm h64 hqa hmem hjl
      rw [← htk.out] at hsn hts
      simp only at hsn hts
      clear htk
      go_wp2_with fail
      generalize wr.alloc (.cells #[.int .i64 d1, .string ⟨z1.toArray⟩, .slice A1 n1 c1] 39) = w5 at *
      generalize wr.heap.size = bx at *
      refine HAM.out.mono ?_
      rintro e w6 ⟨rfl, hb6⟩
      have HB6 := Lib.hid (below_next HBA.out hb6 ⟨rfl, rfl, rfl, rfl⟩)
      have y0 := (hb6.cell lx).trans HX.out.1
      have y1 := (hb6.cell (p := ⟨bx, 1, none⟩) lx).trans HX.out.2.1
      have HO6 := Lib.hid (HO.out.below hb6)
      have ly := block_lt_of_cell y0
      clear hb6 HAM x0 x1 x2 HX lx HO HBA q0 q1 q2
      generalize tot k1 (ka, kc) = t at *
      by_cases h0 : t = 0
      · subst h0
        rw [txt_zero] at *
        have RR := Lib.hid (show RwsR w4 (ka, kc) ((qs.take (j + 1)).map Prod.snd) u9 (.string ⟨(txt (totE LJ (ka, kc))).toArray⟩) w6 from ⟨by rw [hsn.out, if_pos rfl, List.append_nil]; exact HO6.out, by rw [hts.out, Int.add_zero], HB6.out⟩)
        clear y0 y1
        go_wp2_with fail
        exact ⟨⟨j + 1, by omega, by go_num, RR⟩, by simp [intOf]; omega⟩
      · have hne : txt t ≠ [] := fun e => h0 (txt_nil.1 e)
        have HADD := Lib.hid (show Calls Tryz.prog 21 #[.string ⟨(txt (totE LJ (ka, kc))).toArray⟩, .string ⟨(txt t).toArray⟩] w6 (StrPost (txt (val (txt (totE LJ (ka, kc))) + val (txt t))) w6) from Add_any ⟨(txt (totE LJ (ka, kc))).toArray⟩ ⟨(txt t).toArray⟩ w6 (by show (txt (totE LJ (ka, kc))).toArray.size ≤ 120; rw [List.size_toArray]; have := hbd.out; omega) (by show (txt t).toArray.size ≤ 120; rw [List.size_toArray]; have := hbt.out; omega) (HT4.out.below HB6.out))
        have hsn2 := Lib.hid (show rowsE (ka, kc) 0 ((qs.take (j + 1)).map Prod.snd) = rowsE (ka, kc) 0 LJ ++ [(d1, z1, txt t, txt (val (txt (totE LJ (ka, kc))) + val (txt t)))] by rw [hsn.out, if_neg h0, val_txt, val_txt, Int.zero_add])
        have hts2 := Lib.hid (show txt (totE ((qs.take (j + 1)).map Prod.snd) (ka, kc)) = txt (val (txt (totE LJ (ka, kc))) + val (txt t)) by rw [hts.out, val_txt, val_txt])
        clear hsn hts hbd hbt h0
        generalize txt (totE LJ (ka, kc)) = ru at *
        rcases hm : txt t with _ | ⟨m0, mr⟩
        · exact absurd hm hne
        rw [hm] at HADD hsn2 hts2
        clear hne hm
        generalize txt (val ru + val (m0 :: mr)) = ru2 at *
        go_wp2_with fail
        refine HADD.out.mono ?_
        rintro e w7 ⟨rfl, hb7⟩
        have HB7 := Lib.hid (below_next HB6.out hb7 ⟨rfl, rfl, rfl, rfl⟩)
        have HO7 := Lib.hid (HO6.out.below hb7)
        have z0 := (hb7.cell ly).trans y0
        have z1' := (hb7.cell (p := ⟨bx, 1, none⟩) ly).trans y1
        have lz := block_lt_of_cell z0
        clear hb7 HADD y0 y1 ly HO6 HB6
        go_wp2_with (first
          | (at_builtin; refine Row.wp_append1 rowR_ok rfl (.tmp 37) (.tmp 45) rfl w4.heap.size _ (rowsE (ka, kc) 0 LJ) w7 (d1, z1, m0 :: mr, ru2) _ _ rfl rfl rfl HO7.out rfl HB7.out.size (by have := hrl.out; omega) ?_; intro v8 w9 ho8 hg8 _; have RR := Lib.hid (show RwsR w4 (ka, kc) ((qs.take (j + 1)).map Prod.snd) v8 (.string ⟨ru2.toArray⟩) w9 from ⟨by rw [hsn2.out]; exact ho8, by rw [hts2.out], below_own HB7.out (Nat.le_refl _) hg8 (fun g e => (HO7.out.own g e).1)⟩); clear ho8 hg8)
          | fail)
        exact ⟨⟨j + 1, by omega, by go_num, RR⟩, by simp [intOf]; omega⟩
    · have hjn : j = n := by omega
      subst hjn
      have hji : ¬ (j : Int) < (j : Int) := by omega
      have e : qs.take j = qs := List.take_of_length_le (by rw [HQL.out]; exact Nat.le_refl _)
      have hO := hR.out.out
      rw [e] at hO
      have HO := Lib.hid (hv4.out _ wr hO hR.out.bel)
      clear hR hO e
      go_wp2_with fail
      exact HO.out
end Go.Proofs.YtohdpidlilhnjaaGreatDoor

/- The numbers of the laws' awake. -/
namespace Go.Proofs.YtohdpidlilhnjaaGreatDoor
open Go.RowKit Go.Maps Num

def kBank : List UInt8 := [49, 46, 98, 97, 110, 107, 46, 97]
def kBnk : List UInt8 := [49, 46, 98, 97, 110, 107]
def kOne : List UInt8 := [49]
def kThree : List UInt8 := [51]
def kCash : List UInt8 := [49, 46, 99, 97, 115, 104]
def kCap : List UInt8 := [51, 46, 99, 97, 112, 105, 116, 97, 108]
def cUsd : List UInt8 := [85, 83, 68]
theorem dig1 (n : Nat) (h : 0 < n) (h2 : n < 10) : dig n = [UInt8.ofNat (48 + n)] := by
  rw [dig_pos (by omega), show n / 10 = 0 by omega, dig_zero, show n % 10 = n by omega]; rfl
theorem dig10 : dig 10 = [49, 48] := by
  rw [dig_pos (by omega), show 10 / 10 = 1 from rfl, dig1 1 (by omega) (by omega)]; rfl
theorem txt4 : txt 4 = [52] := by unfold txt; rw [if_neg (by omega)]; exact dig1 4 (by omega) (by omega)
theorem txt6 : txt 6 = [54] := by unfold txt; rw [if_neg (by omega)]; exact dig1 6 (by omega) (by omega)
theorem txt10 : txt 10 = [49, 48] := by unfold txt; rw [if_neg (by omega)]; exact dig10
theorem txtm4 : txt (-4) = [45, 52] := by unfold txt; rw [if_pos (by omega)]; show 45 :: dig 4 = _; rw [dig1 4 (by omega) (by omega)]; rfl
theorem txtm10 : txt (-10) = [45, 49, 48] := by unfold txt; rw [if_pos (by omega)]; show 45 :: dig 10 = _; rw [dig10]
theorem v4 : val [52] = 4 := by have := val_txt 4; rwa [txt4] at this
theorem v6 : val [54] = 6 := by have := val_txt 6; rwa [txt6] at this
theorem v10 : val [49, 48] = 10 := by have := val_txt 10; rwa [txt10] at this
theorem vm4 : val [45, 52] = -4 := by have := val_txt (-4); rwa [txtm4] at this
theorem vm10 : val [45, 49, 48] = -10 := by have := val_txt (-10); rwa [txtm10] at this
def aA : Ln := (kBank, cUsd, [52])
def aB : Ln := (kCash, cUsd, [45, 52])
def aC : Ln := (kCash, cUsd, [49, 48])
def aD : Ln := (kCap, cUsd, [45, 49, 48])
def aE : Ln := (kCash, cUsd, [54])
def rA : Ln := (kOne, cUsd, [49, 48])
def rB : Ln := (kBnk, cUsd, [52])
def rC : Ln := (kThree, cUsd, [45, 49, 48])
def eA : En := (7, [98], [aA, aB])
def eB : En := (5, [97], [aC, aD])
theorem chkT {l : List UInt8} {v : Int} (h : txt v = l) : chkI l = 0 := by
  unfold chkI; rw [if_pos]; unfold can; rw [← h, val_txt]
theorem codes : codeB kBank = true ∧ codeB kBnk = true ∧ codeB kOne = true ∧ codeB kThree = true ∧ codeB kCash = true ∧ codeB kCap = true ∧ curB cUsd = true := by decide
theorem lineU {a m : List UInt8} (h : codeB a = true) (hm : chkI m = 0) : lineI (a, cUsd, m) = 0 := by unfold lineI; rw [h, codes.2.2.2.2.2.2]; exact hm
theorem lnA : lineI aA = 0 := lineU codes.1 (chkT txt4)
theorem lnB : lineI aB = 0 := lineU codes.2.2.2.2.1 (chkT txtm4)
theorem lnC : lineI aC = 0 := lineU codes.2.2.2.2.1 (chkT txt10)
theorem lnD : lineI aD = 0 := lineU codes.2.2.2.2.2.1 (chkT txtm10)
theorem lnE : lineI aE = 0 := lineU codes.2.2.2.2.1 (chkT txt6)
theorem lrA : lineI rA = 0 := lineU codes.2.2.1 (chkT txt10)
theorem lrB : lineI rB = 0 := lineU codes.2.1 (chkT txt4)
theorem lrC : lineI rC = 0 := lineU codes.2.2.2.1 (chkT txtm10)
theorem ordKys : [(kOne, cUsd), (kBnk, cUsd), (kBank, cUsd), (kCash, cUsd), (kThree, cUsd), (kCap, cUsd)].Pairwise (fun a b => cmpKy a b = -1) := by decide
theorem ord_of {l : List Ln} (h : (l.map key).Pairwise fun a b => cmpKy a b = -1) : OrdL l := by
  rw [List.pairwise_map] at h; exact h
theorem okEA : okE eA = true := by
  refine decide_eq_true (chkE_iff.2 ⟨by decide, by decide, by decide, ?_, ord_of (by decide), ?_⟩)
  · intro x hx
    simp only [eA, List.mem_cons, List.not_mem_nil, or_false] at hx
    rcases hx with rfl | rfl
    · exact ⟨lnA, by decide⟩
    · exact ⟨lnB, by decide⟩
  · rw [balB_iff]
    intro c
    show curT [aA, aB] c = 0
    rw [curT_cons, curT_cons]
    show (if cUsd = c then val [52] else 0) + ((if cUsd = c then val [45, 52] else 0) + 0) = 0
    rw [v4, vm4]; split <;> omega
theorem okEB : okE eB = true := by
  refine decide_eq_true (chkE_iff.2 ⟨by decide, by decide, by decide, ?_, ord_of (by decide), ?_⟩)
  · intro x hx
    simp only [eB, List.mem_cons, List.not_mem_nil, or_false] at hx
    rcases hx with rfl | rfl
    · exact ⟨lnC, by decide⟩
    · exact ⟨lnD, by decide⟩
  · rw [balB_iff]
    intro c
    show curT [aC, aD] c = 0
    rw [curT_cons, curT_cons]
    show (if cUsd = c then val [49, 48] else 0) + ((if cUsd = c then val [45, 49, 48] else 0) + 0) = 0
    rw [v10, vm10]; split <;> omega
def awT : List Ln := [aA, aE, aD]
def awR : List Ln := [rA, rB, aA, aE, rC, aD]
theorem canAll {l : List Ln} (h : ∀ x ∈ l, lineI x = 0) : ∀ x ∈ l, canB x = true := fun x hx => (lineI_iff.1 (h x hx)).2.2
theorem awT_ln : ∀ x ∈ awT, lineI x = 0 := fun x hx => by
  simp only [awT, List.mem_cons, List.not_mem_nil, or_false] at hx
  rcases hx with rfl | rfl | rfl
  · exact lnA
  · exact lnE
  · exact lnD
theorem awR_ln : ∀ x ∈ awR, lineI x = 0 := fun x hx => by
  simp only [awR, List.mem_cons, List.not_mem_nil, or_false] at hx
  rcases hx with rfl | rfl | rfl | rfl | rfl | rfl
  · exact lrA
  · exact lrB
  · exact lnA
  · exact lnE
  · exact lrC
  · exact lnD
theorem awT_list : listB awT = true := listB_iff.2 ⟨fun x hx => ⟨awT_ln x hx, by
  simp only [awT, List.mem_cons, List.not_mem_nil, or_false] at hx
  rcases hx with rfl | rfl | rfl <;> decide⟩, ord_of (by decide)⟩
theorem awR_list : listB awR = true := listB_iff.2 ⟨fun x hx => ⟨awR_ln x hx, by
  simp only [awR, List.mem_cons, List.not_mem_nil, or_false] at hx
  rcases hx with rfl | rfl | rfl | rfl | rfl | rfl <;> decide⟩, ord_of (by decide)⟩
theorem flatW : flat [eA, eB] (fun x => decide (x ≤ 7)) = [aA, aB, aC, aD] := by decide
theorem trW : trL [eA, eB] 7 = awT := by
  have hall : [eA, eB].all okE = true := by rw [List.all_cons, List.all_cons, okEA, okEB]; rfl
  unfold trL
  rw [if_pos ⟨hall, by decide⟩, flatW, ← listB_nrm awT_list]
  refine nrmL_tot (canAll fun x hx => ?_) (canAll awT_ln) fun k => ?_
  · simp only [List.mem_cons, List.not_mem_nil, or_false] at hx
    rcases hx with rfl | rfl | rfl | rfl
    · exact lnA
    · exact lnB
    · exact lnC
    · exact lnD
  · unfold awT
    simp only [tot_cons, tot_nil]
    show (if (kBank, cUsd) = k then val [52] else 0) + ((if (kCash, cUsd) = k then val [45, 52] else 0) + ((if (kCash, cUsd) = k then val [49, 48] else 0) + ((if (kCap, cUsd) = k then val [45, 49, 48] else 0) + 0))) = (if (kBank, cUsd) = k then val [52] else 0) + ((if (kCash, cUsd) = k then val [54] else 0) + ((if (kCap, cUsd) = k then val [45, 49, 48] else 0) + 0))
    rw [v4, vm4, v10, vm10, v6]
    by_cases h1 : (kBank, cUsd) = k <;> by_cases h2 : (kCash, cUsd) = k <;> by_cases h3 : (kCap, cUsd) = k <;> simp only [h1, h2, h3, if_true, if_false] <;> omega
theorem triW : trI [eA, eB] 7 = 0 := by
  have hall : [eA, eB].all okE = true := by rw [List.all_cons, List.all_cons, okEA, okEB]; rfl
  unfold trI
  rw [if_neg (by rw [hall]; decide), if_neg (by decide)]
theorem upsW : ups kBank = [kBank, kBnk, kOne] ∧ ups kCash = [kCash, kOne] ∧ ups kCap = [kCap, kThree] := by decide +kernel
theorem rollW : rollN awT = awR := by
  unfold rollN
  have e : roll awT = [(kBank, cUsd, [52]), (kBnk, cUsd, [52]), (kOne, cUsd, [52]), (kCash, cUsd, [54]), (kOne, cUsd, [54]), (kCap, cUsd, [45, 49, 48]), (kThree, cUsd, [45, 49, 48])] := by
    unfold awT
    rw [roll_cons, roll_cons, roll_cons, roll_nil]
    unfold upL
    show (ups kBank).map _ ++ ((ups kCash).map _ ++ ((ups kCap).map _ ++ [])) = _
    rw [upsW.1, upsW.2.1, upsW.2.2]; rfl
  rw [e, ← listB_nrm awR_list]
  refine nrmL_tot (canAll fun x hx => ?_) (canAll awR_ln) fun k => ?_
  · simp only [List.mem_cons, List.not_mem_nil, or_false] at hx
    rcases hx with rfl | rfl | rfl | rfl | rfl | rfl | rfl
    · exact lineU codes.1 (chkT txt4)
    · exact lineU codes.2.1 (chkT txt4)
    · exact lineU codes.2.2.1 (chkT txt4)
    · exact lineU codes.2.2.2.2.1 (chkT txt6)
    · exact lineU codes.2.2.1 (chkT txt6)
    · exact lineU codes.2.2.2.2.2.1 (chkT txtm10)
    · exact lineU codes.2.2.2.1 (chkT txtm10)
  · unfold awR
    simp only [tot_cons, tot_nil]
    show (if (kBank, cUsd) = k then val [52] else 0) + ((if (kBnk, cUsd) = k then val [52] else 0) + ((if (kOne, cUsd) = k then val [52] else 0) + ((if (kCash, cUsd) = k then val [54] else 0) + ((if (kOne, cUsd) = k then val [54] else 0) + ((if (kCap, cUsd) = k then val [45, 49, 48] else 0) + ((if (kThree, cUsd) = k then val [45, 49, 48] else 0) + 0)))))) =
      (if (kOne, cUsd) = k then val [49, 48] else 0) + ((if (kBnk, cUsd) = k then val [52] else 0) + ((if (kBank, cUsd) = k then val [52] else 0) + ((if (kCash, cUsd) = k then val [54] else 0) + ((if (kThree, cUsd) = k then val [45, 49, 48] else 0) + ((if (kCap, cUsd) = k then val [45, 49, 48] else 0) + 0)))))
    rw [v4, v10, vm10, v6]
    generalize (if (kBank, cUsd) = k then (4 : Int) else 0) = x1
    generalize (if (kBnk, cUsd) = k then (4 : Int) else 0) = x2
    generalize (if (kCash, cUsd) = k then (6 : Int) else 0) = x4
    generalize (if (kCap, cUsd) = k then (-10 : Int) else 0) = x5
    generalize (if (kThree, cUsd) = k then (-10 : Int) else 0) = x6
    split <;> omega


theorem srtW : srtE [eA, eB] = [eB, eA] := by
  have hok : ∀ x ∈ [eA, eB], okE x = true := fun x hx => by
    simp only [List.mem_cons, List.not_mem_nil, or_false] at hx
    rcases hx with rfl | rfl
    · exact okEA
    · exact okEB
  refine srt_uniq cmpE_cmp (srtE_srt _) ?_ ((srtE_perm _).trans (List.Perm.swap _ _ _)) (ok_tight fun x hx => hok x ((srtE_perm _).mem_iff.1 hx))
  refine List.pairwise_cons.2 ⟨fun z hz => ?_, List.pairwise_singleton _ _⟩
  rw [List.mem_singleton.1 hz]
  decide
def awRow : List Rw := [(5, [97], [49, 48], [49, 48]), (7, [98], [45, 52], [54])]
theorem rowsW : rowsL [eA, eB] (kCash, cUsd) = awRow := by
  unfold rowsL
  rw [srtW]
  have e1 : tot eB.2.2 (kCash, cUsd) = 10 := by
    show tot [aC, aD] (kCash, cUsd) = 10
    rw [tot_cons, tot_cons, tot_nil, if_pos (by decide), if_neg (by decide)]
    show val [49, 48] + (0 + 0) = 10
    rw [v10]; rfl
  have e2 : tot eA.2.2 (kCash, cUsd) = -4 := by
    show tot [aA, aB] (kCash, cUsd) = -4
    rw [tot_cons, tot_cons, tot_nil, if_neg (by decide), if_pos (by decide)]
    show 0 + (val [45, 52] + 0) = -4
    rw [vm4]; rfl
  rw [rowsE, e1, if_neg (by decide), rowsE, e2, if_neg (by decide), rowsE, show (0 : Int) + 10 = 10 from rfl, show (10 : Int) + -4 = 6 from rfl, txt10, txtm4, txt6]
  rfl
end Go.Proofs.YtohdpidlilhnjaaGreatDoor

/- Contract of the ledger laws' awake (printed by gen_aw43.py). -/
namespace Go.Proofs.YtohdpidlilhnjaaGreatDoor
open Go.RowKit Go.Maps Num

theorem rds_block {α : Type} {R : Row α} {W : World} {b : Nat} {cs : Array Value} {E : TypeId} (l : List α) (h : W.heap[b]? = some (.cells cs E)) (hcs : cs = (R.vs l).toArray) (hm : l.length ≤ maxLen) : R.Rds W (some ⟨b, 0, none⟩) l.length l.length l :=
  ⟨rfl, Nat.le_refl _, hm, fun _ => by
    refine ⟨b, 0, rfl, some_lt h, fun j u hu => ?_⟩
    rw [Nat.zero_add, cell_of_row _ _ _ _ _ _ h, hcs, ← hu]
    simp⟩
theorem smU {a m : List UInt8} (h : a.length ≤ 1000) (hm : m.length ≤ 100) : Sml (a, cUsd, m) := ⟨h, (by decide : cUsd.length ≤ 1000), hm⟩
theorem c50kBank4 (w : World) (ht : Tab w) : Calls Tryz.prog 50 #[.string ⟨#[49, 46, 98, 97, 110, 107, 46, 97]⟩, .int .i64 (4)] w fun e w' => e = .returned (.agg #[.string ⟨#[49, 46, 98, 97, 110, 107, 46, 97]⟩, .string ⟨#[85, 83, 68]⟩, .string ⟨#[52]⟩]) ∧ Below w.heap.size w w' := by
  have h := line_any kBank (4) w (by decide) (by decide) ht
  rw [txt4] at h; exact h
theorem c50kCashm4 (w : World) (ht : Tab w) : Calls Tryz.prog 50 #[.string ⟨#[49, 46, 99, 97, 115, 104]⟩, .int .i64 (-4)] w fun e w' => e = .returned (.agg #[.string ⟨#[49, 46, 99, 97, 115, 104]⟩, .string ⟨#[85, 83, 68]⟩, .string ⟨#[45, 52]⟩]) ∧ Below w.heap.size w w' := by
  have h := line_any kCash (-4) w (by decide) (by decide) ht
  rw [txtm4] at h; exact h
theorem c50kCash10 (w : World) (ht : Tab w) : Calls Tryz.prog 50 #[.string ⟨#[49, 46, 99, 97, 115, 104]⟩, .int .i64 (10)] w fun e w' => e = .returned (.agg #[.string ⟨#[49, 46, 99, 97, 115, 104]⟩, .string ⟨#[85, 83, 68]⟩, .string ⟨#[49, 48]⟩]) ∧ Below w.heap.size w w' := by
  have h := line_any kCash (10) w (by decide) (by decide) ht
  rw [txt10] at h; exact h
theorem c50kCapm10 (w : World) (ht : Tab w) : Calls Tryz.prog 50 #[.string ⟨#[51, 46, 99, 97, 112, 105, 116, 97, 108]⟩, .int .i64 (-10)] w fun e w' => e = .returned (.agg #[.string ⟨#[51, 46, 99, 97, 112, 105, 116, 97, 108]⟩, .string ⟨#[85, 83, 68]⟩, .string ⟨#[45, 49, 48]⟩]) ∧ Below w.heap.size w w' := by
  have h := line_any kCap (-10) w (by decide) (by decide) ht
  rw [txtm10] at h; exact h
theorem c51kBank4 (w : World) (ht : Tab w) : Calls Tryz.prog 51 #[.string ⟨#[49, 46, 98, 97, 110, 107, 46, 97]⟩, .int .i64 (4)] w fun e w' => e = .returned (.agg #[.string ⟨#[49, 46, 98, 97, 110, 107, 46, 97]⟩, .string ⟨#[85, 83, 68]⟩, .string ⟨#[52]⟩]) ∧ Below w.heap.size w w' := by
  have h := usd_any kBank (4) w (by decide) (by decide) ht
  rw [txt4] at h; exact h
theorem c51kCash6 (w : World) (ht : Tab w) : Calls Tryz.prog 51 #[.string ⟨#[49, 46, 99, 97, 115, 104]⟩, .int .i64 (6)] w fun e w' => e = .returned (.agg #[.string ⟨#[49, 46, 99, 97, 115, 104]⟩, .string ⟨#[85, 83, 68]⟩, .string ⟨#[54]⟩]) ∧ Below w.heap.size w w' := by
  have h := usd_any kCash (6) w (by decide) (by decide) ht
  rw [txt6] at h; exact h
theorem c51kCapm10 (w : World) (ht : Tab w) : Calls Tryz.prog 51 #[.string ⟨#[51, 46, 99, 97, 112, 105, 116, 97, 108]⟩, .int .i64 (-10)] w fun e w' => e = .returned (.agg #[.string ⟨#[51, 46, 99, 97, 112, 105, 116, 97, 108]⟩, .string ⟨#[85, 83, 68]⟩, .string ⟨#[45, 49, 48]⟩]) ∧ Below w.heap.size w w' := by
  have h := usd_any kCap (-10) w (by decide) (by decide) ht
  rw [txtm10] at h; exact h
theorem c51kOne10 (w : World) (ht : Tab w) : Calls Tryz.prog 51 #[.string ⟨#[49]⟩, .int .i64 (10)] w fun e w' => e = .returned (.agg #[.string ⟨#[49]⟩, .string ⟨#[85, 83, 68]⟩, .string ⟨#[49, 48]⟩]) ∧ Below w.heap.size w w' := by
  have h := usd_any kOne (10) w (by decide) (by decide) ht
  rw [txt10] at h; exact h
theorem c51kBnk4 (w : World) (ht : Tab w) : Calls Tryz.prog 51 #[.string ⟨#[49, 46, 98, 97, 110, 107]⟩, .int .i64 (4)] w fun e w' => e = .returned (.agg #[.string ⟨#[49, 46, 98, 97, 110, 107]⟩, .string ⟨#[85, 83, 68]⟩, .string ⟨#[52]⟩]) ∧ Below w.heap.size w w' := by
  have h := usd_any kBnk (4) w (by decide) (by decide) ht
  rw [txt4] at h; exact h
theorem c51kThreem10 (w : World) (ht : Tab w) : Calls Tryz.prog 51 #[.string ⟨#[51]⟩, .int .i64 (-10)] w fun e w' => e = .returned (.agg #[.string ⟨#[51]⟩, .string ⟨#[85, 83, 68]⟩, .string ⟨#[45, 49, 48]⟩]) ∧ Below w.heap.size w w' := by
  have h := usd_any kThree (-10) w (by decide) (by decide) ht
  rw [txtm10] at h; exact h
theorem awT_sml : ∀ x ∈ awT, Sml x := fun x hx => by
  simp only [awT, List.mem_cons, List.not_mem_nil, or_false] at hx
  rcases hx with rfl | rfl | rfl <;> exact smU (by decide) (by decide)
theorem aw12_sml {x : Ln} (h : x = aA ∨ x = aB ∨ x = aC ∨ x = aD) : Sml x := by
  rcases h with rfl | rfl | rfl | rfl <;> exact smU (by decide) (by decide)
/-- awake's two entries in memory -/
theorem aw_res {W : World} {b1 b2 b3 : Nat} (h1 : W.heap[b1]? = some (.cells #[.string ⟨#[49, 46, 98, 97, 110, 107, 46, 97]⟩, .string ⟨#[85, 83, 68]⟩, .string ⟨#[52]⟩, .string ⟨#[49, 46, 99, 97, 115, 104]⟩, .string ⟨#[85, 83, 68]⟩, .string ⟨#[45, 52]⟩] 40)) (h2 : W.heap[b2]? = some (.cells #[.string ⟨#[49, 46, 99, 97, 115, 104]⟩, .string ⟨#[85, 83, 68]⟩, .string ⟨#[49, 48]⟩, .string ⟨#[51, 46, 99, 97, 112, 105, 116, 97, 108]⟩, .string ⟨#[85, 83, 68]⟩, .string ⟨#[45, 49, 48]⟩] 40))
    (h3 : W.heap[b3]? = some (.cells #[.int .i64 7, .string ⟨#[98]⟩, .slice (some ⟨b1, 0, none⟩) 2 2, .int .i64 5, .string ⟨#[97]⟩, .slice (some ⟨b2, 0, none⟩) 2 2] 39)) :
    Res W (some ⟨b3, 0, none⟩) 2 2 [((7, [98], some ⟨b1, 0, none⟩, 2, 2), eA), ((5, [97], some ⟨b2, 0, none⟩, 2, 2), eB)] := by
  have r1 := Lns.of_rds (rds_block (R := rowL) [aA, aB] h1 rfl (by decide)) (by decide) (fun x hx => by
    simp only [List.mem_cons, List.not_mem_nil, or_false] at hx
    rcases hx with rfl | rfl
    · exact aw12_sml (.inl rfl)
    · exact aw12_sml (.inr (.inl rfl)))
  have r2 := Lns.of_rds (rds_block (R := rowL) [aC, aD] h2 rfl (by decide)) (by decide) (fun x hx => by
    simp only [List.mem_cons, List.not_mem_nil, or_false] at hx
    rcases hx with rfl | rfl
    · exact aw12_sml (.inr (.inr (.inl rfl)))
    · exact aw12_sml (.inr (.inr (.inr rfl))))
  refine ⟨rds_block (R := rowE) [((7, [98], some ⟨b1, 0, none⟩, 2, 2), eA), ((5, [97], some ⟨b2, 0, none⟩, 2, 2), eB)] h3 rfl (by show 2 ≤ maxLen; decide), fun p hp => ?_⟩
  simp only [List.mem_cons, List.not_mem_nil, or_false] at hp
  rcases hp with rfl | rfl
  · exact ⟨rfl, rfl, r1⟩
  · exact ⟨rfl, rfl, r2⟩

theorem Below.al' {w W : World} (h : Below w.heap.size w W) (o : Obj) : Below w.heap.size w (W.alloc o) := h.alloc h.size o
theorem aw_ent {W : World} {b1 b2 H : Nat} (h1 : W.heap[b1]? = some (.cells #[.string ⟨#[49, 46, 98, 97, 110, 107, 46, 97]⟩, .string ⟨#[85, 83, 68]⟩, .string ⟨#[52]⟩, .string ⟨#[49, 46, 99, 97, 115, 104]⟩, .string ⟨#[85, 83, 68]⟩, .string ⟨#[45, 52]⟩] 40)) (h2 : W.heap[b2]? = some (.cells #[.string ⟨#[49, 46, 99, 97, 115, 104]⟩, .string ⟨#[85, 83, 68]⟩, .string ⟨#[49, 48]⟩, .string ⟨#[51, 46, 99, 97, 112, 105, 116, 97, 108]⟩, .string ⟨#[85, 83, 68]⟩, .string ⟨#[45, 49, 48]⟩] 40)) (hH : W.heap.size = H) :
    Res (W.alloc (.cells #[.int .i64 7, .string ⟨#[98]⟩, .slice (some ⟨b1, 0, none⟩) 2 2, .int .i64 5, .string ⟨#[97]⟩, .slice (some ⟨b2, 0, none⟩) 2 2] 39)) (some ⟨H, 0, none⟩) 2 2 [((7, [98], some ⟨b1, 0, none⟩, 2, 2), eA), ((5, [97], some ⟨b2, 0, none⟩, 2, 2), eB)] := by
  subst hH
  have hx := (Below.refl W.heap.size W).alloc (Nat.le_refl _) (.cells #[.int .i64 7, .string ⟨#[98]⟩, .slice (some ⟨b1, 0, none⟩) 2 2, .int .i64 5, .string ⟨#[97]⟩, .slice (some ⟨b2, 0, none⟩) 2 2] 39)
  exact aw_res ((hx.block b1 (some_lt h1)).trans h1) ((hx.block b2 (some_lt h2)).trans h2) (heap_alloc_new W _)
theorem trA {W : World} {b1 b2 b3 : Nat} (h : Res W (some ⟨b3, 0, none⟩) 2 2 [((7, [98], some ⟨b1, 0, none⟩, 2, 2), eA), ((5, [97], some ⟨b2, 0, none⟩, 2, 2), eB)]) (ht : Tab W) (hm : ML W) : Calls Tryz.prog 14 #[.slice (some ⟨b3, 0, none⟩) 2 2, .int .i64 7] W (ListC awT 0 W) := by
  have h1 := Trial_any _ 2 2 _ 7 W h (by simp [eA, eB]) (by decide) ht hm
  simp only [List.map_cons, List.map_nil] at h1
  rw [trW, triW] at h1
  exact h1
theorem roA {W : World} {A : Option Addr} {c : Nat} (h : rowB.Rds W A 3 c awT) (ht : Tab W) (hm : ML W) : Calls Tryz.prog 22 #[.slice A 3 c] W (ListC awR 0 W) := by
  have h1 := Rollup_any A 3 c awT W h awT_sml (by decide) ht hm
  rw [show rolL awT = awR by unfold rolL; rw [if_pos awT_list, rollW], show rolI awT = 0 by unfold rolI; rw [if_pos awT_list]] at h1
  exact h1
theorem rwA {W : World} {b1 b2 b3 : Nat} (h : Res W (some ⟨b3, 0, none⟩) 2 2 [((7, [98], some ⟨b1, 0, none⟩, 2, 2), eA), ((5, [97], some ⟨b2, 0, none⟩, 2, 2), eB)]) (ht : Tab W) (hm : ML W) : Calls Tryz.prog 20 #[.slice (some ⟨b3, 0, none⟩) 2 2, .string ⟨#[49, 46, 99, 97, 115, 104]⟩, .string ⟨#[85, 83, 68]⟩] W (RowsC awRow 0 W) := by
  have h1 := Rows_any _ 2 2 _ kCash cUsd W h (by simp [eA, eB]) (by decide) ht hm
  simp only [List.map_cons, List.map_nil] at h1
  have hall : [eA, eB].all okE = true := by rw [List.all_cons, List.all_cons, okEA, okEB]; rfl
  rw [show rwL [eA, eB] (kCash, cUsd) = awRow by unfold rwL; rw [if_pos hall, rowsW], show rwI [eA, eB] = 0 by unfold rwI; rw [if_pos hall]] at h1
  exact h1
set_option maxRecDepth 100000 in
set_option maxHeartbeats 4000000 in
theorem awake_any (w : World) (ht : Tab w) (hm : ML w) : Calls Tryz.prog 13 #[] w (BoolPost true w) := by
  have HT := Lib.hid ht
  have HM := Lib.hid hm
  have HP := Lib.hid (fun W (h : Below w.heap.size w W) => (show BoolPost true w (.returned (.bool true)) W from ⟨rfl, h⟩))
  have hz : Below w.heap.size w w := Below.refl _ _
  have B0 := Lib.hid hz
  clear ht hm hz
  generalize BoolPost true w = Post at *
  go_enter Tryz.func13, Tryz.ntmps13
  go_wp2_with fail
  refine (c50kBank4 _ (HT.out.below B0.out)).mono ?_
  rintro e w1 ⟨rfl, hb⟩
  have B1 := Lib.hid (below_next B0.out hb ⟨rfl, rfl, rfl, rfl⟩)
  clear hb B0
  go_wp2_with fail
  refine (c50kCashm4 _ (HT.out.below B1.out)).mono ?_
  rintro e w2 ⟨rfl, hb⟩
  have B2 := Lib.hid (below_next B1.out hb ⟨rfl, rfl, rfl, rfl⟩)
  clear hb B1
  go_wp2_with fail
  have BA := Lib.hid (Below.al' B2.out (.cells #[.string ⟨#[49, 46, 98, 97, 110, 107, 46, 97]⟩, .string ⟨#[85, 83, 68]⟩, .string ⟨#[52]⟩, .string ⟨#[49, 46, 99, 97, 115, 104]⟩, .string ⟨#[85, 83, 68]⟩, .string ⟨#[45, 52]⟩] 40))
  have Z1 := heap_alloc_new w2 (.cells #[.string ⟨#[49, 46, 98, 97, 110, 107, 46, 97]⟩, .string ⟨#[85, 83, 68]⟩, .string ⟨#[52]⟩, .string ⟨#[49, 46, 99, 97, 115, 104]⟩, .string ⟨#[85, 83, 68]⟩, .string ⟨#[45, 52]⟩] 40)
  clear B2
  generalize w2.alloc (.cells #[.string ⟨#[49, 46, 98, 97, 110, 107, 46, 97]⟩, .string ⟨#[85, 83, 68]⟩, .string ⟨#[52]⟩, .string ⟨#[49, 46, 99, 97, 115, 104]⟩, .string ⟨#[85, 83, 68]⟩, .string ⟨#[45, 52]⟩] 40) = wA at *
  generalize w2.heap.size = b1 at *
  refine (c50kCash10 _ (HT.out.below BA.out)).mono ?_
  rintro e w3 ⟨rfl, hb⟩
  have B3 := Lib.hid (below_next BA.out hb ⟨rfl, rfl, rfl, rfl⟩)
  have Z2 := (hb.block b1 (some_lt Z1)).trans Z1
  clear hb BA Z1
  go_wp2_with fail
  refine (c50kCapm10 _ (HT.out.below B3.out)).mono ?_
  rintro e w4 ⟨rfl, hb⟩
  have B4 := Lib.hid (below_next B3.out hb ⟨rfl, rfl, rfl, rfl⟩)
  have Z3 := (hb.block b1 (some_lt Z2)).trans Z2
  clear hb B3 Z2
  have hx := (Below.refl w4.heap.size w4).alloc (Nat.le_refl _) (.cells #[.string ⟨#[49, 46, 99, 97, 115, 104]⟩, .string ⟨#[85, 83, 68]⟩, .string ⟨#[49, 48]⟩, .string ⟨#[51, 46, 99, 97, 112, 105, 116, 97, 108]⟩, .string ⟨#[85, 83, 68]⟩, .string ⟨#[45, 49, 48]⟩] 40)
  have BB := Lib.hid (Below.al' B4.out (.cells #[.string ⟨#[49, 46, 99, 97, 115, 104]⟩, .string ⟨#[85, 83, 68]⟩, .string ⟨#[49, 48]⟩, .string ⟨#[51, 46, 99, 97, 112, 105, 116, 97, 108]⟩, .string ⟨#[85, 83, 68]⟩, .string ⟨#[45, 49, 48]⟩] 40))
  have Y1 := heap_alloc_new w4 (.cells #[.string ⟨#[49, 46, 99, 97, 115, 104]⟩, .string ⟨#[85, 83, 68]⟩, .string ⟨#[49, 48]⟩, .string ⟨#[51, 46, 99, 97, 112, 105, 116, 97, 108]⟩, .string ⟨#[85, 83, 68]⟩, .string ⟨#[45, 49, 48]⟩] 40)
  have Z4 := (hx.block b1 (some_lt Z3)).trans Z3
  clear hx B4 Z3
  have hsB : (w4.alloc (.cells #[.string ⟨#[49, 46, 99, 97, 115, 104]⟩, .string ⟨#[85, 83, 68]⟩, .string ⟨#[49, 48]⟩, .string ⟨#[51, 46, 99, 97, 112, 105, 116, 97, 108]⟩, .string ⟨#[85, 83, 68]⟩, .string ⟨#[45, 49, 48]⟩] 40)).heap.size = w4.heap.size + 1 := by simp
  have HE := Lib.hid (aw_ent (b1 := b1) Z4 Y1 hsB)
  have BC := Lib.hid (Below.al' BB.out (.cells #[.int .i64 7, .string ⟨#[98]⟩, .slice (some ⟨b1, 0, none⟩) 2 2, .int .i64 5, .string ⟨#[97]⟩, .slice (some ⟨w4.heap.size, 0, none⟩) 2 2] 39))
  clear Z4 Y1 BB hsB
  go_wp2_with fail
  refine (trA HE.out (HT.out.below BC.out) (HM.out.below BC.out)).mono ?_
  generalize (w4.alloc (.cells #[.string ⟨#[49, 46, 99, 97, 115, 104]⟩, .string ⟨#[85, 83, 68]⟩, .string ⟨#[49, 48]⟩, .string ⟨#[51, 46, 99, 97, 112, 105, 116, 97, 108]⟩, .string ⟨#[85, 83, 68]⟩, .string ⟨#[45, 49, 48]⟩] 40)).alloc (.cells #[.int .i64 7, .string ⟨#[98]⟩, .slice (some ⟨b1, 0, none⟩) 2 2, .int .i64 5, .string ⟨#[97]⟩, .slice (some ⟨w4.heap.size, 0, none⟩) 2 2] 39) = wE at *
  generalize w4.heap.size = b2 at *
  rintro e w5 ⟨v, rfl, ho, hb⟩
  obtain ⟨A1, c1, rfl, hr⟩ := ho.rds
  rw [show awT.length = 3 from rfl] at hr ⊢
  have R1 := Lib.hid hr
  have HE5 := Lib.hid (HE.out.below hb)
  have B5 := Lib.hid (below_next BC.out hb ⟨rfl, rfl, rfl, rfl⟩)
  clear hb ho hr BC HE
  go_wp2_with fail
  refine (roA R1.out (HT.out.below B5.out) (HM.out.below B5.out)).mono ?_
  rintro e w6 ⟨v, rfl, ho, hb⟩
  obtain ⟨A2, c2, rfl, hr⟩ := ho.rds
  rw [show awR.length = 6 from rfl] at hr ⊢
  have S6 := Lib.hid hr
  have R6 := Lib.hid (R1.out.below hb)
  have HE6 := Lib.hid (HE5.out.below hb)
  have B6 := Lib.hid (below_next B5.out hb ⟨rfl, rfl, rfl, rfl⟩)
  clear hb ho hr B5 HE5 R1
  go_wp2_with fail
  refine (rwA HE6.out (HT.out.below B6.out) (HM.out.below B6.out)).mono ?_
  rintro e w7 ⟨v, rfl, ho, hb⟩
  obtain ⟨A3, c3, rfl, hr⟩ := ho.rds
  rw [show awRow.length = 2 from rfl] at hr ⊢
  have Q7 := Lib.hid hr
  have S7 := Lib.hid (S6.out.below hb)
  have R7 := Lib.hid (R6.out.below hb)
  have B7 := Lib.hid (below_next B6.out hb ⟨rfl, rfl, rfl, rfl⟩)
  clear hb ho hr B6 HE6 R6 S6
  go_wp2_with fail
  refine (c51kBank4 _ (HT.out.below B7.out)).mono ?_
  rintro e w8 ⟨rfl, hb⟩
  have B8 := Lib.hid (below_next B7.out hb ⟨rfl, rfl, rfl, rfl⟩)
  have Q8 := Lib.hid (Q7.out.below hb)
  have S8 := Lib.hid (S7.out.below hb)
  have R8 := Lib.hid (R7.out.below hb)
  clear hb B7 Q7 S7 R7
  go_wp2_with fail
  refine (c51kCash6 _ (HT.out.below B8.out)).mono ?_
  rintro e w9 ⟨rfl, hb⟩
  have B9 := Lib.hid (below_next B8.out hb ⟨rfl, rfl, rfl, rfl⟩)
  have Q9 := Lib.hid (Q8.out.below hb)
  have S9 := Lib.hid (S8.out.below hb)
  have R9 := Lib.hid (R8.out.below hb)
  clear hb B8 Q8 S8 R8
  go_wp2_with fail
  refine (c51kCapm10 _ (HT.out.below B9.out)).mono ?_
  rintro e w10 ⟨rfl, hb⟩
  have B10 := Lib.hid (below_next B9.out hb ⟨rfl, rfl, rfl, rfl⟩)
  have Q10 := Lib.hid (Q9.out.below hb)
  have S10 := Lib.hid (S9.out.below hb)
  have R10 := Lib.hid (R9.out.below hb)
  clear hb B9 Q9 S9 R9
  go_wp2_with fail
  have hx := (Below.refl w10.heap.size w10).alloc (Nat.le_refl _) (.cells #[.string ⟨#[49, 46, 98, 97, 110, 107, 46, 97]⟩, .string ⟨#[85, 83, 68]⟩, .string ⟨#[52]⟩, .string ⟨#[49, 46, 99, 97, 115, 104]⟩, .string ⟨#[85, 83, 68]⟩, .string ⟨#[54]⟩, .string ⟨#[51, 46, 99, 97, 112, 105, 116, 97, 108]⟩, .string ⟨#[85, 83, 68]⟩, .string ⟨#[45, 49, 48]⟩] 33)
  have HL := Lib.hid (rds_block (R := rowB) awT (heap_alloc_new w10 (.cells #[.string ⟨#[49, 46, 98, 97, 110, 107, 46, 97]⟩, .string ⟨#[85, 83, 68]⟩, .string ⟨#[52]⟩, .string ⟨#[49, 46, 99, 97, 115, 104]⟩, .string ⟨#[85, 83, 68]⟩, .string ⟨#[54]⟩, .string ⟨#[51, 46, 99, 97, 112, 105, 116, 97, 108]⟩, .string ⟨#[85, 83, 68]⟩, .string ⟨#[45, 49, 48]⟩] 33)) rfl (by decide))
  have B11 := Lib.hid (Below.al' B10.out (.cells #[.string ⟨#[49, 46, 98, 97, 110, 107, 46, 97]⟩, .string ⟨#[85, 83, 68]⟩, .string ⟨#[52]⟩, .string ⟨#[49, 46, 99, 97, 115, 104]⟩, .string ⟨#[85, 83, 68]⟩, .string ⟨#[54]⟩, .string ⟨#[51, 46, 99, 97, 112, 105, 116, 97, 108]⟩, .string ⟨#[85, 83, 68]⟩, .string ⟨#[45, 49, 48]⟩] 33))
  have Q11 := Lib.hid (Q10.out.below hx)
  have S11 := Lib.hid (S10.out.below hx)
  have R11 := Lib.hid (R10.out.below hx)
  clear hx B10 Q10 S10 R10
  have hq := Same_any _ _ 3 _ 3 3 _ _ _ R11.out HL.out (by decide) (by decide)
  rw [decide_eq_true rfl] at hq
  refine hq.mono ?_
  clear hq
  generalize w10.alloc (.cells #[.string ⟨#[49, 46, 98, 97, 110, 107, 46, 97]⟩, .string ⟨#[85, 83, 68]⟩, .string ⟨#[52]⟩, .string ⟨#[49, 46, 99, 97, 115, 104]⟩, .string ⟨#[85, 83, 68]⟩, .string ⟨#[54]⟩, .string ⟨#[51, 46, 99, 97, 112, 105, 116, 97, 108]⟩, .string ⟨#[85, 83, 68]⟩, .string ⟨#[45, 49, 48]⟩] 33) = w11 at *
  rintro e w12 ⟨rfl, hb⟩
  have B12 := Lib.hid (below_next B11.out hb ⟨rfl, rfl, rfl, rfl⟩)
  have Q12 := Lib.hid (Q11.out.below hb)
  have S12 := Lib.hid (S11.out.below hb)
  clear hb HL B11 Q11 S11 R11
  go_wp2_with fail
  refine (c51kOne10 _ (HT.out.below B12.out)).mono ?_
  rintro e w13 ⟨rfl, hb⟩
  have B13 := Lib.hid (below_next B12.out hb ⟨rfl, rfl, rfl, rfl⟩)
  have Q13 := Lib.hid (Q12.out.below hb)
  have S13 := Lib.hid (S12.out.below hb)
  clear hb B12 Q12 S12
  go_wp2_with fail
  refine (c51kBnk4 _ (HT.out.below B13.out)).mono ?_
  rintro e w14 ⟨rfl, hb⟩
  have B14 := Lib.hid (below_next B13.out hb ⟨rfl, rfl, rfl, rfl⟩)
  have Q14 := Lib.hid (Q13.out.below hb)
  have S14 := Lib.hid (S13.out.below hb)
  clear hb B13 Q13 S13
  go_wp2_with fail
  refine (c51kBank4 _ (HT.out.below B14.out)).mono ?_
  rintro e w15 ⟨rfl, hb⟩
  have B15 := Lib.hid (below_next B14.out hb ⟨rfl, rfl, rfl, rfl⟩)
  have Q15 := Lib.hid (Q14.out.below hb)
  have S15 := Lib.hid (S14.out.below hb)
  clear hb B14 Q14 S14
  go_wp2_with fail
  refine (c51kCash6 _ (HT.out.below B15.out)).mono ?_
  rintro e w16 ⟨rfl, hb⟩
  have B16 := Lib.hid (below_next B15.out hb ⟨rfl, rfl, rfl, rfl⟩)
  have Q16 := Lib.hid (Q15.out.below hb)
  have S16 := Lib.hid (S15.out.below hb)
  clear hb B15 Q15 S15
  go_wp2_with fail
  refine (c51kThreem10 _ (HT.out.below B16.out)).mono ?_
  rintro e w17 ⟨rfl, hb⟩
  have B17 := Lib.hid (below_next B16.out hb ⟨rfl, rfl, rfl, rfl⟩)
  have Q17 := Lib.hid (Q16.out.below hb)
  have S17 := Lib.hid (S16.out.below hb)
  clear hb B16 Q16 S16
  go_wp2_with fail
  refine (c51kCapm10 _ (HT.out.below B17.out)).mono ?_
  rintro e w18 ⟨rfl, hb⟩
  have B18 := Lib.hid (below_next B17.out hb ⟨rfl, rfl, rfl, rfl⟩)
  have Q18 := Lib.hid (Q17.out.below hb)
  have S18 := Lib.hid (S17.out.below hb)
  clear hb B17 Q17 S17
  go_wp2_with fail
  have hx := (Below.refl w18.heap.size w18).alloc (Nat.le_refl _) (.cells #[.string ⟨#[49]⟩, .string ⟨#[85, 83, 68]⟩, .string ⟨#[49, 48]⟩, .string ⟨#[49, 46, 98, 97, 110, 107]⟩, .string ⟨#[85, 83, 68]⟩, .string ⟨#[52]⟩, .string ⟨#[49, 46, 98, 97, 110, 107, 46, 97]⟩, .string ⟨#[85, 83, 68]⟩, .string ⟨#[52]⟩, .string ⟨#[49, 46, 99, 97, 115, 104]⟩, .string ⟨#[85, 83, 68]⟩, .string ⟨#[54]⟩, .string ⟨#[51]⟩, .string ⟨#[85, 83, 68]⟩, .string ⟨#[45, 49, 48]⟩, .string ⟨#[51, 46, 99, 97, 112, 105, 116, 97, 108]⟩, .string ⟨#[85, 83, 68]⟩, .string ⟨#[45, 49, 48]⟩] 33)
  have HL := Lib.hid (rds_block (R := rowB) awR (heap_alloc_new w18 (.cells #[.string ⟨#[49]⟩, .string ⟨#[85, 83, 68]⟩, .string ⟨#[49, 48]⟩, .string ⟨#[49, 46, 98, 97, 110, 107]⟩, .string ⟨#[85, 83, 68]⟩, .string ⟨#[52]⟩, .string ⟨#[49, 46, 98, 97, 110, 107, 46, 97]⟩, .string ⟨#[85, 83, 68]⟩, .string ⟨#[52]⟩, .string ⟨#[49, 46, 99, 97, 115, 104]⟩, .string ⟨#[85, 83, 68]⟩, .string ⟨#[54]⟩, .string ⟨#[51]⟩, .string ⟨#[85, 83, 68]⟩, .string ⟨#[45, 49, 48]⟩, .string ⟨#[51, 46, 99, 97, 112, 105, 116, 97, 108]⟩, .string ⟨#[85, 83, 68]⟩, .string ⟨#[45, 49, 48]⟩] 33)) rfl (by decide))
  have B19 := Lib.hid (Below.al' B18.out (.cells #[.string ⟨#[49]⟩, .string ⟨#[85, 83, 68]⟩, .string ⟨#[49, 48]⟩, .string ⟨#[49, 46, 98, 97, 110, 107]⟩, .string ⟨#[85, 83, 68]⟩, .string ⟨#[52]⟩, .string ⟨#[49, 46, 98, 97, 110, 107, 46, 97]⟩, .string ⟨#[85, 83, 68]⟩, .string ⟨#[52]⟩, .string ⟨#[49, 46, 99, 97, 115, 104]⟩, .string ⟨#[85, 83, 68]⟩, .string ⟨#[54]⟩, .string ⟨#[51]⟩, .string ⟨#[85, 83, 68]⟩, .string ⟨#[45, 49, 48]⟩, .string ⟨#[51, 46, 99, 97, 112, 105, 116, 97, 108]⟩, .string ⟨#[85, 83, 68]⟩, .string ⟨#[45, 49, 48]⟩] 33))
  have Q19 := Lib.hid (Q18.out.below hx)
  have S19 := Lib.hid (S18.out.below hx)
  clear hx B18 Q18 S18
  have hq := Same_any _ _ 6 _ 6 6 _ _ _ S19.out HL.out (by decide) (by decide)
  rw [decide_eq_true rfl] at hq
  refine hq.mono ?_
  clear hq
  generalize w18.alloc (.cells #[.string ⟨#[49]⟩, .string ⟨#[85, 83, 68]⟩, .string ⟨#[49, 48]⟩, .string ⟨#[49, 46, 98, 97, 110, 107]⟩, .string ⟨#[85, 83, 68]⟩, .string ⟨#[52]⟩, .string ⟨#[49, 46, 98, 97, 110, 107, 46, 97]⟩, .string ⟨#[85, 83, 68]⟩, .string ⟨#[52]⟩, .string ⟨#[49, 46, 99, 97, 115, 104]⟩, .string ⟨#[85, 83, 68]⟩, .string ⟨#[54]⟩, .string ⟨#[51]⟩, .string ⟨#[85, 83, 68]⟩, .string ⟨#[45, 49, 48]⟩, .string ⟨#[51, 46, 99, 97, 112, 105, 116, 97, 108]⟩, .string ⟨#[85, 83, 68]⟩, .string ⟨#[45, 49, 48]⟩] 33) = w19 at *
  rintro e w20 ⟨rfl, hb⟩
  have B20 := Lib.hid (below_next B19.out hb ⟨rfl, rfl, rfl, rfl⟩)
  have Q20 := Lib.hid (Q19.out.below hb)
  clear hb HL B19 Q19 S19
  go_wp2_with fail
  have hx := (Below.refl w20.heap.size w20).alloc (Nat.le_refl _) (.cells #[.int .i64 5, .string ⟨#[97]⟩, .string ⟨#[49, 48]⟩, .string ⟨#[49, 48]⟩, .int .i64 7, .string ⟨#[98]⟩, .string ⟨#[45, 52]⟩, .string ⟨#[54]⟩] 48)
  have HL := Lib.hid (rds_block (R := rowR) awRow (heap_alloc_new w20 (.cells #[.int .i64 5, .string ⟨#[97]⟩, .string ⟨#[49, 48]⟩, .string ⟨#[49, 48]⟩, .int .i64 7, .string ⟨#[98]⟩, .string ⟨#[45, 52]⟩, .string ⟨#[54]⟩] 48)) rfl (by decide))
  have B21 := Lib.hid (Below.al' B20.out (.cells #[.int .i64 5, .string ⟨#[97]⟩, .string ⟨#[49, 48]⟩, .string ⟨#[49, 48]⟩, .int .i64 7, .string ⟨#[98]⟩, .string ⟨#[45, 52]⟩, .string ⟨#[54]⟩] 48))
  have Q21 := Lib.hid (Q20.out.below hx)
  clear hx B20 Q20
  have hq := Eq52_any _ _ 2 _ 2 2 _ _ _ Q21.out HL.out (by decide) (by decide)
  rw [decide_eq_true rfl] at hq
  refine hq.mono ?_
  clear hq
  generalize w20.alloc (.cells #[.int .i64 5, .string ⟨#[97]⟩, .string ⟨#[49, 48]⟩, .string ⟨#[49, 48]⟩, .int .i64 7, .string ⟨#[98]⟩, .string ⟨#[45, 52]⟩, .string ⟨#[54]⟩] 48) = w21 at *
  rintro e w22 ⟨rfl, hb⟩
  have B22 := Lib.hid (below_next B21.out hb ⟨rfl, rfl, rfl, rfl⟩)
  clear hb HL B21 Q21
  go_wp2_with fail
  exact HP.out _ B22.out
end Go.Proofs.YtohdpidlilhnjaaGreatDoor

/- Contract of the reference's Great, for any entries. -/
namespace Go.Proofs.YtohdpidlilhnjaaGreatDoor
open Go.RowKit Go.Maps Num

/-- what an entry of any size reads as -/
def RdG (w : World) (p : RE) : Prop := p.1.1 = p.2.1 ∧ p.1.2.1 = p.2.2.1 ∧ rowL.Rds w (rawA p.1) (rawN p.1) (rawC p.1) p.2.2.2
def grB (p : RE) : Bool := g1B p.2.2.1 p.2.2.2
def greatB (ps : List RE) : Bool := decide (10 < ps.length) || ps.any grB
theorem re_mem (l : List RE) (k : Nat) (h : k < l.length) : l.getD k re0 ∈ l := by
  rw [List.getD_eq_getElem?_getD, List.getElem?_eq_getElem h]
  exact List.getElem_mem h
theorem take_re (l : List RE) (k : Nat) (h : k < l.length) : l.take (k + 1) = l.take k ++ [l.getD k re0] := by
  rw [List.take_succ_eq_append_getElem h, List.getD_eq_getElem?_getD, List.getElem?_eq_getElem h]; rfl
set_option maxRecDepth 100000 in
set_option maxHeartbeats 4000000 in
theorem rgreat_any (A : Option Addr) (n c : Nat) (ps : List RE) (w : World) (hl : rowE.Rds w A n c ps) (hr : ∀ p ∈ ps, RdG w p) : Calls Tryz.prog 33 #[.slice A n c] w (BoolPost (greatB ps) w) := by
  have ll := Lib.hid hl.len
  have HP := Lib.hid (fun W b (h : greatB ps = b) (hb : Below w.heap.size w W) => (show BoolPost (greatB ps) w (.returned (.bool b)) W from ⟨by rw [h], hb⟩))
  have HG := Lib.hid (show greatB ps = (decide (10 < n) || ps.any grB) by rw [← hl.len]; rfl)
  generalize BoolPost (greatB ps) w = Post at *
  generalize greatB ps = r at *
  have L1 := Lib.hid hl
  have HR := Lib.hid hr
  clear hl hr
  go_enter Tryz.func33, Tryz.ntmps33
  by_cases h1 : 10 < n
  · have t1 : decide (10 < (n : Int)) = true := by rw [decide_eq_true_iff]; omega
    have hv := Lib.hid (show r = true by rw [HG.out, decide_eq_true h1]; rfl)
    clear h1
    go_wp2_with fail
    exact HP.out _ _ hv.out (Below.refl _ _)
  have t1 : decide (10 < (n : Int)) = false := by rw [decide_eq_false_iff_not]; omega
  have HG1 := Lib.hid (show r = ps.any grB by rw [HG.out, decide_eq_false h1, Bool.false_or])
  have hn10 : n ≤ 10 := by omega
  clear HG h1
  go_wp2_with fail
  go_loopw [3] (fun i wr => ∃ k : Nat, k ≤ n ∧ i = .int .i64 (k : Int) ∧ Hid (∀ x ∈ ps.take k, grB x = false) ∧ Hid (Below w.heap.size w wr)) (fun i _ => n - (intOf i).toNat)
  case atStart => exact ⟨0, by omega, rfl, Lib.hid (by simp), Lib.hid (Below.refl _ _)⟩
  case round =>
    obtain ⟨k, hk, rfl, HE, HB⟩ := hrel
    by_cases hlt : k < n
    · have hkl : k < ps.length := by rw [ll.out]; exact hlt
      obtain ⟨b1, o1, rfl, hb1, _⟩ := L1.out.at_ (by omega)
      obtain ⟨p0, p1, p2⟩ := rds_cells3 (L1.out.below HB.out) k hlt
      have hki : (k : Int) < (n : Int) := by omega
      have hm := re_mem ps k hkl
      obtain ⟨e1, e2, e3⟩ := HR.out _ hm
      have HT := Lib.hid (show grB (ps.getD k re0) = true → r = true from fun h => HG1.out.trans (List.any_eq_true.2 ⟨_, hm, h⟩))
      have HTK := Lib.hid (take_re ps k hkl)
      clear hkl hm
      generalize ps.getD k re0 = y at *
      obtain ⟨⟨d1, z1, A1, n1, m1⟩, ⟨d2, z2, k2⟩⟩ := y
      simp only [rawA, rawN, rawC] at p0 p1 p2 e1 e2 e3
      subst e1 e2
      have LC := Lib.hid (rgreat1_any d1 z1 A1 n1 m1 k2 wr (e3.below HB.out))
      unfold enV at LC
      obtain ⟨gy, hgy⟩ : ∃ gy, g1B z1 k2 = gy := ⟨_, rfl⟩
      rw [hgy] at LC
      have HYG := Lib.hid (show grB ((d1, z1, A1, n1, m1), (d1, z1, k2)) = gy from hgy)
      clear hgy e3
      go_wp2_with fail
      refine LC.out.mono ?_
      rintro e w' ⟨rfl, hb⟩
      have HB2 := Lib.hid (below_next HB.out hb ⟨rfl, rfl, rfl, rfl⟩)
      clear hb LC
      cases gy
      · have HE2 := Lib.hid (show ∀ x ∈ ps.take (k + 1), grB x = false from fun x hx => by
          rw [HTK.out] at hx
          rcases List.mem_append.1 hx with h | h
          · exact HE.out x h
          · rw [List.mem_singleton.1 h]; exact HYG.out)
        go_wp2_with fail
        go_roundw
        case rel => exact ⟨k + 1, by omega, by go_num, HE2, HB2⟩
        case measure => simp [intOf]; omega
      · have hv := Lib.hid (HT.out HYG.out)
        go_wp2_with fail
        exact HP.out _ _ hv.out HB2.out
    · have hkn : k = n := by omega
      subst hkn
      have hki : ¬ (k : Int) < (k : Int) := by omega
      have e := HE.out
      rw [List.take_of_length_le (by rw [ll.out]; exact Nat.le_refl _)] at e
      have hv := Lib.hid (show r = false by rw [HG1.out, List.any_eq_false]; exact fun x hx => by rw [e x hx]; decide)
      clear e HE
      go_wp2_with fail
      exact HP.out _ _ hv.out HB.out
end Go.Proofs.YtohdpidlilhnjaaGreatDoor

/- Contract of the reference's entry Check. -/
namespace Go.Proofs.YtohdpidlilhnjaaGreatDoor
open Go.RowKit Go.Maps Num

set_option maxRecDepth 100000 in
set_option maxHeartbeats 4000000 in
theorem rchkE_any (d : Int) (cz : List UInt8) (A : Option Addr) (n c : Nat) (l : List Ln) (w : World) (hl : Lns w A n c l) (hcz : cz.length ≤ maxLen) (hs : ∀ x ∈ l, x.2.2.length ≤ 13) :
    Calls Tryz.prog 49 #[.agg (enV d cz A n c)] w (IntPost (chkE d cz l) w) := by
  have hn := hl.small
  have ll := Lib.hid hl.len
  have hB0 : Below w.heap.size w (w.alloc (.cells #[.int .i64 d, .string ⟨cz.toArray⟩, .slice A n c] 39)) := (Below.refl _ w).alloc (Nat.le_refl _) _
  have hx : (w.alloc (.cells #[.int .i64 d, .string ⟨cz.toArray⟩, .slice A n c] 39)).cell? ⟨w.heap.size, 2, none⟩ = some (.slice A n c) := by go_simp
  have c0 := fun W => rhead_any d cz A n c W hcz
  have hE := Lib.hid (show chkE d cz l = if headI d cz ≠ 0 then headI d cz else if l.length = 0 then 11 else if 64 < l.length then 4 else if chkLs none l ≠ 0 then chkLs none l else if balB l then 0 else 14 from rfl)
  have HP := Lib.hid (fun W r (h : chkE d cz l = r) (hb : Below w.heap.size w W) => (show IntPost (chkE d cz l) w (.returned (.int .i64 r)) W from ⟨by rw [h], hb⟩))
  generalize IntPost (chkE d cz l) w = Post at *
  generalize chkE d cz l = r at *
  generalize headI d cz = hd at *
  have H0 := Lib.hid hB0
  have L1 := Lib.hid hl
  have HSS := Lib.hid hs
  have l0 := Lib.hid (block_lt_of_cell hx)
  have hx0 := Lib.hid hx
  clear hl hs
  unfold enV
  go_enter Tryz.func49, Tryz.ntmps49
  go_wp2_with fail
  refine (c0 _).mono ?_
  rintro e w1 ⟨rfl, hb1⟩
  have hx1 := (hb1.cell l0.out).trans hx
  have HB1 := Lib.hid (below_next H0.out hb1 ⟨rfl, rfl, rfl, rfl⟩)
  clear hb1 hx
  by_cases hz : hd = 0
  case neg =>
    have hzb : (hd == 0) = false := beq_eq_false_iff_ne.2 hz
    have hzb' : (hd != 0) = true := by rw [bne_iff_ne]; exact hz
    have hv := Lib.hid (show r = hd by rw [hE.out, if_pos hz])
    go_wp2_with fail
    exact HP.out _ _ hv.out HB1.out
  subst hz
  by_cases h0 : n = 0
  · have hv := Lib.hid (show r = 11 by rw [hE.out, if_neg (by omega), if_pos (by rw [ll.out]; exact h0)])
    subst h0
    go_wp2_with fail
    exact HP.out _ _ hv.out HB1.out
  have h0i : ((n : Int) == 0) = false := beq_eq_false_iff_ne.2 (by omega)
  have h0j : (n == 0) = false := beq_eq_false_iff_ne.2 (by omega)
  by_cases h64 : 64 < n
  · have hv := Lib.hid (show r = 4 by rw [hE.out, if_neg (by omega), if_neg (by rw [ll.out]; exact h0), if_pos (by rw [ll.out]; exact h64)])
    have h64i : (64 : Int) < (n : Int) := by omega
    go_wp2_with fail
    exact HP.out _ _ hv.out HB1.out
  have hv := Lib.hid (show r = if chkLs none l ≠ 0 then chkLs none l else if balB l then 0 else 14 by rw [hE.out, if_neg (by omega), if_neg (by rw [ll.out]; exact h0), if_neg (by rw [ll.out]; exact h64)])
  have h64i : ¬ (64 : Int) < (n : Int) := by omega
  go_wp2_with fail
  have l1 := Lib.hid (block_lt_of_cell hx1)
  have hx1h := Lib.hid hx1
  have hh := Lib.hid (fun W (h : Below w1.heap.size w1 W) => below_next HB1.out h ⟨rfl, rfl, rfl, rfl⟩)
  have R0 := Lib.hid (show ChkR w1 l 0 w1 from ⟨by rw [List.drop_zero]; rfl, Below.refl _ _⟩)
  go_loopw [4, 5] (fun i _ wr => ∃ k : Nat, k ≤ n ∧ i = .int .i64 (k : Int) ∧ Hid (ChkR w1 l k wr)) (fun i _ _ => n - (intOf i).toNat)
  case atStart => exact ⟨0, by omega, rfl, R0⟩
  case round =>
    obtain ⟨k, hk, rfl, hR⟩ := hrel
    have hch := Lib.hid hR.out.1
    have HC := Lib.hid hR.out.2
    have HB := Lib.hid (hh.out _ hR.out.2)
    have xb := (HC.out.cell l1.out).trans hx1h.out
    clear hR R0
    by_cases hlt : k < n
    · obtain ⟨b1, o1, rfl, hb1, hc1⟩ := L1.out.at_ (by omega)
      obtain ⟨q0, q1, q2⟩ := hc1 k hlt
      have r0 := (HB.out.cell (p := ⟨b1, o1 + k * 3, none⟩) hb1).trans q0
      have r1 := (HB.out.cell (p := ⟨b1, o1 + k * 3 + 1, none⟩) hb1).trans q1
      have r2 := (HB.out.cell (p := ⟨b1, o1 + k * 3 + 2, none⟩) hb1).trans q2
      have hsx := Lib.hid (L1.out.sml _ (lnAt_mem l k (by rw [ll.out]; exact hlt)))
      have hki : (k : Int) < (n : Int) := by omega
      have hdr := drop_ln l k (by rw [ll.out]; exact hlt)
      have hch2 := hch.out
      rw [hdr, chkLs_cons] at hch2
      have hpk : prevAt l (k + 1) = some (key (l.getD k ln0)) := rfl
      have HQ := Lib.hid (And.intro q0 (And.intro q1 q2))
      clear q0 q1 q2 hdr
      generalize hxe : l.getD k ln0 = x at *
      obtain ⟨a, cu, m⟩ := x
      have cl := Lib.hid (fun W => rfld_any a cu m W hsx.out)
      simp only at r0 r1 r2 HQ
      generalize hli : lineI (a, cu, m) = li at *
      go_wp2_with fail
      refine (cl.out _).mono ?_
      rintro e w2 ⟨rfl, hb⟩
      have HB3 := Lib.hid (below_next HB.out hb ⟨rfl, rfl, rfl, rfl⟩)
      have HC3 := Lib.hid (below_next HC.out hb ⟨rfl, rfl, rfl, rfl⟩)
      clear r0 r1 r2 xb
      have d0 := (HB3.out.cell (p := ⟨b1, o1 + k * 3, none⟩) hb1).trans HQ.out.1
      have d1 := (HB3.out.cell (p := ⟨b1, o1 + k * 3 + 1, none⟩) hb1).trans HQ.out.2.1
      have d2 := (HB3.out.cell (p := ⟨b1, o1 + k * 3 + 2, none⟩) hb1).trans HQ.out.2.2
      have xb := (HC3.out.cell l1.out).trans hx1h.out
      clear hb
      by_cases hz : li = 0
      case neg =>
        have hzb : (li == 0) = false := beq_eq_false_iff_ne.2 hz
        have hzb' : (li != 0) = true := by rw [bne_iff_ne]; exact hz
        have hv1 := Lib.hid (show r = li by rw [hv.out, hch2, if_pos hz, if_pos hz])
        go_wp2_with fail
        exact HP.out _ _ hv1.out HB3.out
      subst hz
      rw [if_neg (by omega)] at hch2
      rcases m with _ | ⟨m0, mr⟩
      · rw [if_pos rfl] at hch2
        have hv1 := Lib.hid (show r = 2 by rw [hv.out, hch2, if_pos (by omega)])
        go_wp2_with fail
        exact HP.out _ _ hv1.out HB3.out
      rw [if_neg (by simp)] at hch2
      go_upto_region 16 with fail
      by_cases hk0 : k = 0
      · have hf : ordB (prevAt l k) (key (a, cu, m0 :: mr)) = false := by rw [hk0]; rfl
        rw [hf, if_neg (by decide)] at hch2
        have hk0i : ¬ (0 : Int) < (k : Int) := by omega
        have hk0n : ¬ 0 < k := by omega
        clear hk0
        go_quiet (fail)
        have HC4 := Lib.hid (below_dr HC3.out nq)
        have RR := Lib.hid (show ChkR w1 l (k + 1) (w2.drewN nq) from ⟨by rw [hpk]; exact hch2, HC4.out⟩)
        clear hch2 hpk
        go_wp2_with fail
        go_roundw
        case rel => exact ⟨k + 1, by omega, by go_num, RR⟩
        case measure => simp [intOf]; omega
      · obtain ⟨j, hj⟩ : ∃ j, k = j + 1 := ⟨k - 1, by omega⟩
        have hHj := Lib.hid hj
        obtain ⟨q0, q1, q2⟩ := hc1 j (by omega)
        have p0 := (HB3.out.cell (p := ⟨b1, o1 + j * 3, none⟩) hb1).trans q0
        have p1 := (HB3.out.cell (p := ⟨b1, o1 + j * 3 + 1, none⟩) hb1).trans q1
        have p2 := (HB3.out.cell (p := ⟨b1, o1 + j * 3 + 2, none⟩) hb1).trans q2
        have hpv : prevAt l k = some (key (l.getD j ln0)) := by rw [hj]; rfl
        rw [hpv] at hch2
        have hw : IntKind.i64.wrap ((k : Int) - 1) = (j : Int) := (IntWalk.i64_in _ (by omega)).trans (by omega)
        have hji : (j : Int) < (n : Int) := by omega
        have hk0i : (0 : Int) < (k : Int) := by omega
        have hk0n : 0 < k := by omega
        clear q0 q1 q2 hpv hj hk0 hc1
        generalize l.getD j ln0 = y at *
        obtain ⟨ya, yc, ym⟩ := y
        simp only at p0 p1 p2
        have HS := Lib.hid (And.intro xb (And.intro p0 (And.intro p1 (And.intro p2 (And.intro d0 (And.intro d1 d2))))))
        have lb := block_lt_of_cell xb
        have ly := block_lt_of_cell p0
        have HD := Lib.hid (Below.refl w2.heap.size w2)
        generalize hcv : cmpKy (ya, yc) (a, cu) = cv at *
        have KC := Lib.hid (fun W => rcl_any ya yc ym a cu (m0 :: mr) W)
        rw [hcv] at KC
        go_region_held3 (fun w' => w'.cell? ⟨w.heap.size, 2, none⟩ = some (.slice (some ⟨b1, o1, none⟩) n c) ∧ w'.cell? ⟨b1, o1 + j * 3, none⟩ = some (.string ⟨ya.toArray⟩) ∧ w'.cell? ⟨b1, o1 + j * 3 + 1, none⟩ = some (.string ⟨yc.toArray⟩) ∧ w'.cell? ⟨b1, o1 + j * 3 + 2, none⟩ = some (.string ⟨ym.toArray⟩) ∧ w'.cell? ⟨b1, o1 + k * 3, none⟩ = some (.string ⟨a.toArray⟩) ∧ w'.cell? ⟨b1, o1 + k * 3 + 1, none⟩ = some (.string ⟨cu.toArray⟩) ∧ w'.cell? ⟨b1, o1 + k * 3 + 2, none⟩ = some (.string ⟨(m0 :: mr).toArray⟩))
          (first | exact ⟨f0, f1, f2, f3, f4, f5, f6⟩ | exact ⟨xb, p0, p1, p2, d0, d1, d2⟩ | go_keep)
          (first
            | (go_at_call 99; refine (KC.out _).mono ?_; rintro e w' ⟨rfl, hb⟩; have HD := Lib.hid (below_next HD.out hb ⟨rfl, rfl, rfl, rfl⟩); have f0 := (HD.out.cell lb).trans HS.out.1; have f1 := (HD.out.cell ly).trans HS.out.2.1; have f2 := (HD.out.cell (p := ⟨b1, o1 + j * 3 + 1, none⟩) ly).trans HS.out.2.2.1; have f3 := (HD.out.cell (p := ⟨b1, o1 + j * 3 + 2, none⟩) ly).trans HS.out.2.2.2.1; have f4 := (HD.out.cell (p := ⟨b1, o1 + k * 3, none⟩) ly).trans HS.out.2.2.2.2.1; have f5 := (HD.out.cell (p := ⟨b1, o1 + k * 3 + 1, none⟩) ly).trans HS.out.2.2.2.2.2.1; have f6 := (HD.out.cell (p := ⟨b1, o1 + k * 3 + 2, none⟩) ly).trans HS.out.2.2.2.2.2.2; clear hb))
        have hf : ordB (some (key (ya, yc, ym))) (key (a, cu, m0 :: mr)) = decide (0 ≤ cv) := by
          show decide (0 ≤ cmpKy (ya, yc) (a, cu)) = _
          rw [hcv]
        rw [hf] at hch2
        by_cases hc0 : 0 ≤ cv
        · rw [decide_eq_true hc0, if_pos rfl] at hch2
          have hv1 := Lib.hid (show r = 8 by rw [hv.out, hch2, if_pos (by omega)])
          have HB4 := Lib.hid (HB3.out.trans (HD.out.mono HB3.out.size))
          go_wp2_with fail
          exact HP.out _ _ hv1.out HB4.out
        · rw [decide_eq_false hc0, if_neg (by decide)] at hch2
          have HC4 := Lib.hid (HC3.out.trans (HD.out.mono HC3.out.size))
          have RR := Lib.hid (show ChkR w1 l (k + 1) w' from ⟨by rw [hpk]; exact hch2, HC4.out⟩)
          clear hch2 hpk
          go_wp2_with fail
          go_roundw
          case rel => exact ⟨k + 1, by omega, by go_num, RR⟩
          case measure => simp [intOf]; omega
    · have hkn : k = n := by omega
      subst hkn
      have h0l : chkLs none l = 0 := by rw [hch.out, List.drop_of_length_le (by rw [ll.out]; exact Nat.le_refl _)]; rfl
      have hv2 := Lib.hid (show r = if balB l then 0 else 14 by rw [hv.out, h0l, if_neg (by decide)])
      have hki : ¬ (k : Int) < (k : Int) := by omega
      have cb := Lib.hid (rbal_any A k c l wr (L1.out.below HB.out) HSS.out)
      clear h0l hv hch
      generalize balB l = bb at *
      go_wp2_with fail
      refine cb.out.mono ?_
      rintro e w2 ⟨rfl, hb⟩
      have HB5 := Lib.hid (below_next HB.out hb ⟨rfl, rfl, rfl, rfl⟩)
      clear hb
      cases bb
      · have hv3 := Lib.hid (show r = 14 by rw [hv2.out]; rfl)
        go_wp2_with fail
        exact HP.out _ _ hv3.out HB5.out
      · have hv3 := Lib.hid (show r = 0 by rw [hv2.out]; rfl)
        go_wp2_with fail
        exact HP.out _ _ hv3.out HB5.out
end Go.Proofs.YtohdpidlilhnjaaGreatDoor

/- The closure of fine: the reference's Check. -/
namespace Go.Proofs.YtohdpidlilhnjaaGreatDoor
open Go.RowKit Go.Maps Num

set_option maxRecDepth 100000 in
theorem clo48_any (p : RE) (w : World) (hp : RdE w p) (hz : Fit p.2.2.1 p.2.2.2) (_ : Tab w) (_ : ML w) : Calls Tryz.prog 48 #[.agg (encE p).toArray] w (BoolPost (badR p) w) := by

  obtain ⟨⟨d1, z1, A1, n1, c1⟩, e1, f1, k1⟩ := p
  obtain ⟨h1, h2, h3⟩ := hp
  simp only at h1 h2 hz
  subst h1 h2
  have hb := Lib.hid (show badR ((d1, z1, A1, n1, c1), d1, z1, k1) = decide (chkE d1 z1 k1 ≠ 0) from rfl)
  have hB0 : Below w.heap.size w (w.alloc (.cells #[.int .i64 d1, .string ⟨z1.toArray⟩, .slice A1 n1 c1] 39)) := (Below.refl _ w).alloc (Nat.le_refl _) _
  have hc := rchkE_any d1 z1 A1 n1 c1 k1 _ (Lns.below h3 hB0) (Nat.le_trans hz.cause (by decide)) (fun x hx => (hz.ln x hx).2.2)
  unfold IntPost enV at hc
  have HC := Lib.hid hc
  have HB := Lib.hid hB0
  generalize badR ((d1, z1, A1, n1, c1), d1, z1, k1) = r at *
  generalize chkE d1 z1 k1 = v at *
  clear hc hB0 h3
  unfold encE rawA rawN rawC
  simp only
  go_enter Tryz.func48, Tryz.ntmps48
  go_wp2_with fail
  refine HC.out.mono ?_
  rintro e w1 ⟨rfl, hb1⟩
  have HB2 := Lib.hid (below_next HB.out hb1 ⟨rfl, rfl, rfl, rfl⟩)
  clear hb1 HC
  go_wp2_with fail
  go_ret
  refine ⟨?_, HB2.out⟩
  rw [hb.out]
  by_cases h : v = 0
  · subst h; rfl
  · have : (v != 0) = true := by rw [bne_iff_ne]; exact h
    rw [this, decide_eq_true h]; rfl
end Go.Proofs.YtohdpidlilhnjaaGreatDoor

/- Contracts of slices.IndexFunc and ContainsFunc at the closure 48: an entry that is not valid (printed by gen_idx.py). -/
namespace Go.Proofs.YtohdpidlilhnjaaGreatDoor
open Go.RowKit Go.Maps Num

set_option maxRecDepth 100000 in
set_option maxHeartbeats 4000000 in
theorem idx48 (A : Option Addr) (n c : Nat) (ps : List RE) (w : World) (h : Res w A n c ps) (hz : ∀ p ∈ ps, Fit p.2.2.1 p.2.2.2) (hn : n ≤ 1000) (ht : Tab w) (hm : ML w) :
    Calls Tryz.prog 96 #[.slice A n c, .func (.func 48) #[] #[]] w (IdxP (ps.any badR) w) := by
  have ll := Lib.hid h.rds.len
  have L1 := Lib.hid h
  have HT := Lib.hid ht
  have HM := Lib.hid hm
  have HZ := Lib.hid hz
  have HS := Lib.hid (any_snoc ps)
  have HH := Lib.hid (any_hit ps)
  have HP := Lib.hid (show ∀ i W, decide (0 ≤ i) = ps.any badR → Below w.heap.size w W → IdxP (ps.any badR) w (.returned (.int .i64 i)) W from fun i W h1 h2 => ⟨i, rfl, h1, h2⟩)
  clear h ht hm hz
  generalize IdxP (ps.any badR) w = Post at *
  go_enter Tryz.func96, Tryz.ntmps96
  go_wp2_with fail
  have R0 := Lib.hid (show (ps.take 0).any badR = false ∧ Below w.heap.size w w from ⟨by simp, Below.refl _ _⟩)
  go_loopw [8, 5] (fun i _ wr => ∃ k : Nat, k ≤ n ∧ i = .int .i64 (k : Int) ∧ Hid ((ps.take k).any badR = false ∧ Below w.heap.size w wr)) (fun i _ _ => n - (intOf i).toNat)
  case atStart => exact ⟨0, by omega, rfl, R0⟩
  case round =>
    obtain ⟨k, hk, rfl, hR⟩ := hrel
    have HE := Lib.hid hR.out.1
    have HB := Lib.hid hR.out.2
    clear hR R0
    by_cases hlt : k < n
    · have hkl : k < ps.length := by rw [ll.out]; exact hlt
      have hmem := getD_mem re0 ps k hkl
      have hs1 := Lib.hid (HS.out k hkl)
      have hh1 := Lib.hid (HH.out k hkl)
      obtain ⟨b1, o1, rfl, hb1, _⟩ := L1.out.rds.at_ (by omega)
      have q0 := (L1.out.rds.below HB.out).cell rowE_ok re0 k 0 _ hlt rfl
      have q1 := (L1.out.rds.below HB.out).cell rowE_ok re0 k 1 _ hlt rfl
      have q2 := (L1.out.rds.below HB.out).cell rowE_ok re0 k 2 _ hlt rfl
      have cl := clo48_any (ps.getD k re0) wr ((L1.out.all _ hmem).below HB.out) (HZ.out _ hmem) (HT.out.below HB.out) (HM.out.below HB.out)
      have hki : (k : Int) < (n : Int) := by omega
      have hk0 : (0 : Int) ≤ (k : Int) := by omega
      generalize badR (ps.getD k re0) = bd at *
      generalize ps.getD k re0 = p at *
      obtain ⟨⟨d1, z1, A1, n1, c1⟩, e1, f1, k1⟩ := p
      unfold encE rawA rawN rawC at cl
      simp only [rawA, rawN, rawC, Nat.add_zero] at q0 q1 q2 cl
      have CL := Lib.hid cl
      clear cl hmem hkl
      go_wp2_with fail
      refine CL.out.mono ?_
      rintro e w1 ⟨rfl, hb⟩
      have HB2 := Lib.hid (below_next HB.out hb ⟨rfl, rfl, rfl, rfl⟩)
      clear hb CL
      cases bd
      · have HE2 := Lib.hid (show (ps.take (k + 1)).any badR = false by rw [hs1.out, HE.out]; rfl)
        go_wp2_with fail
        go_roundw
        case rel => exact ⟨k + 1, by omega, by go_num, Lib.hid ⟨HE2.out, HB2.out⟩⟩
        case measure => simp [intOf]; omega
      · have hv := Lib.hid (HP.out (k : Int) w1 (by rw [hh1.out rfl]; exact decide_eq_true hk0) HB2.out)
        go_wp2_with fail
        exact hv.out
    · have hki : decide ((k : Int) < (n : Int)) = false := by rw [decide_eq_false_iff_not]; omega
      have hv := Lib.hid (HP.out (-1) wr (by
        have e := HE.out
        rw [List.take_of_length_le (by rw [ll.out]; omega)] at e
        rw [e]; rfl) HB.out)
      go_wp2_with fail
      exact hv.out
set_option maxRecDepth 100000 in
theorem con48 (A : Option Addr) (n c : Nat) (ps : List RE) (w : World) (h : Res w A n c ps) (hz : ∀ p ∈ ps, Fit p.2.2.1 p.2.2.2) (hn : n ≤ 1000) (ht : Tab w) (hm : ML w) :
    Calls Tryz.prog 47 #[.slice A n c, .func (.func 48) #[] #[]] w (BoolPost (ps.any badR) w) := by
  have HI := Lib.hid (idx48 A n c ps w h hz hn ht hm)
  clear h hz ht hm
  go_enter Tryz.func47, Tryz.ntmps47
  go_wp2_with fail
  refine HI.out.mono ?_
  rintro e w1 ⟨i, rfl, hi, hb⟩
  have HI2 := Lib.hid hi
  have HB := Lib.hid hb
  clear hi hb HI
  go_wp2_with fail
  go_ret
  exact ⟨by rw [HI2.out]; rfl, HB.out⟩
end Go.Proofs.YtohdpidlilhnjaaGreatDoor
