/- Contracts of the reference's less, Check, Great (printed by gen_rchk.py). -/
import Derived.Test.YtejaehmoplohdaaGreatDoorQ6
import Derived.Test.YtejaehmoplohdaaGreatDoorQ3
import Derived.Test.YtejaehmoplohdaaGreatDoorQ2
import Derived.Deep.OwnRows
import Derived.WalkKit
import Derived.Test.YtejaehmoplohdaaGreatDoorChecked
import Derived.Lib.Hide
import Derived.StillTailTactics
import Derived.Deep.QuietTactic
import Derived.BigQuiet
import Derived.Deep.WholeRow
namespace Go.Proofs.YtejaehmoplohdaaGreatDoor
open Go.RowKit Go.Maps Num

/-- a balance comes before another one -/
def lessQ (x y : Ln) : Bool := decide (cmpKy (key x) (key y) < 0)
theorem cmpS_neg (a b : List UInt8) : cmpS a b < 0 ↔ a < b := by
  unfold cmpS
  split
  · rename_i h; exact ⟨fun _ => h, fun _ => by omega⟩
  · rename_i h
    split
    · exact ⟨fun h' => by omega, fun h' => absurd h' h⟩
    · exact ⟨fun h' => by omega, fun h' => absurd h' h⟩
theorem lessQ_iff (a c m a2 c2 m2 : List UInt8) : lessQ (a, c, m) (a2, c2, m2) = (Op.bytesLess a a2 || (a == a2 && Op.bytesLess c c2)) := by
  unfold lessQ
  have e : cmpKy (key (a, c, m)) (key (a2, c2, m2)) = if cmpS a a2 ≠ 0 then cmpS a a2 else cmpS c c2 := rfl
  rw [e, less_lt, less_lt, Bool.eq_iff_iff, decide_eq_true_iff, Bool.or_eq_true, Bool.and_eq_true, decide_eq_true_iff, decide_eq_true_iff, beq_iff_eq]
  split
  · rename_i h
    rw [cmpS_neg]
    exact ⟨.inl, fun h' => h'.elim id fun h2 => absurd (cmpS_zero.2 h2.1) h⟩
  · rename_i h
    have h := cmpS_zero.1 (Classical.not_not.1 h)
    subst h
    rw [cmpS_neg]
    exact ⟨fun h' => .inr ⟨rfl, h'⟩, fun h' => h'.elim (fun h2 => absurd h2 (List.lt_irrefl _)) fun h2 => h2.2⟩
set_option maxRecDepth 100000 in
set_option maxHeartbeats 1000000 in
theorem less_any (a c m a2 c2 m2 : List UInt8) (w : World) : Calls Tryz.prog 70 #[.agg #[.string ⟨a.toArray⟩, .string ⟨c.toArray⟩, .string ⟨m.toArray⟩], .agg #[.string ⟨a2.toArray⟩, .string ⟨c2.toArray⟩, .string ⟨m2.toArray⟩]] w fun e w' => e = .returned (.bool (lessQ (a, c, m) (a2, c2, m2))) ∧ Below w.heap.size w w' := by
  have hbx := Lib.hid (show Below w.heap.size w ((w.alloc (.cells #[.string ⟨a.toArray⟩, .string ⟨c.toArray⟩, .string ⟨m.toArray⟩] 38)).alloc (.cells #[.string ⟨a2.toArray⟩, .string ⟨c2.toArray⟩, .string ⟨m2.toArray⟩] 38)) from ((Below.refl _ w).alloc (Nat.le_refl _) _).alloc (by simp) _)
  have hl := lessQ_iff a c m a2 c2 m2
  generalize lessQ (a, c, m) (a2, c2, m2) = r at *
  cases h1 : Op.bytesLess a a2
  · rw [h1] at hl
    cases h2 : (a == a2)
    · have hv := Lib.hid (show r = false by rw [hl, h2]; rfl)
      clear hl
      go_enter Tryz.func70, Tryz.ntmps70
      go_wp2_with fail
      go_ret
      exact ⟨by rw [hv.out]; rfl, hbx.out⟩
    · cases h3 : Op.bytesLess c c2
      · have hv := Lib.hid (show r = false by rw [hl, h2, h3]; rfl)
        clear hl
        go_enter Tryz.func70, Tryz.ntmps70
        go_wp2_with fail
        go_ret
        exact ⟨by rw [hv.out]; rfl, hbx.out⟩
      · have hv := Lib.hid (show r = true by rw [hl, h2, h3]; rfl)
        clear hl
        go_enter Tryz.func70, Tryz.ntmps70
        go_wp2_with fail
        go_ret
        exact ⟨by rw [hv.out]; rfl, hbx.out⟩
  · have hv := Lib.hid (show r = true by rw [hl, h1]; rfl)
    clear hl
    go_enter Tryz.func70, Tryz.ntmps70
    go_wp2_with fail
    go_ret
    exact ⟨by rw [hv.out]; rfl, hbx.out⟩
theorem ordB_less (p x : Ln) : ordB (some (key p)) (key x) = !lessQ p x := by
  unfold lessQ
  show decide (0 ≤ cmpKy (key p) (key x)) = _
  rw [← decide_not, decide_eq_decide]
  omega
theorem lineI_am {a cu m : List UInt8} (h : chkI m ≠ 0) : lineI (a, cu, m) ≠ 0 := by
  unfold lineI
  split
  · split
    · exact h
    · decide
  · decide
theorem lineI_cu {a cu m : List UInt8} (h : curB cu = false) : lineI (a, cu, m) ≠ 0 := by
  unfold lineI
  split
  · split
    · rename_i h1; simp only at h1; rw [h] at h1; cases h1
    · decide
  · decide
set_option maxRecDepth 100000 in
set_option maxHeartbeats 8000000 in
theorem rCheckB_any (A : Option Addr) (n c : Nat) (l : List Ln) (w : World) (hl : rowB.Rds w A n c l) (hs : ∀ x ∈ l, x.1.length ≤ 100000 ∧ x.2.1.length ≤ 100000 ∧ x.2.2.length ≤ 100000) (hn : n ≤ 100000) :
    Calls Tryz.prog 39 #[.slice A n c] w (BoolPost (listB l) w) := by
  have ll := Lib.hid hl.len
  have L1 := Lib.hid hl
  have HS := Lib.hid hs
  have hv := Lib.hid (show listB l = decide (chkLs none l = 0) from rfl)
  have HP := Lib.hid (fun W (h : Below w.heap.size w W) => (show BoolPost (listB l) w (.returned (.bool (listB l))) W from ⟨rfl, h⟩))
  clear hl hs
  generalize BoolPost (listB l) w = Post at *
  generalize listB l = r at *
  have R0 := Lib.hid (show LisR w l 0 w from ⟨by rw [List.drop_zero]; rfl, Below.refl _ _⟩)
  go_enter Tryz.func39, Tryz.ntmps39
  go_wp2_with fail
  go_loopw [3] (fun i wr => ∃ k : Nat, k ≤ n ∧ i = .int .i64 (k : Int) ∧ Hid (LisR w l k wr)) (fun i _ => n - (intOf i).toNat)
  case atStart => exact ⟨0, by omega, rfl, R0⟩
  case round =>
    clear R0
    obtain ⟨k, hk, rfl, hR⟩ := hrel
    have hch := Lib.hid hR.out.1
    have HB := Lib.hid hR.out.2
    clear hR
    by_cases hlt : k < n
    · have hkl : k < l.length := by rw [ll.out]; exact hlt
      obtain ⟨b1, o1, rfl, hb1, _⟩ := L1.out.at_ (by omega)
      have c0 : ∀ p : Bel wr, p.W.cell? ⟨b1, o1 + k * 3, none⟩ = some (.string ⟨(l.getD k ln0).1.toArray⟩) := fun p => (L1.out.below (below_next HB.out p.h ⟨rfl, rfl, rfl, rfl⟩)).cell rowB_ok ln0 k 0 _ hlt rfl
      have c1 : ∀ p : Bel wr, p.W.cell? ⟨b1, o1 + k * 3 + 1, none⟩ = some (.string ⟨(l.getD k ln0).2.1.toArray⟩) := fun p => (L1.out.below (below_next HB.out p.h ⟨rfl, rfl, rfl, rfl⟩)).cell rowB_ok ln0 k 1 _ hlt rfl
      have c2 : ∀ p : Bel wr, p.W.cell? ⟨b1, o1 + k * 3 + 2, none⟩ = some (.string ⟨(l.getD k ln0).2.2.toArray⟩) := fun p => (L1.out.below (below_next HB.out p.h ⟨rfl, rfl, rfl, rfl⟩)).cell rowB_ok ln0 k 2 _ hlt rfl
      have hsx := Lib.hid (HS.out _ (lnAt_mem l k hkl))
      have hki : (k : Int) < (n : Int) := by omega
      have hdr := drop_ln l k hkl
      have hch2 := hch.out
      rw [hdr, chkLs_cons] at hch2
      have HC2 := Lib.hid hch2
      have hpk := Lib.hid (show prevAt l (k + 1) = some (key (l.getD k ln0)) from rfl)
      clear hdr hch2 hch
      generalize hxe : l.getD k ln0 = x at *
      obtain ⟨a, cu, m⟩ := x
      simp only at c0 c1 c2 hsx
      have H57 := Lib.hid (fun W => rCheck_any a W (by have := hsx.out.1; omega))
      have H58 := Lib.hid (fun W => (rcur_any ⟨cu.toArray⟩ W (by show cu.toArray.size ≤ maxLen; rw [List.size_toArray]; unfold maxLen; have := hsx.out.2.1; omega)).mono fun e w' h => (show e = .returned (.bool (curB cu)) ∧ Below W.heap.size W w' from ⟨h.1, by rw [← h.2]; exact Below.refl _ _⟩))
      have H59 := Lib.hid (fun W => (rchk_any m W hsx.out.2.2).mono fun e w' h => (show e = .returned (.int .i64 (chkI m)) ∧ Below W.heap.size W w' from ⟨h.1, by rw [← h.2]; exact Below.refl _ _⟩))
      go_upto_region 4 with fail
      cases hcb : codeB a
      · have hr := Lib.hid (show r = false by
          rw [hv.out, HC2.out, if_pos (lineI_acc hcb)]
          exact decide_eq_false (lineI_acc hcb))
        rw [show chkA a = 3 by unfold chkA; rw [hcb]; rfl] at H57
        clear hcb
        refine wp_region_quiet_bel (by kernel_rfl) (by kernel_rfl) ?_
        repeat (go_big_quiet_step (first
          | (go_at_call 67; with_reducible refine Calls.bel_of (H57.out _))
          | (go_at_call 68; with_reducible refine Calls.bel_of (H58.out _))
          | (go_at_call 69; with_reducible refine Calls.bel_of (H59.out _))))
        refine wpQuiet_nil ?_
        intro wq hw'
        obtain ⟨⟨wz, hq⟩, hw2⟩ := hw'
        have hw3 : wq = wz := hw2
        subst hw3
        clear hw2
        have HBq := Lib.hid (below_next HB.out hq ⟨rfl, rfl, rfl, rfl⟩)
        clear hq
        have hv1 := Lib.hid (HP.out wq HBq.out)
        rw [hr.out] at hv1
        go_wp2_with fail
        exact hv1.out
      rw [show chkA a = 0 by unfold chkA; rw [hcb]; rfl] at H57
      cases hcu : curB cu
      · have hr := Lib.hid (show r = false by
          rw [hv.out, HC2.out, if_pos (lineI_cu hcu)]
          exact decide_eq_false (lineI_cu hcu))
        rw [hcu] at H58
        clear hcu hcb
        refine wp_region_quiet_bel (by kernel_rfl) (by kernel_rfl) ?_
        repeat (go_big_quiet_step (first
          | (go_at_call 67; with_reducible refine Calls.bel_of (H57.out _))
          | (go_at_call 68; with_reducible refine Calls.bel_of (H58.out _))
          | (go_at_call 69; with_reducible refine Calls.bel_of (H59.out _))))
        refine wpQuiet_nil ?_
        intro wq hw'
        obtain ⟨⟨wz, hq⟩, hw2⟩ := hw'
        have hw3 : wq = wz := hw2
        subst hw3
        clear hw2
        have HBq := Lib.hid (below_next HB.out hq ⟨rfl, rfl, rfl, rfl⟩)
        clear hq
        have hv1 := Lib.hid (HP.out wq HBq.out)
        rw [hr.out] at hv1
        go_wp2_with fail
        exact hv1.out
      rw [hcu] at H58
      by_cases hci : chkI m = 0
      case neg =>
        have hr := Lib.hid (show r = false by
          rw [hv.out, HC2.out, if_pos (lineI_am hci)]
          exact decide_eq_false (lineI_am hci))
        have hne : (chkI m != 0) = true := by rw [bne_iff_ne]; exact hci
        generalize chkI m = v at *
        clear hcu hcb hci
        refine wp_region_quiet_bel (by kernel_rfl) (by kernel_rfl) ?_
        repeat (go_big_quiet_step (first
          | (go_at_call 67; with_reducible refine Calls.bel_of (H57.out _))
          | (go_at_call 68; with_reducible refine Calls.bel_of (H58.out _))
          | (go_at_call 69; with_reducible refine Calls.bel_of (H59.out _))))
        refine wpQuiet_nil ?_
        intro wq hw'
        obtain ⟨⟨wz, hq⟩, hw2⟩ := hw'
        have hw3 : wq = wz := hw2
        subst hw3
        clear hw2
        have HBq := Lib.hid (below_next HB.out hq ⟨rfl, rfl, rfl, rfl⟩)
        clear hq
        have hv1 := Lib.hid (HP.out wq HBq.out)
        rw [hr.out] at hv1
        go_wp2_with fail
        exact hv1.out
      have hli := lineI_parts hcu hci hcb
      rw [hci] at H59
      clear hcu hcb hci
      rcases m with _ | ⟨m0, mr⟩
      · have hr := Lib.hid (show r = false by
          rw [hv.out, HC2.out, if_neg (by rw [hli]; decide), if_pos rfl]
          rfl)
        clear hli
        refine wp_region_quiet_bel (by kernel_rfl) (by kernel_rfl) ?_
        repeat (go_big_quiet_step (first
          | (go_at_call 67; with_reducible refine Calls.bel_of (H57.out _))
          | (go_at_call 68; with_reducible refine Calls.bel_of (H58.out _))
          | (go_at_call 69; with_reducible refine Calls.bel_of (H59.out _))))
        refine wpQuiet_nil ?_
        intro wq hw'
        obtain ⟨⟨wz, hq⟩, hw2⟩ := hw'
        have hw3 : wq = wz := hw2
        subst hw3
        clear hw2
        have HBq := Lib.hid (below_next HB.out hq ⟨rfl, rfl, rfl, rfl⟩)
        clear hq
        have hv1 := Lib.hid (HP.out wq HBq.out)
        rw [hr.out] at hv1
        go_wp2_with fail
        exact hv1.out
      have HC3 := Lib.hid (show chkLs none l = if ordB (prevAt l k) (key (a, cu, m0 :: mr)) then 8 else chkLs (some (key (a, cu, m0 :: mr))) (l.drop (k + 1)) by
        rw [HC2.out, if_neg (by rw [hli]; decide), if_neg (by simp)])
      clear HC2 hli
      by_cases hk0 : k = 0
      · have hch2 := HC3.out
        rw [show ordB (prevAt l k) (key (a, cu, m0 :: mr)) = false by rw [hk0]; rfl, if_neg (by decide)] at hch2
        have HCH := Lib.hid hch2
        have hk0i : ¬ (0 : Int) < (k : Int) := by omega
        have hk0n : ¬ 0 < k := by omega
        clear hk0 hch2 HC3
        refine wp_region_quiet_bel (by kernel_rfl) (by kernel_rfl) ?_
        repeat (go_big_quiet_step (first
          | (go_at_call 67; with_reducible refine Calls.bel_of (H57.out _))
          | (go_at_call 68; with_reducible refine Calls.bel_of (H58.out _))
          | (go_at_call 69; with_reducible refine Calls.bel_of (H59.out _))))
        refine wpQuiet_nil ?_
        intro wq hw'
        obtain ⟨⟨wz, hq⟩, hw2⟩ := hw'
        have hw3 : wq = wz := hw2
        subst hw3
        clear hw2
        have HBq := Lib.hid (below_next HB.out hq ⟨rfl, rfl, rfl, rfl⟩)
        clear hq
        have RR := Lib.hid (show LisR w l (k + 1) wq from ⟨by rw [hpk.out]; exact HCH.out, HBq.out⟩)
        clear hpk
        go_wp2_with fail
        exact ⟨⟨k + 1, by omega, by go_num, RR⟩, by simp [intOf]; omega⟩
      obtain ⟨j, hj⟩ : ∃ j, k = j + 1 := ⟨k - 1, by omega⟩
      have hjn : j < n := by omega
      have d0 : ∀ p : Bel wr, p.W.cell? ⟨b1, o1 + j * 3, none⟩ = some (.string ⟨(l.getD j ln0).1.toArray⟩) := fun p => (L1.out.below (below_next HB.out p.h ⟨rfl, rfl, rfl, rfl⟩)).cell rowB_ok ln0 j 0 _ hjn rfl
      have d1 : ∀ p : Bel wr, p.W.cell? ⟨b1, o1 + j * 3 + 1, none⟩ = some (.string ⟨(l.getD j ln0).2.1.toArray⟩) := fun p => (L1.out.below (below_next HB.out p.h ⟨rfl, rfl, rfl, rfl⟩)).cell rowB_ok ln0 j 1 _ hjn rfl
      have d2 : ∀ p : Bel wr, p.W.cell? ⟨b1, o1 + j * 3 + 2, none⟩ = some (.string ⟨(l.getD j ln0).2.2.toArray⟩) := fun p => (L1.out.below (below_next HB.out p.h ⟨rfl, rfl, rfl, rfl⟩)).cell rowB_ok ln0 j 2 _ hjn rfl
      have hpv : prevAt l k = some (key (l.getD j ln0)) := by rw [hj]; rfl
      have hch2 := HC3.out
      rw [hpv, ordB_less] at hch2
      have hw : IntKind.i64.wrap ((k : Int) - 1) = (j : Int) := (IntWalk.i64_in _ (by omega)).trans (by omega)
      have hji : (j : Int) < (n : Int) := by omega
      have hk0i : (0 : Int) < (k : Int) := by omega
      have hk0n : 0 < k := by omega
      clear hpv hj hk0 HC3
      generalize l.getD j ln0 = y at *
      obtain ⟨ya, yc, ym⟩ := y
      simp only at d0 d1 d2
      have H60 := Lib.hid (fun W => less_any ya yc ym a cu (m0 :: mr) W)
      generalize lessQ (ya, yc, ym) (a, cu, m0 :: mr) = ls at *
      cases ls
      · rw [Bool.not_false, if_pos rfl] at hch2
        have hr := Lib.hid (show r = false by rw [hv.out, hch2]; rfl)
        clear hch2
        refine wp_region_quiet_bel (by kernel_rfl) (by kernel_rfl) ?_
        repeat (go_big_quiet_step (first
          | (go_at_call 67; with_reducible refine Calls.bel_of (H57.out _))
          | (go_at_call 68; with_reducible refine Calls.bel_of (H58.out _))
          | (go_at_call 69; with_reducible refine Calls.bel_of (H59.out _))
          | (go_at_call 70; with_reducible refine Calls.bel_of (H60.out _))))
        refine wpQuiet_nil ?_
        intro wq hw'
        obtain ⟨⟨wz, hq⟩, hw2⟩ := hw'
        have hw3 : wq = wz := hw2
        subst hw3
        clear hw2
        have HBq := Lib.hid (below_next HB.out hq ⟨rfl, rfl, rfl, rfl⟩)
        clear hq
        have hv1 := Lib.hid (HP.out wq HBq.out)
        rw [hr.out] at hv1
        go_wp2_with fail
        exact hv1.out
      · rw [Bool.not_true, if_neg (by decide)] at hch2
        have HCH := Lib.hid hch2
        clear hch2
        refine wp_region_quiet_bel (by kernel_rfl) (by kernel_rfl) ?_
        repeat (go_big_quiet_step (first
          | (go_at_call 67; with_reducible refine Calls.bel_of (H57.out _))
          | (go_at_call 68; with_reducible refine Calls.bel_of (H58.out _))
          | (go_at_call 69; with_reducible refine Calls.bel_of (H59.out _))
          | (go_at_call 70; with_reducible refine Calls.bel_of (H60.out _))))
        refine wpQuiet_nil ?_
        intro wq hw'
        obtain ⟨⟨wz, hq⟩, hw2⟩ := hw'
        have hw3 : wq = wz := hw2
        subst hw3
        clear hw2
        have HBq := Lib.hid (below_next HB.out hq ⟨rfl, rfl, rfl, rfl⟩)
        clear hq
        have RR := Lib.hid (show LisR w l (k + 1) wq from ⟨by rw [hpk.out]; exact HCH.out, HBq.out⟩)
        clear hpk
        go_wp2_with fail
        exact ⟨⟨k + 1, by omega, by go_num, RR⟩, by simp [intOf]; omega⟩
    · have hkn : k = n := by omega
      subst hkn
      have hki : ¬ (k : Int) < (k : Int) := by omega
      have hr := Lib.hid (show r = true by
        rw [hv.out, hch.out, List.drop_of_length_le (by rw [ll.out]; exact Nat.le_refl _)]
        rfl)
      have hv1 := Lib.hid (HP.out wr HB.out)
      rw [hr.out] at hv1
      go_wp2_with fail
      exact hv1.out
end Go.Proofs.YtejaehmoplohdaaGreatDoor

/- Ledgers, plain: the rows of an account. -/
namespace Go.Proofs.YtejaehmoplohdaaGreatDoor
open Go.RowKit Go.Maps Num

/-- a row: day, cause, amount, running -/
abbrev Rw := Int × List UInt8 × List UInt8 × List UInt8
/-- the sum of a key in all entries -/
def totE (l : List En) (k : Ky) : Int := (l.map fun e => tot e.2.2 k).sum
theorem totE_cons (e : En) (l : List En) (k : Ky) : totE (e :: l) k = tot e.2.2 k + totE l k := by simp [totE]
theorem totE_snoc (l : List En) (e : En) (k : Ky) : totE (l ++ [e]) k = totE l k + tot e.2.2 k := by simp [totE]
theorem totE_nil (k : Ky) : totE [] k = 0 := rfl
/-- the rows of entries, behind a sum -/
def rowsE (k : Ky) : Int → List En → List Rw
  | _, [] => []
  | s, e :: r => if tot e.2.2 k = 0 then rowsE k s r else (e.1, e.2.1, txt (tot e.2.2 k), txt (s + tot e.2.2 k)) :: rowsE k (s + tot e.2.2 k) r
theorem rowsE_snoc (k : Ky) : ∀ (s : Int) (l : List En) (e : En), rowsE k s (l ++ [e]) = rowsE k s l ++ if tot e.2.2 k = 0 then [] else [(e.1, e.2.1, txt (tot e.2.2 k), txt (s + totE l k + tot e.2.2 k))]
  | s, [], e => by
    rw [List.nil_append, rowsE, rowsE, totE_nil, rowsE]
    split <;> simp [rowsE]
  | s, x :: l, e => by
    rw [List.cons_append, rowsE, rowsE, totE_cons]
    split
    · rename_i h
      rw [rowsE_snoc k s l e, h, Int.zero_add]
    · rw [rowsE_snoc k _ l e, List.cons_append, Int.add_assoc s (tot x.2.2 k) (totE l k)]
theorem rowsE_len (k : Ky) : ∀ (s : Int) (l : List En), (rowsE k s l).length ≤ l.length
  | _, [] => Nat.le_refl _
  | s, e :: l => by
    rw [rowsE]
    split
    · have := rowsE_len k s l; rw [List.length_cons]; omega
    · have := rowsE_len k (s + tot e.2.2 k) l; rw [List.length_cons, List.length_cons]; omega
/-- the sum of rows' amounts -/
def rsum (r : List Rw) : Int := (r.map fun x => val x.2.2.1).sum
theorem rsum_cons (x : Rw) (r : List Rw) : rsum (x :: r) = val x.2.2.1 + rsum r := by simp [rsum]
theorem rsum_snoc (r : List Rw) (x : Rw) : rsum (r ++ [x]) = rsum r + val x.2.2.1 := by simp [rsum]
theorem rsum_nil : rsum [] = 0 := rfl
def rw0 : Rw := (0, [], [], [])
theorem rows_run (k : Ky) : ∀ (s : Int) (l : List En) (i : Nat), i < (rowsE k s l).length → ((rowsE k s l).getD i rw0).2.2.2 = txt (s + rsum ((rowsE k s l).take (i + 1)))
  | _, [], i, h => by cases h
  | s, e :: l, i, h => by
    rw [rowsE] at h ⊢
    split
    · rename_i h0; rw [if_pos h0] at h; exact rows_run k s l i h
    · rename_i h0
      rw [if_neg h0] at h
      cases i with
      | zero => simp [rsum, val_txt]
      | succ i =>
        have := rows_run k (s + tot e.2.2 k) l i (by simpa using h)
        rw [List.getD_cons_succ, this, List.take_succ_cons, rsum_cons, val_txt, Int.add_assoc]
theorem rows_ne (k : Ky) : ∀ (s : Int) (l : List En), ∀ x ∈ rowsE k s l, x.2.2.1 ≠ []
  | _, [], x, h => by cases h
  | s, e :: l, x, h => by
    rw [rowsE] at h
    split at h
    · exact rows_ne k s l x h
    · rename_i h0
      rcases List.mem_cons.1 h with rfl | h
      · exact fun e' => h0 (txt_nil.1 e')
      · exact rows_ne k _ l x h
theorem rows_day (k : Ky) : ∀ (s : Int) (l : List En), ∀ x ∈ rowsE k s l, ∃ e ∈ l, x.1 = e.1
  | _, [], x, h => by cases h
  | s, e :: l, x, h => by
    rw [rowsE] at h
    split at h
    · obtain ⟨e', h1, h2⟩ := rows_day k s l x h
      exact ⟨e', by simp [h1], h2⟩
    · rcases List.mem_cons.1 h with rfl | h
      · exact ⟨e, by simp, rfl⟩
      · obtain ⟨e', h1, h2⟩ := rows_day k _ l x h
        exact ⟨e', by simp [h1], h2⟩
theorem rows_srt (k : Ky) : ∀ (s : Int) (l : List En), l.Pairwise (fun a b => a.1 ≤ b.1) → (rowsE k s l).Pairwise fun a b => a.1 ≤ b.1
  | _, [], _ => List.Pairwise.nil
  | s, e :: l, h => by
    rw [List.pairwise_cons] at h
    rw [rowsE]
    split
    · exact rows_srt k s l h.2
    · refine List.pairwise_cons.2 ⟨fun x hx => ?_, rows_srt k _ l h.2⟩
      obtain ⟨e', h1, h2⟩ := rows_day k _ l x hx
      rw [h2]
      exact h.1 e' h1
theorem rows_flat (k : Ky) (d : Int) : ∀ (s : Int) (l : List En), rsum ((rowsE k s l).filter fun x => decide (x.1 ≤ d)) = tot (flat l fun x => decide (x ≤ d)) k
  | _, [] => rfl
  | s, e :: l => by
    rw [rowsE, flat_cons, tot_append]
    split
    · rename_i h0
      rw [rows_flat k d s l]
      split
      · rw [h0]; omega
      · rw [tot_nil]; omega
    · rw [List.filter_cons]
      by_cases h : e.1 ≤ d
      · rw [if_pos (by exact decide_eq_true h), if_pos (decide_eq_true h), rsum_cons, val_txt, rows_flat k d _ l]
      · rw [if_neg (by show ¬ decide (e.1 ≤ d) = true; rw [decide_eq_false h]; decide), if_neg (by rw [decide_eq_false h]; decide), rows_flat k d _ l, tot_nil]; omega
theorem flat_perm {a b : List En} (h : a.Perm b) (p : Int → Bool) (k : Ky) : tot (flat a p) k = tot (flat b p) k := by
  induction h with
  | nil => rfl
  | cons x _ ih => rw [flat_cons, flat_cons, tot_append, tot_append, ih]
  | swap x y l => rw [flat_cons, flat_cons, flat_cons, flat_cons, tot_append, tot_append, tot_append, tot_append]; omega
  | trans _ _ h1 h2 => exact h1.trans h2
/-- rows in order: those up to a day, where a later one follows, are the first ones -/
theorem rows_take {r : List Rw} (h : r.Pairwise fun a b => a.1 ≤ b.1) {i : Nat} (hi : i < r.length) (hn : i + 1 = r.length ∨ (r.getD i rw0).1 < (r.getD (i + 1) rw0).1) : r.filter (fun x => decide (x.1 ≤ (r.getD i rw0).1)) = r.take (i + 1) := by
  have h1 : r.getD i rw0 = r[i] := by rw [List.getD_eq_getElem?_getD, List.getElem?_eq_getElem hi]; rfl
  rw [List.pairwise_iff_getElem] at h
  have e1 : (r.take (i + 1)).filter (fun x => decide (x.1 ≤ (r.getD i rw0).1)) = r.take (i + 1) := by
    rw [List.filter_eq_self]
    intro x hx
    obtain ⟨j, hj, rfl⟩ := List.mem_iff_getElem.1 hx
    rw [List.length_take] at hj
    rw [List.getElem_take, h1]
    refine decide_eq_true ?_
    rcases Nat.lt_or_eq_of_le (show j ≤ i by omega) with hl | rfl
    · exact h j i (by omega) hi hl
    · exact Int.le_refl _
  have e2 : (r.drop (i + 1)).filter (fun x => decide (x.1 ≤ (r.getD i rw0).1)) = [] := by
    rw [List.filter_eq_nil_iff]
    intro x hx
    obtain ⟨j, hj, rfl⟩ := List.mem_iff_getElem.1 hx
    rw [List.length_drop] at hj
    have hlt : (r.getD i rw0).1 < (r.getD (i + 1) rw0).1 := by
      rcases hn with hn | hn
      · omega
      · exact hn
    have h2 : r.getD (i + 1) rw0 = r[i + 1] := by rw [List.getD_eq_getElem?_getD, List.getElem?_eq_getElem (by omega)]; rfl
    rw [List.getElem_drop]
    have h3 : r[i + 1].1 ≤ (r[i + 1 + j]).1 := by
      rcases Nat.eq_zero_or_pos j with rfl | hj0
      · exact Int.le_refl _
      · exact h (i + 1) (i + 1 + j) (by omega) (by omega) (by omega)
    rw [h2] at hlt
    intro h4
    have := of_decide_eq_true h4
    omega
  have e3 : r.filter (fun x => decide (x.1 ≤ (r.getD i rw0).1)) = (r.take (i + 1) ++ r.drop (i + 1)).filter (fun x => decide (x.1 ≤ (r.getD i rw0).1)) := by rw [List.take_append_drop]
  rw [e3, List.filter_append, e1, e2, List.append_nil]
theorem rows_last {r : List Rw} (h : ∀ x ∈ r, x.1 ≤ 84005) : r.filter (fun x => decide (x.1 ≤ 84005)) = r := by
  rw [List.filter_eq_self]
  intro x hx
  exact decide_eq_true (h x hx)
/-- entries in order -/
def srtE (l : List En) : List En := l.mergeSort fun a b => decide (cmpE a b ≤ 0)
theorem srtE_perm (l : List En) : (srtE l).Perm l := List.mergeSort_perm _ _
theorem srtE_srt (l : List En) : Srt cmpE (srtE l) := by
  have h := List.pairwise_mergeSort (le := fun a b => decide (cmpE a b ≤ 0)) (fun a b c h1 h2 => by
    simp only [decide_eq_true_eq] at *
    exact cmpE_cmp.le_tr h1 h2) (fun a b => by
    simp only [Bool.or_eq_true, decide_eq_true_eq]
    have := cmpE_cmp.anti a b
    omega) l
  exact h.imp fun h => of_decide_eq_true h
theorem srtE_days {l : List En} : (srtE l).Pairwise fun a b => a.1 ≤ b.1 := (srtE_srt l).imp fun {a b} h => by
  have h2 : (if cmpI a.1 b.1 ≠ 0 then cmpI a.1 b.1 else orC (fun a b : En => cmpS a.2.1 b.2.1) (fun a b => cmpLs cmpL a.2.2 b.2.2) a b) ≤ 0 := h
  split at h2
  · unfold cmpI at h2
    split at h2
    · omega
    · split at h2 <;> omega
  · rename_i h0
    have := (cmpI_zero).1 (Classical.not_not.1 h0)
    omega
/-- the rows of entries, in their order -/
def rowsL (es : List En) (k : Ky) : List Rw := rowsE k 0 (srtE es)
end Go.Proofs.YtejaehmoplohdaaGreatDoor

/- Contracts of slices.Equal at balances, rows, numbers; of the law's line and usd; of ledger.Same (printed by gen_eq.py). -/
namespace Go.Proofs.YtejaehmoplohdaaGreatDoor
open Go.RowKit Go.Maps Num

def RV (x : Rw) : List Value := [.int .i64 x.1, .string ⟨x.2.1.toArray⟩, .string ⟨x.2.2.1.toArray⟩, .string ⟨x.2.2.2.toArray⟩]
abbrev rowI : Row (List UInt8) := ⟨68, 31, .string ⟨#[]⟩, 1, 16, fun s => [.string ⟨s.toArray⟩]⟩
theorem take_gen {α : Type} (x0 : α) (l : List α) (k : Nat) (h : k < l.length) : l.take (k + 1) = l.take k ++ [l.getD k x0] := by
  rw [List.take_succ_eq_append_getElem h, List.getD_eq_getElem?_getD, List.getElem?_eq_getElem h]; rfl
def EqG {α : Type} (w : World) (l m : List α) (k : Nat) (W : World) : Prop := l.take k = m.take k ∧ Below w.heap.size w W

end Go.Proofs.YtejaehmoplohdaaGreatDoor

/- Codes under codes; contracts of Under. -/
namespace Go.Proofs.YtejaehmoplohdaaGreatDoor
open Go.RowKit

theorem below_drewN {B : Nat} {w w' : World} (h : Below B w w') (n : Nat) : Below B w (w'.drewN n) := ⟨h.os, h.tape, h.output, h.size, h.block⟩
/-- a code lies under another one -/
def undB (c p : List UInt8) : Bool := p.isPrefixOf c && (decide (c.drop p.length = []) || decide ((c.drop p.length).getD 0 0 = 46))
theorem und_iff (c p : List UInt8) : undB c p = true ↔ c = p ∨ ∃ r, c = p ++ 46 :: r := by
  unfold undB
  rw [Bool.and_eq_true, Bool.or_eq_true, decide_eq_true_iff, decide_eq_true_iff, List.isPrefixOf_iff_prefix]
  constructor
  · rintro ⟨⟨r, rfl⟩, h⟩
    rw [List.drop_left] at h
    cases r with
    | nil => exact .inl (by simp)
    | cons x r =>
      rcases h with h | h
      · cases h
      · exact .inr ⟨r, by rw [show x = 46 from h]⟩
  · rintro (rfl | ⟨r, rfl⟩)
    · exact ⟨List.prefix_refl _, .inl (by simp)⟩
    · exact ⟨⟨_, rfl⟩, .inr (by rw [List.drop_left]; rfl)⟩
theorem und_refl (a : List UInt8) : undB a a = true := (und_iff a a).2 (.inl rfl)
theorem und_antisym {a b : List UInt8} (h : undB a b = true) (g : undB b a = true) : a = b := by
  rcases (und_iff a b).1 h with h | ⟨r, h⟩
  · exact h
  · rcases (und_iff b a).1 g with g | ⟨q, g⟩
    · exact g.symm
    · have := congrArg List.length h
      have := congrArg List.length g
      simp at *
      omega
theorem und_trans {a b c : List UInt8} (h : undB a b = true) (g : undB b c = true) : undB a c = true := by
  rw [und_iff] at *
  rcases h with rfl | ⟨r, rfl⟩
  · exact g
  · rcases g with rfl | ⟨q, rfl⟩
    · exact .inr ⟨r, rfl⟩
    · exact .inr ⟨q ++ 46 :: r, by simp⟩
theorem und_linear {a b c : List UInt8} (h : undB a b = true) (g : undB a c = true) : undB b c = true ∨ undB c b = true := by
  rw [und_iff] at *
  rw [und_iff c b]
  rcases h with rfl | ⟨r, h⟩
  · exact .inl g
  · rcases g with rfl | ⟨q, g⟩
    · exact .inr (.inr ⟨r, h⟩)
    · have e : b ++ 46 :: r = c ++ 46 :: q := h.symm.trans g
      rcases List.append_eq_append_iff.1 e with ⟨x, h1, h2⟩ | ⟨x, h1, h2⟩
      · cases x with
        | nil => exact .inl (.inl (by simpa using h1.symm))
        | cons y x =>
          rw [List.cons_append, List.cons.injEq] at h2
          exact .inr (.inr ⟨x, by rw [h1, ← h2.1]⟩)
      · cases x with
        | nil => exact .inl (.inl (by simpa using h1))
        | cons y x =>
          rw [List.cons_append, List.cons.injEq] at h2
          exact .inl (.inr ⟨x, by rw [h1, ← h2.1]⟩)
theorem ext_take (c : List UInt8) (n : Nat) : ((⟨c.toArray⟩ : ByteArray).extract 0 n).toList = c.take n := by
  rw [ByteArray.toList_eq, ByteArray.data_extract]
  simp
theorem ba_getA (c : List UInt8) (n : Nat) (h : n < c.length) : (⟨c.toArray⟩ : ByteArray)[n]'h = c[n] := rfl
end Go.Proofs.YtejaehmoplohdaaGreatDoor

/- Contracts of the reference's Great, the law's total, ContainsFunc and Contains at balances (printed by gen_cont.py). -/
namespace Go.Proofs.YtejaehmoplohdaaGreatDoor
open Go.RowKit Go.Maps Num

/-- larger than the statements examine -/
def grLB (l : List Ln) : Bool := l.any lnG || decide (16 < l.length)
set_option maxRecDepth 100000 in
set_option maxHeartbeats 4000000 in
theorem rGreatB_any (A : Option Addr) (n c : Nat) (l : List Ln) (w : World) (hl : rowB.Rds w A n c l) : Calls Tryz.prog 9 #[.slice A n c] w (BoolPost (grLB l) w) := by
  have ll := Lib.hid hl.len
  have L1 := Lib.hid hl
  have HP := Lib.hid (fun W b (h : grLB l = b) (hb : Below w.heap.size w W) => (show BoolPost (grLB l) w (.returned (.bool b)) W from ⟨by rw [h], hb⟩))
  have HG := Lib.hid (show grLB l = (l.any lnG || decide (16 < n)) by rw [← hl.len]; rfl)
  have htop : n ≤ maxLen := Nat.le_trans hl.cap hl.top
  unfold maxLen at htop
  generalize BoolPost (grLB l) w = Post at *
  generalize grLB l = r at *
  clear hl
  go_enter Tryz.func9, Tryz.ntmps9
  go_wp2_with fail
  go_loopw [3] (fun i wr => ∃ k : Nat, k ≤ n ∧ i = .int .i64 (k : Int) ∧ Hid (∀ x ∈ l.take k, lnG x = false) ∧ Hid (Below w.heap.size w wr)) (fun i _ => n - (intOf i).toNat)
  case atStart => exact ⟨0, by omega, rfl, Lib.hid (by simp), Lib.hid (Below.refl _ _)⟩
  case round =>
    obtain ⟨k, hk, rfl, HE, HB⟩ := hrel
    by_cases hlt : k < n
    · have hkl : k < l.length := by rw [ll.out]; exact hlt
      obtain ⟨b1, o1, rfl, hb1, _⟩ := L1.out.at_ (by omega)
      have p0 := (L1.out.below HB.out).cell rowB_ok ln0 k 0 _ hlt rfl
      have p1 := (L1.out.below HB.out).cell rowB_ok ln0 k 1 _ hlt rfl
      have p2 := (L1.out.below HB.out).cell rowB_ok ln0 k 2 _ hlt rfl
      have hki : (k : Int) < (n : Int) := by omega
      have HT := Lib.hid (fun h => HG.out.trans (by rw [any_take hkl h, Bool.true_or]))
      have HTK := Lib.hid (take_ln l k hkl)
      clear hkl
      generalize l.getD k ln0 = y at *
      obtain ⟨ya, yc, ym⟩ := y
      simp only [Nat.add_zero] at p0 p1 p2
      have LC := Lib.hid (fun W => rlong_all ym W)
      unfold RetP at LC
      have HY := Lib.hid (show lnG (ya, yc, ym) = (decide (60 < ya.length) || decide (60 < yc.length) || decide (13 < ym.length)) from rfl)
      obtain ⟨gy, hgy⟩ : ∃ gy, lnG (ya, yc, ym) = gy := ⟨_, rfl⟩
      rw [hgy] at HT HY
      have HYG := Lib.hid hgy
      clear hgy
      by_cases g1 : 60 < ya.length
      · have u1 : decide (60 < (ya.length : Int)) = true := by rw [decide_eq_true_iff]; omega
        have hv := Lib.hid (HT.out (by rw [HY.out, decide_eq_true g1]; rfl))
        clear g1
        go_wp2_with fail
        exact HP.out _ _ hv.out HB.out
      have u1 : decide (60 < (ya.length : Int)) = false := by rw [decide_eq_false_iff_not]; omega
      by_cases g2 : 60 < yc.length
      · have u2 : decide (60 < (yc.length : Int)) = true := by rw [decide_eq_true_iff]; omega
        have hv := Lib.hid (HT.out (by rw [HY.out, decide_eq_false g1, decide_eq_true g2]; rfl))
        clear g1 g2
        go_wp2_with fail
        exact HP.out _ _ hv.out HB.out
      have u2 : decide (60 < (yc.length : Int)) = false := by rw [decide_eq_false_iff_not]; omega
      have HY2 := Lib.hid (show gy = decide (13 < ym.length) by rw [HY.out, decide_eq_false g1, decide_eq_false g2]; rfl)
      clear HY g1 g2
      generalize decide (13 < ym.length) = lg at *
      go_wp2_with fail
      refine (LC.out _).mono ?_
      rintro e w' ⟨rfl, rfl⟩
      cases lg
      · have HE2 := Lib.hid (show ∀ x ∈ l.take (k + 1), lnG x = false from fun x hx => by
          rw [HTK.out] at hx
          rcases List.mem_append.1 hx with h | h
          · exact HE.out x h
          · rw [List.mem_singleton.1 h]; exact HYG.out.trans HY2.out)
        go_wp2_with fail
        exact ⟨⟨k + 1, by omega, by go_num, HE2, HB⟩, by simp [intOf]; omega⟩
      · have hv := Lib.hid (HT.out HY2.out)
        go_wp2_with fail
        exact HP.out _ _ hv.out HB.out
    · have hkn : k = n := by omega
      subst hkn
      have hki : ¬ (k : Int) < (k : Int) := by omega
      have e := HE.out
      rw [List.take_of_length_le (by rw [ll.out]; exact Nat.le_refl _)] at e
      have e16 : decide (16 < (k : Int)) = decide (16 < k) := by rw [decide_eq_decide]; omega
      have hv := Lib.hid (show r = decide (16 < k) by rw [HG.out, any_none e, Bool.false_or])
      clear e HE
      generalize decide (16 < k) = b16 at *
      go_wp2_with fail
      exact HP.out _ _ hv.out HB.out
theorem curT_sbd (l : List Ln) (h : ∀ x ∈ l, Sml x) (cu : List UInt8) : (curT l cu).natAbs ≤ l.length * big := by
  induction l with
  | nil => simp [curT]
  | cons x r ih =>
    have h1 := ih fun y hy => h y (by simp [hy])
    have h2 := tot_bd [x] (fun y hy => h y (by simp at hy; simp [hy])) (key x)
    rw [tot_cons, if_pos rfl, tot_nil] at h2
    simp only [List.length_cons, List.length_nil] at h2
    rw [curT_cons, List.length_cons, Nat.add_mul]
    split <;> omega
theorem curT_take (l : List Ln) (k : Nat) (h : k < l.length) (cu : List UInt8) : curT (l.take (k + 1)) cu = curT (l.take k) cu + if (l.getD k ln0).2.1 = cu then val (l.getD k ln0).2.2 else 0 := by
  rw [take_ln l k h, curT_snoc]
structure TotR (w : World) (l : List Ln) (cu : List UInt8) (k : Nat) (v : Value) (W : World) : Prop where
  v : v = .string ⟨(txt (curT (l.take k) cu)).toArray⟩
  bel : Below w.heap.size w W
theorem anyB_snoc (P : Ln → Bool) (l : List Ln) (k : Nat) (h : k < l.length) : (l.take (k + 1)).any P = ((l.take k).any P || P (l.getD k ln0)) := by
  rw [take_ln l k h, List.any_append]; simp

end Go.Proofs.YtejaehmoplohdaaGreatDoor

/- Audit, plain: nodes, trees, proofs. -/
namespace Go.Proofs.YtejaehmoplohdaaGreatDoor
open Go.RowKit Go.Maps Num

/-- a node: a sum and a digest -/
abbrev Nd := List UInt8 × List UInt8
def cutLoop : Nat → Nat → Nat → Nat
  | 0, k, _ => k
  | f + 1, k, n => if 2 * k < n then cutLoop f (2 * k) n else k
/-- how many balances the first part of a tree has -/
def cutN (n : Nat) : Nat := cutLoop n 1 n
theorem cutLoop_stop (f k n : Nat) (h : ¬ 2 * k < n) : cutLoop f k n = k := by cases f <;> simp [cutLoop, h]
theorem cutLoop_bounds (f k n : Nat) (h1 : 1 ≤ k) (h2 : k < n) : 1 ≤ cutLoop f k n ∧ cutLoop f k n < n := by
  induction f generalizing k with
  | zero => exact ⟨h1, h2⟩
  | succ f ih =>
    rw [cutLoop]
    split
    · exact ih (2 * k) (by omega) (by assumption)
    · exact ⟨h1, h2⟩
theorem cutN_pos (n : Nat) (h : 2 ≤ n) : 1 ≤ cutN n := (cutLoop_bounds n 1 n (by omega) (by omega)).1
theorem cutN_lt (n : Nat) (h : 2 ≤ n) : cutN n < n := (cutLoop_bounds n 1 n (by omega) (by omega)).2
/-- the text of a number -/
def prt (a : List UInt8) : List UInt8 := if can a = [] then [48] else can a
def absT (a : List UInt8) : List UInt8 := txt ((val a).natAbs : Int)
def leafT (b : Ln) : List UInt8 := 0 :: (b.1 ++ 32 :: (b.2.1 ++ 32 :: prt b.2.2))
def overT (x y : Nd) : List UInt8 := 1 :: (prt x.1 ++ 32 :: (x.2 ++ (prt y.1 ++ 32 :: y.2)))
section
variable (D : List UInt8 → List UInt8)
def leafN (b : Ln) : Nd := (absT b.2.2, D (leafT b))
def overN (x y : Nd) : Nd := (txt (val x.1 + val y.1), D (overT x y))
def rootF : Nat → List Ln → Nd
  | 0, _ => ([], [])
  | f + 1, l => if l.length = 0 then ([], D []) else if l.length = 1 then leafN D (l.getD 0 ln0) else overN D (rootF f (l.take (cutN l.length))) (rootF f (l.drop (cutN l.length)))
/-- the root of the tree over balances -/
def rootN (l : List Ln) : Nd := rootF D (l.length + 1) l
theorem rootF_more (f g : Nat) (l : List Ln) (hf : l.length < f) (hg : l.length < g) : rootF D f l = rootF D g l := by
  induction f generalizing g l with
  | zero => omega
  | succ f ih =>
    cases g with
    | zero => omega
    | succ g =>
      rw [rootF, rootF]
      split
      · rfl
      split
      · rfl
      have h2 : 2 ≤ l.length := by omega
      have h3 := cutN_pos _ h2
      have h4 := cutN_lt _ h2
      rw [ih g (l.take (cutN l.length)) (by rw [List.length_take]; omega) (by rw [List.length_take]; omega), ih g (l.drop (cutN l.length)) (by rw [List.length_drop]; omega) (by rw [List.length_drop]; omega)]
theorem root_nil : rootN D [] = ([], D []) := rfl
theorem root_one (b : Ln) : rootN D [b] = leafN D b := rfl
theorem root_two (l : List Ln) (h : 2 ≤ l.length) : rootN D l = overN D (rootN D (l.take (cutN l.length))) (rootN D (l.drop (cutN l.length))) := by
  have h3 := cutN_pos _ h
  have h4 := cutN_lt _ h
  unfold rootN
  rw [rootF, if_neg (by omega), if_neg (by omega), rootF_more D l.length ((l.take (cutN l.length)).length + 1) (l.take (cutN l.length)) (by rw [List.length_take]; omega) (Nat.lt_succ_self _), rootF_more D l.length ((l.drop (cutN l.length)).length + 1) (l.drop (cutN l.length)) (by rw [List.length_drop]; omega) (Nat.lt_succ_self _)]
end
/-- the parts beside the way to a balance, from the root on: where they begin and end, and whether they stand behind the way -/
def partsF : Nat → Nat → Nat → Nat → List (Nat × Nat × Bool)
  | 0, _, _, _ => []
  | f + 1, i, a, b => if b - a ≤ 1 then [] else if i < a + cutN (b - a) then (a + cutN (b - a), b, true) :: partsF f i a (a + cutN (b - a)) else (a, a + cutN (b - a), false) :: partsF f i (a + cutN (b - a)) b
def partsN (i n : Nat) : List (Nat × Nat × Bool) := partsF n i 0 n
/-- the parts beside the way, from the balance on -/
def besideN (i n : Nat) : List (Nat × Nat × Bool) := (partsN i n).reverse
theorem partsF_more (f g i a b : Nat) (hf : b - a ≤ f) (hg : b - a ≤ g) : partsF f i a b = partsF g i a b := by
  induction f generalizing g a b with
  | zero =>
    cases g with
    | zero => rfl
    | succ g => rw [partsF, partsF, if_pos (by omega)]
  | succ f ih =>
    cases g with
    | zero => rw [partsF, partsF, if_pos (by omega)]
    | succ g =>
      rw [partsF, partsF]
      split
      · rfl
      have h2 : 2 ≤ b - a := by omega
      have h3 := cutN_pos _ h2
      have h4 := cutN_lt _ h2
      rw [ih g a _ (by omega) (by omega), ih g _ b (by omega) (by omega)]
/-- whether the parts beside the way stand behind it, from the root on -/
def wayF : Nat → Nat → Nat → List Bool
  | 0, _, _ => []
  | f + 1, i, n => if n ≤ 1 then [] else if i < cutN n then true :: wayF f i (cutN n) else false :: wayF f (i - cutN n) (n - cutN n)
def wayN (i n : Nat) : List Bool := wayF n i n
theorem wayF_more (f g i n : Nat) (hf : n ≤ f) (hg : n ≤ g) : wayF f i n = wayF g i n := by
  induction f generalizing g i n with
  | zero =>
    cases g with
    | zero => rfl
    | succ g => rw [wayF, wayF, if_pos (by omega)]
  | succ f ih =>
    cases g with
    | zero => rw [wayF, wayF, if_pos (by omega)]
    | succ g =>
      rw [wayF, wayF]
      split
      · rfl
      have h2 : 2 ≤ n := by omega
      have h3 := cutN_pos _ h2
      have h4 := cutN_lt _ h2
      rw [ih g i _ (by omega) (by omega), ih g _ _ (by omega) (by omega)]
theorem way_small (i n : Nat) (h : n ≤ 1) : wayN i n = [] := by
  unfold wayN
  cases n with
  | zero => rfl
  | succ n => rw [wayF, if_pos h]
theorem way_two (i n : Nat) (h : 2 ≤ n) : wayN i n = if i < cutN n then true :: wayN i (cutN n) else false :: wayN (i - cutN n) (n - cutN n) := by
  have h3 := cutN_pos _ h
  have h4 := cutN_lt _ h
  obtain ⟨m, rfl⟩ : ∃ m, n = m + 1 := ⟨n - 1, by omega⟩
  unfold wayN
  rw [wayF, if_neg (by omega), wayF_more m (cutN (m + 1)) _ _ (by omega) (Nat.le_refl _), wayF_more m (m + 1 - cutN (m + 1)) _ _ (by omega) (Nat.le_refl _)]
theorem parts_way (f i a b : Nat) (h : a ≤ i) (hf : b - a ≤ f) : (partsF f i a b).map (fun x => x.2.2) = wayN (i - a) (b - a) := by
  induction f generalizing a b with
  | zero => rw [partsF, way_small _ _ (by omega)]; rfl
  | succ f ih =>
    rw [partsF]
    split
    · rw [way_small _ _ (by omega)]; rfl
    have h2 : 2 ≤ b - a := by omega
    have h3 := cutN_pos _ h2
    have h4 := cutN_lt _ h2
    rw [way_two _ _ h2]
    split
    · rw [if_pos (by omega), List.map_cons, ih a _ h (by omega), show a + cutN (b - a) - a = cutN (b - a) by omega]
    · rw [if_neg (by omega), List.map_cons, ih _ b (by omega) (by omega), show i - (a + cutN (b - a)) = i - a - cutN (b - a) by omega, show b - (a + cutN (b - a)) = b - a - cutN (b - a) by omega]
section
variable (D : List UInt8 → List UInt8)
/-- the roots of the parts beside the way -/
def nodesN (l : List Ln) (i : Nat) : List Nd := (besideN i l.length).map fun x => rootN D ((l.take x.2.1).drop x.1)
/-- one step up -/
def stepN (own : Nd) (x : Bool × Nd) : Nd := if x.1 then overN D own x.2 else overN D x.2 own
/-- the root to which nodes lead -/
def climbN (own : Nd) (fs : List Bool) (ns : List Nd) : Nd := (fs.zip ns).foldl (stepN D) own
theorem climb_snoc (own : Nd) (fs : List Bool) (ns : List Nd) (f : Bool) (x : Nd) (h : fs.length = ns.length) : climbN D own (fs ++ [f]) (ns ++ [x]) = stepN D (climbN D own fs ns) (f, x) := by
  unfold climbN
  rw [List.zip_append h, List.foldl_append]
  rfl
/-- the proof of a part's balance leads to the part's root -/
theorem climb_parts (l : List Ln) (f i a b : Nat) (hi : a ≤ i ∧ i < b) (hb : b ≤ l.length) (hf : b - a ≤ f) :
    climbN D (leafN D (l.getD i ln0)) ((partsF f i a b).reverse.map fun x => x.2.2) ((partsF f i a b).reverse.map fun x => rootN D ((l.take x.2.1).drop x.1)) = rootN D ((l.take b).drop a) := by
  induction f generalizing a b with
  | zero => omega
  | succ f ih =>
    have hlen : ((l.take b).drop a).length = b - a := by rw [List.length_drop, List.length_take]; omega
    rw [partsF]
    split
    · have hab : i = a := by omega
      subst hab
      have e : (l.take b).drop i = [l.getD i ln0] := by
        obtain rfl : b = i + 1 := by omega
        rw [take_ln l i (by omega), List.drop_left' (by rw [List.length_take]; omega)]
      rw [e, root_one]
      rfl
    have h2 : 2 ≤ b - a := by omega
    have h3 := cutN_pos _ h2
    have h4 := cutN_lt _ h2
    have hr : rootN D ((l.take b).drop a) = overN D (rootN D ((l.take (a + cutN (b - a))).drop a)) (rootN D ((l.take b).drop (a + cutN (b - a)))) := by
      rw [root_two D _ (by rw [hlen]; exact h2), hlen]
      congr 2
      · rw [List.take_drop, List.take_take, Nat.min_eq_left (by omega)]
      · rw [List.drop_drop]
    rw [hr]
    split
    · rw [List.reverse_cons, List.map_append, List.map_append, List.map_cons, List.map_cons, List.map_nil, List.map_nil, climb_snoc D _ _ _ _ _ (by rw [List.length_map, List.length_map]), ih a _ ⟨hi.1, by omega⟩ (by omega) (by omega)]
      rfl
    · rw [List.reverse_cons, List.map_append, List.map_append, List.map_cons, List.map_cons, List.map_nil, List.map_nil, climb_snoc D _ _ _ _ _ (by rw [List.length_map, List.length_map]), ih _ b ⟨by omega, hi.2⟩ hb (by omega)]
      rfl
/-- the proof of a list's balance leads to its root -/
theorem climb_nodes (l : List Ln) (i : Nat) (h : i < l.length) : climbN D (leafN D (l.getD i ln0)) ((wayN i l.length).reverse) (nodesN D l i) = rootN D l := by
  have h1 := climb_parts D l l.length i 0 l.length ⟨by omega, h⟩ (Nat.le_refl _) (by omega)
  have h2 := parts_way l.length i 0 l.length (by omega) (by omega)
  rw [List.take_length, List.drop_zero] at h1
  simp only [Nat.sub_zero] at h2
  unfold nodesN besideN partsN
  rw [← h2, ← List.map_reverse]
  exact h1
theorem nodes_len (l : List Ln) (i : Nat) : (nodesN D l i).length = (wayN i l.length).length := by
  unfold nodesN besideN partsN
  have h2 := congrArg List.length (parts_way l.length i 0 l.length (by omega) (by omega))
  rw [List.length_map] at h2
  simp only [Nat.sub_zero] at h2
  rw [List.length_map, List.length_reverse, h2]
end
end Go.Proofs.YtejaehmoplohdaaGreatDoor

/- Audit, plain: sums, texts that can be read back, proofs that are refused. -/
namespace Go.Proofs.YtejaehmoplohdaaGreatDoor
open Go.RowKit Go.Maps Num

/-! a text without spaces, a space, and what follows it -/
theorem split32 : ∀ (s s' t t' : List UInt8), (32 : UInt8) ∉ s → (32 : UInt8) ∉ s' → s ++ 32 :: t = s' ++ 32 :: t' → s = s' ∧ t = t'
  | [], [], t, t', _, _, h => ⟨rfl, (List.cons.inj h).2⟩
  | [], c :: r, t, t', _, h2, h => absurd ((List.cons.inj h).1 ▸ List.mem_cons_self) h2
  | c :: r, [], t, t', h1, _, h => absurd ((List.cons.inj h).1.symm ▸ List.mem_cons_self) h1
  | c :: r, d :: q, t, t', h1, h2, h => by
    obtain ⟨e1, e2⟩ := List.cons.inj h
    obtain ⟨e3, e4⟩ := split32 r q t t' (fun hm => h1 (List.mem_cons_of_mem _ hm)) (fun hm => h2 (List.mem_cons_of_mem _ hm)) e2
    exact ⟨by rw [e1, e3], e4⟩
theorem txt_sp (v : Int) : (32 : UInt8) ∉ txt v := fun h => by
  have hd : (32 : UInt8) ∉ dig v.natAbs := fun hm => by
    have := List.all_eq_true.1 (dig_all v.natAbs) _ hm
    revert this; decide
  unfold txt at h
  split at h
  · rcases List.mem_cons.1 h with e | e
    · revert e; decide
    · exact hd e
  · exact hd h
theorem prt_sp (a : List UInt8) : (32 : UInt8) ∉ prt a := fun h => by
  unfold prt at h
  split at h
  · revert h; decide
  · exact txt_sp _ h
theorem prt_inj {a b : List UInt8} (ha : can a = a) (hb : can b = b) (h : prt a = prt b) : a = b := by
  have hz : ∀ c : List UInt8, can c = c → c ≠ [48] := fun c hc e => by
    subst e
    have : can [48] = [] := by decide +kernel
    rw [this] at hc
    cases hc
  unfold prt at h
  rw [ha, hb] at h
  split at h
  · rename_i e1
    split at h
    · rename_i e2; rw [e1, e2]
    · exact absurd h.symm (hz b hb)
  · split at h
    · exact absurd h (hz a ha)
    · exact h
theorem segs_byte {c : UInt8} : ∀ {l : List UInt8}, c ∈ l → c = 46 ∨ ∃ s ∈ segs l, c ∈ s
  | [], h => by cases h
  | d :: r, h => by
    rw [segs]
    by_cases hd : d = 46
    · rw [if_pos hd]
      rcases List.mem_cons.1 h with e | e
      · exact .inl (e.trans hd)
      · rcases segs_byte e with e2 | ⟨s, h1, h2⟩
        · exact .inl e2
        · exact .inr ⟨s, List.mem_cons_of_mem _ h1, h2⟩
    · rw [if_neg hd]
      cases hs : segs r with
      | nil => exact absurd hs (segs_ne r)
      | cons a t =>
        rcases List.mem_cons.1 h with e | e
        · exact .inr ⟨d :: a, by simp, by rw [e]; simp⟩
        · rcases segs_byte e with e2 | ⟨s, h1, h2⟩
          · exact .inl e2
          · rw [hs] at h1
            rcases List.mem_cons.1 h1 with e3 | e3
            · exact .inr ⟨d :: a, by simp, by rw [← e3]; exact List.mem_cons_of_mem _ h2⟩
            · exact .inr ⟨s, List.mem_cons_of_mem _ e3, h2⟩
theorem code_sp {l : List UInt8} (h : codeB l = true) : (32 : UInt8) ∉ l := fun hm => by
  rcases segs_byte hm with e | ⟨s, h1, h2⟩
  · revert e; decide
  · unfold codeB at h
    rw [Bool.and_eq_true] at h
    have h3 := List.all_eq_true.1 h.2 s h1
    unfold nameB at h3
    rw [Bool.and_eq_true] at h3
    have := List.all_eq_true.1 h3.2 _ h2
    revert this; decide
theorem cur_sp {l : List UInt8} (h : curB l = true) : (32 : UInt8) ∉ l := fun hm => by
  unfold curB at h
  rw [Bool.and_eq_true] at h
  have := List.all_eq_true.1 h.1 _ hm
  revert this; decide
/-- a balance that is valid by itself -/
def okB (b : Ln) : Prop := lineI b = 0 ∧ b.2.2 ≠ []
theorem okB_of {l : List Ln} (h : listB l = true) {b : Ln} (hb : b ∈ l) : okB b := (listB_iff.1 h).1 b hb
theorem okB_one {b : Ln} : listB [b] = true ↔ okB b := by
  rw [listB_iff]
  refine ⟨fun h => h.1 b (by simp), fun h => ⟨fun x hx => by rw [List.mem_singleton.1 hx]; exact h, ?_⟩⟩
  unfold OrdL
  simp
theorem okB_can {b : Ln} (h : okB b) : can b.2.2 = b.2.2 := of_decide_eq_true (lineI_iff.1 h.1).2.2
theorem leaf_inj {b c : Ln} (hb : okB b) (hc : okB c) (h : leafT b = leafT c) : b = c := by
  obtain ⟨b1, b2, _⟩ := lineI_iff.1 hb.1
  obtain ⟨c1, c2, _⟩ := lineI_iff.1 hc.1
  unfold leafT at h
  have h1 := (List.cons.inj h).2
  obtain ⟨e1, h2⟩ := split32 _ _ _ _ (code_sp b1) (code_sp c1) h1
  obtain ⟨e2, h3⟩ := split32 _ _ _ _ (cur_sp b2) (cur_sp c2) h2
  have e3 := prt_inj (okB_can hb) (okB_can hc) h3
  obtain ⟨x, y, z⟩ := b
  obtain ⟨x', y', z'⟩ := c
  simp only at e1 e2 e3
  rw [e1, e2, e3]
/-! valid nodes -/
def validN (x : Nd) : Bool := decide (can x.1 = x.1) && decide (0 ≤ val x.1) && decide (x.2.length = 32)
theorem validN_iff {x : Nd} : validN x = true ↔ can x.1 = x.1 ∧ 0 ≤ val x.1 ∧ x.2.length = 32 := by
  unfold validN
  rw [Bool.and_eq_true, Bool.and_eq_true, decide_eq_true_iff, decide_eq_true_iff, decide_eq_true_iff, and_assoc]
theorem over_inj {x y u v : Nd} (hx : validN x = true) (hy : validN y = true) (hu : validN u = true) (hv : validN v = true) (h : overT x y = overT u v) : x = u ∧ y = v := by
  obtain ⟨x1, _, x3⟩ := validN_iff.1 hx
  obtain ⟨y1, _, _⟩ := validN_iff.1 hy
  obtain ⟨u1, _, u3⟩ := validN_iff.1 hu
  obtain ⟨v1, _, _⟩ := validN_iff.1 hv
  unfold overT at h
  obtain ⟨e1, h2⟩ := split32 _ _ _ _ (prt_sp _) (prt_sp _) (List.cons.inj h).2
  obtain ⟨e2, h3⟩ := List.append_inj h2 (by rw [x3, u3])
  obtain ⟨e3, e4⟩ := split32 _ _ _ _ (prt_sp _) (prt_sp _) h3
  exact ⟨Prod.ext (prt_inj x1 u1 e1) e2, Prod.ext (prt_inj y1 v1 e3) e4⟩
section
variable {D : List UInt8 → List UInt8} (hD : ∀ s, (D s).length = 32)
include hD
theorem leaf_valid (b : Ln) : validN (leafN D b) = true :=
  validN_iff.2 ⟨by unfold leafN absT; simp only [can, val_txt], by unfold leafN absT; simp only [val_txt]; omega, hD _⟩
theorem over_valid {x y : Nd} (hx : validN x = true) (hy : validN y = true) : validN (overN D x y) = true :=
  validN_iff.2 ⟨by unfold overN; simp only [can, val_txt], by
    have h1 := (validN_iff.1 hx).2.1
    have h2 := (validN_iff.1 hy).2.1
    unfold overN
    simp only [val_txt]
    omega, hD _⟩
theorem step_valid {x y : Nd} (f : Bool) (hx : validN x = true) (hy : validN y = true) : validN (stepN D x (f, y)) = true := by
  unfold stepN
  cases f
  · exact over_valid hD hy hx
  · exact over_valid hD hx hy
theorem climb_valid (fs : List Bool) (ns : List Nd) (own : Nd) (h : validN own = true) (hn : ∀ x ∈ ns, validN x = true) : validN (climbN D own fs ns) = true := by
  unfold climbN
  induction fs generalizing ns own with
  | nil => exact h
  | cons f r ih =>
    cases ns with
    | nil => exact h
    | cons x q =>
      rw [List.zip_cons_cons, List.foldl_cons]
      exact ih q _ (step_valid hD f h (hn x (by simp))) fun y hy => hn y (List.mem_cons_of_mem x hy)
theorem root_valid (l : List Ln) : validN (rootN D l) = true := by
  obtain ⟨n, hn⟩ : ∃ n, l.length ≤ n := ⟨_, Nat.le_refl _⟩
  induction n generalizing l with
  | zero =>
    rw [List.length_eq_zero_iff.1 (by omega : l.length = 0), root_nil]
    exact validN_iff.2 ⟨(show can [] = [] by decide +kernel), (show (0 : Int) ≤ val [] by decide +kernel), hD _⟩
  | succ n ih =>
    match l, hn with
    | [], _ => rw [root_nil]; exact validN_iff.2 ⟨(show can [] = [] by decide +kernel), (show (0 : Int) ≤ val [] by decide +kernel), hD _⟩
    | [b], _ => rw [root_one]; exact leaf_valid hD b
    | b :: c :: r, hn =>
      have h2 : 2 ≤ (b :: c :: r).length := by simp
      have h3 := cutN_pos _ h2
      have h4 := cutN_lt _ h2
      rw [root_two D _ h2]
      exact over_valid hD (ih _ (by rw [List.length_take]; omega)) (ih _ (by rw [List.length_drop]; omega))
theorem nodes_valid (l : List Ln) (i : Nat) : ∀ x ∈ nodesN D l i, validN x = true := fun x hx => by
  unfold nodesN at hx
  obtain ⟨p, _, rfl⟩ := List.mem_map.1 hx
  exact root_valid hD _
end
/-! sums -/
def absS (l : List Ln) : Int := (l.map fun b => ((val b.2.2).natAbs : Int)).sum
theorem absS_append (a b : List Ln) : absS (a ++ b) = absS a + absS b := by unfold absS; rw [List.map_append, List.sum_append]
section
variable (D : List UInt8 → List UInt8)
theorem root_sum (l : List Ln) : (rootN D l).1 = txt (absS l) := by
  obtain ⟨n, hn⟩ : ∃ n, l.length ≤ n := ⟨_, Nat.le_refl _⟩
  induction n generalizing l with
  | zero => rw [List.length_eq_zero_iff.1 (by omega : l.length = 0), root_nil]; exact txt_zero.symm
  | succ n ih =>
    match l, hn with
    | [], _ => rw [root_nil]; exact txt_zero.symm
    | [b], _ => rw [root_one]; unfold leafN absT absS; simp
    | b :: c :: r, hn =>
      have h2 : 2 ≤ (b :: c :: r).length := by simp
      have h3 := cutN_pos _ h2
      have h4 := cutN_lt _ h2
      have e := absS_append ((b :: c :: r).take (cutN (b :: c :: r).length)) ((b :: c :: r).drop (cutN (b :: c :: r).length))
      rw [List.take_append_drop] at e
      rw [root_two D _ h2, e]
      unfold overN
      simp only
      rw [ih _ (by rw [List.length_take]; omega), ih _ (by rw [List.length_drop]; omega), val_txt, val_txt]
theorem climb_sum (fs : List Bool) (ns : List Nd) (own : Nd) (h : fs.length = ns.length) : val (climbN D own fs ns).1 = val own.1 + (ns.map fun x => val x.1).sum := by
  unfold climbN
  induction fs generalizing ns own with
  | nil =>
    obtain rfl : ns = [] := List.length_eq_zero_iff.1 (by simpa using h.symm)
    simp
  | cons f r ih =>
    cases ns with
    | nil => cases h
    | cons x q =>
      rw [List.zip_cons_cons, List.foldl_cons, ih q _ (by simpa using h), List.map_cons, List.sum_cons]
      have : val (stepN D own (f, x)).1 = val own.1 + val x.1 := by
        unfold stepN overN
        cases f <;> simp only [Bool.false_eq_true, if_false, if_true, val_txt] <;> omega
      rw [this]
      omega
/-! proofs that are refused -/
/-- the text over which a step goes -/
def stepT (own : Nd) (x : Bool × Nd) : List UInt8 := if x.1 then overT own x.2 else overT x.2 own
theorem step_dig (own : Nd) (x : Bool × Nd) : (stepN D own x).2 = D (stepT own x) := by
  unfold stepN stepT
  split <;> rfl
/-- the levels above a node: texts and nodes -/
def lvlN : Nd → List (Bool × Nd) → List (List UInt8 × Nd)
  | _, [] => []
  | own, x :: r => (stepT own x, stepN D own x) :: lvlN (stepN D own x) r
/-- the levels from a balance on -/
def levels (b : Ln) (z : List (Bool × Nd)) : List (List UInt8 × Nd) := (leafT b, leafN D b) :: lvlN D (leafN D b) z
/-- whether two equal nodes stand side by side -/
def twinN : Nd → List (Bool × Nd) → Bool
  | _, [] => false
  | own, x :: r => decide (own = x.2) || twinN (stepN D own x) r
def collB (a b : List (List UInt8 × Nd)) : Bool := (a.zip b).any fun p => decide (p.1.1 ≠ p.2.1) && decide (p.1.2.2 = p.2.2.2)
theorem coll_cons (x y : List UInt8 × Nd) (a b : List (List UInt8 × Nd)) : collB (x :: a) (y :: b) = (decide (x.1 ≠ y.1) && decide (x.2.2 = y.2.2) || collB a b) := by
  unfold collB
  rw [List.zip_cons_cons, List.any_cons]
variable {D}
theorem refuse (hD : ∀ s, (D s).length = 32) (z z' : List (Bool × Nd)) (own own' : Nd) (ho : validN own = true) (ho' : validN own' = true) (hz : ∀ x ∈ z, validN x.2 = true) (hz' : ∀ x ∈ z', validN x.2 = true)
    (hl : z.length = z'.length) (hs : z.map Prod.snd = z'.map Prod.snd ∨ z.map Prod.fst = z'.map Prod.fst) (he : z.foldl (stepN D) own = z'.foldl (stepN D) own') (hc : collB (lvlN D own z) (lvlN D own' z') = false) :
    (own = own' ∧ z = z') ∨ twinN D own z = true := by
  induction z generalizing z' own own' with
  | nil =>
    obtain rfl : z' = [] := List.length_eq_zero_iff.1 (by simpa using hl.symm)
    exact .inl ⟨he, rfl⟩
  | cons x r ih =>
    cases z' with
    | nil => cases hl
    | cons y q =>
      obtain ⟨f, x⟩ := x
      obtain ⟨g, y⟩ := y
      rw [lvlN, lvlN, coll_cons, Bool.or_eq_false_iff] at hc
      rw [List.foldl_cons, List.foldl_cons] at he
      have hx := hz _ (List.mem_cons_self)
      have hy := hz' _ (List.mem_cons_self)
      have hs2 : r.map Prod.snd = q.map Prod.snd ∨ r.map Prod.fst = q.map Prod.fst := by
        rcases hs with h | h
        · exact .inl (List.cons.inj h).2
        · exact .inr (List.cons.inj h).2
      rcases ih q _ _ (step_valid hD f ho hx) (step_valid hD g ho' hy) (fun v hv => hz v (List.mem_cons_of_mem _ hv)) (fun v hv => hz' v (List.mem_cons_of_mem _ hv)) (by simpa using hl) hs2 he hc.2 with ⟨h1, h2⟩ | h1
      · have h3 : stepT own (f, x) = stepT own' (g, y) := by
          have h4 := congrArg Prod.snd h1
          rcases Bool.and_eq_false_iff.1 hc.1 with h5 | h5
          · exact Classical.not_not.1 (of_decide_eq_false h5)
          · exact absurd h4 (of_decide_eq_false h5)
        subst h2
        unfold stepT at h3
        simp only at h3 hx hy
        have same : f = g → (own = own' ∧ (f, x) :: r = (g, y) :: r) ∨ twinN D own ((f, x) :: r) = true := fun e => by
          subst e
          cases f
          · obtain ⟨e1, e2⟩ := over_inj hx ho hy ho' h3
            exact .inl ⟨e2, by rw [e1]⟩
          · obtain ⟨e1, e2⟩ := over_inj ho hx ho' hy h3
            exact .inl ⟨e1, by rw [e2]⟩
        by_cases hfg : f = g
        · exact same hfg
        · rcases hs with h | h
          · obtain rfl : x = y := (List.cons.inj h).1
            refine .inr ?_
            have hox : own = x := by
              cases f <;> cases g
              · exact absurd rfl hfg
              · exact (over_inj hx ho ho' hy h3).2
              · exact (over_inj ho hx hy ho' h3).1
              · exact absurd rfl hfg
            rw [twinN, Bool.or_eq_true]
            exact .inl (decide_eq_true hox)
          · exact absurd (List.cons.inj h).1 hfg
      · refine .inr ?_
        rw [twinN, Bool.or_eq_true]
        exact .inr h1
/-- two balances with proofs to the same root: the same balance and the same way with the same nodes, or twins, or a collision -/
theorem refuse_leaf (hD : ∀ s, (D s).length = 32) (z z' : List (Bool × Nd)) (b c : Ln) (hb : okB b) (hc : okB c) (hz : ∀ x ∈ z, validN x.2 = true) (hz' : ∀ x ∈ z', validN x.2 = true)
    (hl : z.length = z'.length) (hs : z.map Prod.snd = z'.map Prod.snd ∨ z.map Prod.fst = z'.map Prod.fst) (he : z.foldl (stepN D) (leafN D b) = z'.foldl (stepN D) (leafN D c)) :
    (b = c ∧ z = z') ∨ twinN D (leafN D b) z = true ∨ collB (levels D b z) (levels D c z') = true := by
  cases hcl : collB (levels D b z) (levels D c z')
  case true => exact .inr (.inr rfl)
  case false =>
    unfold levels at hcl
    rw [coll_cons, Bool.or_eq_false_iff] at hcl
    rcases refuse hD z z' _ _ (leaf_valid hD b) (leaf_valid hD c) hz hz' hl hs he hcl.2 with ⟨h1, h2⟩ | h
    · refine .inl ⟨leaf_inj hb hc ?_, h2⟩
      have h4 := congrArg Prod.snd h1
      rcases Bool.and_eq_false_iff.1 hcl.1 with h5 | h5
      · exact Classical.not_not.1 (of_decide_eq_false h5)
      · exact absurd h4 (of_decide_eq_false h5)
    · exact .inr (.inl h)
end
theorem way_inj (n i j : Nat) (hi : i < n) (hj : j < n) (h : wayN i n = wayN j n) : i = j := by
  induction n using Nat.strongRecOn generalizing i j with
  | _ n ih =>
    rcases Nat.lt_or_ge n 2 with h2 | h2
    · omega
    have h3 := cutN_pos _ h2
    have h4 := cutN_lt _ h2
    rw [way_two i n h2, way_two j n h2] at h
    split at h
    · split at h
      · exact ih _ h4 i j (by omega) (by omega) (List.cons.inj h).2
      · cases (List.cons.inj h).1
    · split at h
      · cases (List.cons.inj h).1
      · have := ih (n - cutN n) (by omega) (i - cutN n) (j - cutN n) (by omega) (by omega) (List.cons.inj h).2
        omega
end Go.Proofs.YtejaehmoplohdaaGreatDoor

/- Audit, plain: what Verify answers, and what the statements say of it. -/
namespace Go.Proofs.YtejaehmoplohdaaGreatDoor
open Go.RowKit Go.Maps Num

section
variable (D : List UInt8 → List UInt8)
/-- what Verify answers -/
def verI (root : Nd) (b : Ln) (i n : Int) (ns : List Nd) : Int :=
  if (listB [b] && validN root && ns.all validN) = false then 1 else if 1024 < n then 4 else if i < 0 ∨ n ≤ i then 2 else if (wayN i.toNat n.toNat).length ≠ ns.length then 9
  else if climbN D (leafN D b) (wayN i.toNat n.toNat).reverse ns ≠ root then 20 else 0
/-- whether a proof is refused, or shows a collision -/
def refB (root : Nd) (own : Ln) (k m : Nat) (hs : List Nd) (b : Ln) (i n : Nat) (ns : List Nd) : Bool :=
  if verI D root b i n ns ≠ 0 then decide (verI D root b i n ns = 20) || decide (verI D root b i n ns = 9)
  else twinN D (leafN D own) ((wayN k m).reverse.zip hs) || collB (levels D own ((wayN k m).reverse.zip hs)) (levels D b ((wayN i n).reverse.zip ns))
variable {D} (hD : ∀ s, (D s).length = 32)
/-- Verify behind its checks -/
theorem ver_checked {root : Nd} {b : Ln} {i n : Nat} {ns : List Nd} (hb : okB b) (hr : validN root = true) (hns : ∀ x ∈ ns, validN x = true) (hn : n ≤ 1024) (hi : i < n) :
    verI D root b i n ns = if (wayN i n).length ≠ ns.length then 9 else if climbN D (leafN D b) (wayN i n).reverse ns ≠ root then 20 else 0 := by
  have h1 : (listB [b] && validN root && ns.all validN) = true := by
    rw [Bool.and_eq_true, Bool.and_eq_true]
    exact ⟨⟨okB_one.2 hb, hr⟩, List.all_eq_true.2 hns⟩
  unfold verI
  rw [if_neg (by rw [h1]; decide), if_neg (by omega), if_neg (by omega)]
  rfl
theorem ver_range {root : Nd} {b : Ln} {i n : Nat} {ns : List Nd} (hb : okB b) (hr : validN root = true) (hns : ∀ x ∈ ns, validN x = true) (hn : n ≤ 1024) (hi : n ≤ i) : verI D root b i n ns = 2 := by
  have h1 : (listB [b] && validN root && ns.all validN) = true := by
    rw [Bool.and_eq_true, Bool.and_eq_true]
    exact ⟨⟨okB_one.2 hb, hr⟩, List.all_eq_true.2 hns⟩
  unfold verI
  rw [if_neg (by rw [h1]; decide), if_neg (by omega), if_pos (by omega)]
theorem okB_at {l : List Ln} (hl : listB l = true) {k : Nat} (hk : k < l.length) : okB (l.getD k ln0) := okB_of hl (lnAt_mem l k hk)
include hD
theorem ver_ok {l : List Ln} (hl : listB l = true) (hm : l.length ≤ 1024) {k : Nat} (hk : k < l.length) : verI D (rootN D l) (l.getD k ln0) k l.length (nodesN D l k) = 0 := by
  rw [ver_checked (okB_at hl hk) (root_valid hD l) (nodes_valid hD l k) hm hk, if_neg (by rw [nodes_len]; omega), climb_nodes D l k hk, if_neg (by simp)]
/-- with another root nothing is accepted -/
theorem ver_root {l : List Ln} (hl : listB l = true) (hm : l.length ≤ 1024) {k : Nat} (hk : k < l.length) {r : Nd} (hr : validN r = true) (hne : rootN D l ≠ r) : verI D r (l.getD k ln0) k l.length (nodesN D l k) = 20 := by
  rw [ver_checked (okB_at hl hk) hr (nodes_valid hD l k) hm hk, if_neg (by rw [nodes_len]; omega), climb_nodes D l k hk, if_pos hne]
/-- with more or less nodes nothing is accepted -/
theorem ver_len {l : List Ln} (hl : listB l = true) (hm : l.length ≤ 1024) {k : Nat} (hk : k < l.length) {ns : List Nd} (hns : ∀ x ∈ ns, validN x = true) (hne : ns.length ≠ (nodesN D l k).length) : verI D (rootN D l) (l.getD k ln0) k l.length ns = 9 := by
  rw [ver_checked (okB_at hl hk) (root_valid hD l) hns hm hk, if_pos (by rw [← nodes_len D]; omega)]
/-- with another number of leaves on the same way the proof is accepted -/
theorem ver_leaves {l : List Ln} (hl : listB l = true) {k n : Nat} (hk : k < l.length) (hn : n ≤ 1024) (hkn : k < n) (hw : wayN k n = wayN k l.length) : verI D (rootN D l) (l.getD k ln0) k n (nodesN D l k) = 0 := by
  rw [ver_checked (okB_at hl hk) (root_valid hD l) (nodes_valid hD l k) hn hkn, hw, if_neg (by rw [nodes_len]; omega), climb_nodes D l k hk, if_neg (by simp)]
/-- a node with a sum that is greater by 1 -/
def bumpN (x : Nd) : Nd := (txt (val x.1 + 1), x.2)
omit hD in
theorem bump_valid {x : Nd} (h : validN x = true) : validN (bumpN x) = true := by
  obtain ⟨h1, h2, h3⟩ := validN_iff.1 h
  refine validN_iff.2 ⟨?_, ?_, h3⟩
  · unfold bumpN; simp only [can, val_txt]
  · unfold bumpN; simp only [val_txt]; omega
omit hD in
theorem sum_set (ns : List Nd) (m : Nat) (hm : m < ns.length) (x : Nd) : ((ns.set m x).map fun x => val x.1).sum = (ns.map fun x => val x.1).sum + val x.1 - val (ns[m]).1 := by
  induction ns generalizing m with
  | nil => cases hm
  | cons y r ih =>
    cases m with
    | zero => simp only [List.set_cons_zero, List.map_cons, List.sum_cons, List.getElem_cons_zero]; omega
    | succ m =>
      have := ih m (by simpa using hm)
      simp only [List.set_cons_succ, List.map_cons, List.sum_cons, List.getElem_cons_succ]
      omega
theorem ver_bump {l : List Ln} (hl : listB l = true) (hm : l.length ≤ 1024) {k : Nat} (hk : k < l.length) {m : Nat} (hmn : m < (nodesN D l k).length) :
    verI D (rootN D l) (l.getD k ln0) k l.length ((nodesN D l k).set m (bumpN (nodesN D l k)[m])) = 20 := by
  have hv : ∀ x ∈ (nodesN D l k).set m (bumpN (nodesN D l k)[m]), validN x = true := fun x hx => by
    rcases List.mem_or_eq_of_mem_set hx with h | h
    · exact nodes_valid hD l k x h
    · rw [h]; exact bump_valid (nodes_valid hD l k _ (List.getElem_mem hmn))
  have hw : (wayN k l.length).reverse.length = (nodesN D l k).length := by rw [List.length_reverse, nodes_len]
  rw [ver_checked (okB_at hl hk) (root_valid hD l) hv hm hk, if_neg (by rw [List.length_set, nodes_len]; omega), if_pos]
  intro e
  have h1 := climb_sum D (wayN k l.length).reverse ((nodesN D l k).set m (bumpN (nodesN D l k)[m])) (leafN D (l.getD k ln0)) (by rw [hw, List.length_set])
  have h2 := climb_sum D (wayN k l.length).reverse (nodesN D l k) (leafN D (l.getD k ln0)) hw
  rw [e] at h1
  rw [climb_nodes D l k hk] at h2
  rw [sum_set _ _ hmn] at h1
  have h3 : val (bumpN (nodesN D l k)[m]).1 = val (nodesN D l k)[m].1 + 1 := by unfold bumpN; rw [val_txt]
  omega
/-- whatever is changed in a proof: it is refused, or shows a collision -/
theorem ref_true {l : List Ln} (hl : listB l = true) (_hm : l.length ≤ 1024) {k : Nat} (hk : k < l.length) {b : Ln} (hb : okB b) {i n : Nat} {ns : List Nd} (hns : ∀ x ∈ ns, validN x = true) (hn : n ≤ 1024) (hi : i < n)
    (hd : b ≠ l.getD k ln0 ∨ wayN i n ≠ wayN k l.length ∨ ns ≠ nodesN D l k) (hs : ns = nodesN D l k ∨ wayN i n = wayN k l.length) :
    refB D (rootN D l) (l.getD k ln0) k l.length (nodesN D l k) b i n ns = true := by
  have hv := ver_checked (D := D) (root := rootN D l) hb (root_valid hD l) hns hn hi
  unfold refB
  by_cases h1 : (wayN i n).length ≠ ns.length
  · rw [if_pos h1] at hv
    rw [hv, if_pos (by decide)]
    decide
  rw [if_neg h1] at hv
  by_cases h2 : climbN D (leafN D b) (wayN i n).reverse ns ≠ rootN D l
  · rw [if_pos h2] at hv
    rw [hv, if_pos (by decide)]
    decide
  rw [if_neg h2] at hv
  rw [hv, if_neg (by decide)]
  have h1' : (wayN i n).length = ns.length := Classical.not_not.1 h1
  have h2' := Classical.not_not.1 h2
  have hw : (wayN k l.length).reverse.length = (nodesN D l k).length := by rw [List.length_reverse, nodes_len]
  have hw' : (wayN i n).reverse.length = ns.length := by rw [List.length_reverse, h1']
  have ml : (wayN k l.length).length = (wayN i n).length := by
    rcases hs with h | h
    · rw [h1', h, nodes_len]
    · rw [h]
  have f1 : ((wayN k l.length).reverse.zip (nodesN D l k)).map Prod.fst = (wayN k l.length).reverse := List.map_fst_zip (by omega)
  have f2 : ((wayN i n).reverse.zip ns).map Prod.fst = (wayN i n).reverse := List.map_fst_zip (by omega)
  have s1 : ((wayN k l.length).reverse.zip (nodesN D l k)).map Prod.snd = nodesN D l k := List.map_snd_zip (by omega)
  have s2 : ((wayN i n).reverse.zip ns).map Prod.snd = ns := List.map_snd_zip (by omega)
  have hr := climb_nodes D l k hk
  unfold climbN at hr h2'
  rcases refuse_leaf hD ((wayN k l.length).reverse.zip (nodesN D l k)) ((wayN i n).reverse.zip ns) (l.getD k ln0) b (okB_at hl hk) hb
    (fun x hx => nodes_valid hD l k _ (List.of_mem_zip hx).2) (fun x hx => hns _ (List.of_mem_zip hx).2)
    (by rw [List.length_zip, List.length_zip, List.length_reverse, List.length_reverse, nodes_len]; omega)
    (by rw [f1, f2, s1, s2]; rcases hs with h | h
        · exact .inl h.symm
        · exact .inr (by rw [h])) (hr.trans h2'.symm) with ⟨e1, e2⟩ | h | h
  · rcases hd with h | h | h
    · exact absurd e1.symm h
    · have := congrArg (List.map Prod.fst) e2
      rw [f1, f2] at this
      exact absurd (List.reverse_inj.1 this).symm h
    · have := congrArg (List.map Prod.snd) e2
      rw [s1, s2] at this
      exact absurd this.symm h
  · rw [h]; rfl
  · rw [h, Bool.or_true]
end
/-- a balance with the opposite amount -/
def turnB (b : Ln) : Ln := (b.1, b.2.1, txt (- val b.2.2))
theorem turn_ok {b : Ln} (h : okB b) : okB (turnB b) ∧ turnB b ≠ b := by
  obtain ⟨h1, h2, h3⟩ := lineI_iff.1 h.1
  have hc := okB_can h
  have hv := val_ne hc h.2
  refine ⟨⟨lineI_iff.2 ⟨h1, h2, ?_⟩, fun e => hv ?_⟩, fun e => hv ?_⟩
  · unfold canB turnB
    simp only [can, val_txt, decide_true]
  · have := txt_nil.1 e
    omega
  · have := congrArg (fun x : Ln => val x.2.2) e
    unfold turnB at this
    simp only [val_txt] at this
    omega
end Go.Proofs.YtejaehmoplohdaaGreatDoor

/- The plain functions: SHA-256 on integers, in the very forms of the program's operations. -/
namespace Go.Proofs.YtejaehmoplohdaaGreatDoor.Sha

def M32 : Int := 4294967296
def rotr (x : Int) (n : Nat) : Int := bits .or .u32 (x * 2 ^ (32 - n) % 4294967296) (x / 2 ^ n)
def byteAt (s : List UInt8) (i : Nat) : Int := ((s.getD i 0).toNat : Int)
/-- the first i bytes of word t -/
def part (s : List UInt8) (t : Nat) : Nat → Int
  | 0 => 0
  | i + 1 => bits .or .u32 (part s t i * 256 % 4294967296) (byteAt s (4 * t + i))
def fill (s : List UInt8) : Nat → List Int
  | 0 => List.replicate 64 0
  | t + 1 => (fill s t).set t (part s t 4)
def nextW (l : List Int) (t : Nat) : Int :=
  let x := l.getD (t - 15) 0
  let y := l.getD (t - 2) 0
  (l.getD (t - 16) 0 + bits .xor .u32 (bits .xor .u32 (rotr x 7) (rotr x 18)) (x / 8) + l.getD (t - 7) 0 + bits .xor .u32 (bits .xor .u32 (rotr y 17) (rotr y 19)) (y / 1024)) % 4294967296
def sched (l : List Int) : Nat → List Int
  | 0 => l
  | n + 1 => (sched l n).set (16 + n) (nextW (sched l n) (16 + n))
def notE (e : Int) : Int := bits .xor .u32 (if IntKind.u32.signed = true then -1 else IntKind.u32.max) e
def firstOf (s : List Int) (k w : Int) : Int :=
  s.getD 7 0 + bits .xor .u32 (bits .xor .u32 (rotr (s.getD 4 0) 6) (rotr (s.getD 4 0) 11)) (rotr (s.getD 4 0) 25) + bits .xor .u32 (bits .and .u32 (s.getD 4 0) (s.getD 5 0)) (bits .and .u32 (notE (s.getD 4 0)) (s.getD 6 0)) + k + w
def secondOf (s : List Int) : Int :=
  bits .xor .u32 (bits .xor .u32 (rotr (s.getD 0 0) 2) (rotr (s.getD 0 0) 13)) (rotr (s.getD 0 0) 22) + bits .xor .u32 (bits .xor .u32 (bits .and .u32 (s.getD 0 0) (s.getD 1 0)) (bits .and .u32 (s.getD 0 0) (s.getD 2 0))) (bits .and .u32 (s.getD 1 0) (s.getD 2 0))
def roundOf (s : List Int) (k w : Int) : List Int :=
  [(firstOf s k w + secondOf s) % 4294967296, s.getD 0 0, s.getD 1 0, s.getD 2 0, (s.getD 3 0 + firstOf s k w) % 4294967296, s.getD 4 0, s.getD 5 0, s.getD 6 0]
def rounds' (ks ws s : List Int) : Nat → List Int
  | 0 => s
  | n + 1 => roundOf (rounds' ks ws s n) (ks.getD n 0) (ws.getD n 0)
def addAll (st : List Int) (s : List Int) : Nat → List Int
  | 0 => s
  | n + 1 => (addAll st s n).set n (((addAll st s n).getD n 0 + st.getD n 0) % 4294967296)
def K64 : List Int := [1116352408, 1899447441, 3049323471, 3921009573, 961987163, 1508970993, 2453635748, 2870763221, 3624381080, 310598401, 607225278, 1426881987, 1925078388, 2162078206, 2614888103, 3248222580, 3835390401, 4022224774, 264347078, 604807628, 770255983, 1249150122, 1555081692, 1996064986, 2554220882, 2821834349, 2952996808, 3210313671, 3336571891, 3584528711, 113926993, 338241895, 666307205, 773529912, 1294757372, 1396182291, 1695183700, 1986661051, 2177026350, 2456956037, 2730485921, 2820302411, 3259730800, 3345764771, 3516065817, 3600352804, 4094571909, 275423344, 430227734, 506948616, 659060556, 883997877, 958139571, 1322822218, 1537002063, 1747873779, 1955562222, 2024104815, 2227730452, 2361852424, 2428436474, 2756734187, 3204031479, 3329325298]
def H8 : List Int := [1779033703, 3144134277, 1013904242, 2773480762, 1359893119, 2600822924, 528734635, 1541459225]
def stepOf (st : List Int) (blk : List UInt8) (ks : List Int) : List Int :=
  addAll st (rounds' ks (sched (fill blk 16) 48) st 64) 8

theorem fill_len (s : List UInt8) (t : Nat) : (fill s t).length = 64 := by induction t with
  | zero => simp [fill]
  | succ n ih => simp [fill, ih]
theorem sched_len (l : List Int) (n : Nat) : (sched l n).length = l.length := by induction n with
  | zero => rfl
  | succ n ih => simp [sched, ih]
theorem rounds_len (ks ws s : List Int) (h : s.length = 8) (n : Nat) : (rounds' ks ws s n).length = 8 := by cases n with
  | zero => exact h
  | succ n => rfl
theorem addAll_len (st s : List Int) (n : Nat) : (addAll st s n).length = s.length := by induction n with
  | zero => rfl
  | succ n ih => simp [addAll, ih]
theorem set_getD (l : List Int) (i j : Nat) (x : Int) (h : i < l.length) : (l.set i x).getD j 0 = if j = i then x else l.getD j 0 := by
  simp only [List.getD_eq_getElem?_getD, List.getElem?_set]
  by_cases e : i = j
  · subst e; simp [h]
  · rw [if_neg e, if_neg (fun h => e h.symm)]
theorem rep_get (n i : Nat) (z : Value) (h : i < n) : (List.replicate n z).toArray[i]? = some z := by simp [h]
theorem rep_getD (n i : Nat) (h : i < n) : (List.replicate n (0 : Int)).getD i 0 = 0 := by simp [List.getD_eq_getElem?_getD, h]
theorem set_same (l : List Int) (t : Nat) : l.set t (l.getD t 0) = l := by
  apply List.ext_getElem (by simp)
  intro i h1 h2
  rw [List.getElem_set]
  split
  · rename_i e; subst e; simp [List.getD_eq_getElem?_getD, h2]
  · rfl
theorem fill_zero (s : List UInt8) (t j : Nat) (h : t ≤ j) (h64 : t ≤ 64) : (fill s t).getD j 0 = 0 := by
  induction t with
  | zero => simp only [fill, List.getD_eq_getElem?_getD, List.getElem?_replicate]; split <;> rfl
  | succ n ih => rw [fill, set_getD _ _ _ _ (by rw [fill_len]; omega), if_neg (by omega), ih (by omega) (by omega)]
theorem byte_mod (s : ByteArray) (n : Nat) (h : n < s.size) : (s[n].toNat : Int) % 4294967296 = byteAt s.data.toList n := by
  have h1 : s.data.toList.getD n 0 = s[n] := by
    rw [List.getD_eq_getElem?_getD, List.getElem?_eq_getElem (by simpa using h)]; rfl
  have h2 : s[n].toNat < 256 := s[n].toNat_lt
  rw [byteAt, h1]; omega
theorem getD_zero_of_le (l : List Int) (j : Nat) (h : l.length ≤ j) : l.getD j 0 = 0 := by simp [List.getD_eq_getElem?_getD, List.getElem?_eq_none h]
end Go.Proofs.YtejaehmoplohdaaGreatDoor.Sha

/- The walk of digest.step. -/
namespace Go.Proofs.YtejaehmoplohdaaGreatDoor.Sha
open Go.RowKit

def W32 (l : List Int) : Nat → Value := fun j => .int .u32 (l.getD j 0)
structure SR (w : World) (st ks W : List Int) (wr : World) : Prop where
  bel : Below w.heap.size w wr
  size : wr.heap.size = w.heap.size + 4
  a : wr.rowIs w.heap.size 126 8 (W32 st)
  k : wr.rowIs (w.heap.size + 1) 128 64 (W32 ks)
  r : wr.rowIs (w.heap.size + 1 + 1) 126 8 (fun _ => .int .u32 0)
  v : wr.rowIs (w.heap.size + 1 + 1 + 1) 128 64 (W32 W)

theorem list8 (l : List Int) (h : l.length = 8) : ∃ a b c d e f g i, l = [a, b, c, d, e, f, g, i] := by
  match l, h with
  | [a, b, c, d, e, f, g, i], _ => exact ⟨a, b, c, d, e, f, g, i, rfl⟩
theorem SR.drew {w wr : World} {st ks W : List Int} (h : SR w st ks W wr) : SR w st ks W wr.drew := ⟨h.bel.drew, h.size, h.a, h.k, h.r, h.v⟩
theorem SR.drewN {w wr : World} {st ks W : List Int} (h : SR w st ks W wr) (n : Nat) : SR w st ks W (wr.drewN n) := ⟨⟨h.bel.os, h.bel.tape, h.bel.output, h.bel.size, h.bel.block⟩, h.size, h.a, h.k, h.r, h.v⟩
theorem SR.put {w wr : World} {st ks W : List Int} (h : SR w st ks W wr) (t : Nat) (x : Int) (hl : W.length = 64) (ht : t < 64) :
    SR w st ks (W.set t x) (wr.setCell ⟨w.heap.size + 1 + 1 + 1, t, none⟩ (.int .u32 x)) :=
  ⟨h.bel.setCell (by simp; omega) _, by simp [World.setCell, h.size], h.a.setOther (by simp; omega) _, h.k.setOther (by simp) _, h.r.setOther (by simp) _,
    (h.v.set t _).congr fun j _ => by
      simp only [W32, set_getD W t j x (by omega)]
      split <;> rfl⟩
theorem set_set_same (l : List Int) (t : Nat) (x y : Int) : (l.set t x).set t y = l.set t y := by simp
theorem SR.start (w : World) (st ks : List Int) (h1 : st.length = 8) (h3 : ks.length = 64) (c56 c58 : Array Value) (e56 : c56 = (List.replicate 8 (Value.int .u32 0)).toArray) (e58 : c58 = (List.replicate 64 (Value.int .u32 0)).toArray) :
    SR w st ks (List.replicate 64 0) ((((w.alloc (.cells ⟨st.map (Value.int .u32)⟩ 126)).alloc (.cells ⟨ks.map (Value.int .u32)⟩ 128)).alloc (.cells c56 126)).alloc (.cells c58 128)) := by
  subst e56 e58
  refine ⟨?_, by simp, ?_, ?_, ?_, ?_⟩
  · exact ((((Below.refl _ _).alloc (Nat.le_refl _) _).alloc (by simp) _).alloc (by simp; omega) _).alloc (by simp; omega) _
  · have := World.rowIs_alloc w ⟨st.map (Value.int .u32)⟩ 126 (W32 st) (fun i hi => by simp at hi ⊢; simp [W32, hi])
    simp only [List.size_toArray, List.length_map, h1] at this
    exact ((this.alloc _).alloc _).alloc _
  · have := World.rowIs_alloc (w.alloc (.cells ⟨st.map (Value.int .u32)⟩ 126)) ⟨ks.map (Value.int .u32)⟩ 128 (W32 ks) (fun i hi => by simp at hi ⊢; simp [W32, hi])
    simp only [List.size_toArray, List.length_map, h3] at this
    have := (this.alloc (.cells (List.replicate 8 (Value.int .u32 0)).toArray 126)).alloc (.cells (List.replicate 64 (Value.int .u32 0)).toArray 128)
    simpa using this
  · have := World.rowIs_alloc ((w.alloc (.cells ⟨st.map (Value.int .u32)⟩ 126)).alloc (.cells ⟨ks.map (Value.int .u32)⟩ 128)) (List.replicate 8 (Value.int .u32 0)).toArray 126 (fun _ => .int .u32 0) (fun i hi => rep_get 8 i _ (by simpa using hi))
    have := this.alloc (.cells (List.replicate 64 (Value.int .u32 0)).toArray 128)
    simpa using this
  · have := World.rowIs_alloc (((w.alloc (.cells ⟨st.map (Value.int .u32)⟩ 126)).alloc (.cells ⟨ks.map (Value.int .u32)⟩ 128)).alloc (.cells (List.replicate 8 (Value.int .u32 0)).toArray 126)) (List.replicate 64 (Value.int .u32 0)).toArray 128 (W32 (List.replicate 64 0)) (fun i hi => by rw [rep_get 64 i _ (by simpa using hi), W32, rep_getD 64 i (by simpa using hi)])
    simpa using this

structure SR2 (w : World) (st ks W S : List Int) (wr : World) : Prop where
  bel : Below w.heap.size w wr
  a : wr.rowIs w.heap.size 126 8 (W32 st)
  k : wr.rowIs (w.heap.size + 1) 128 64 (W32 ks)
  r : wr.rowIs (w.heap.size + 1 + 1) 126 8 (fun _ => .int .u32 0)
  v : wr.rowIs (w.heap.size + 1 + 1 + 1) 128 64 (W32 W)
  s : wr.rowIs (w.heap.size + 4) 126 8 (W32 S)
theorem SR2.drewN {w wr : World} {st ks W S : List Int} (h : SR2 w st ks W S wr) (n : Nat) : SR2 w st ks W S (wr.drewN n) := ⟨⟨h.bel.os, h.bel.tape, h.bel.output, h.bel.size, h.bel.block⟩, h.a, h.k, h.r, h.v, h.s⟩
theorem SR2.put {w wr : World} {st ks W S : List Int} (h : SR2 w st ks W S wr) (t : Nat) (x : Int) (hl : S.length = 8) (ht : t < 8) :
    SR2 w st ks W (S.set t x) (wr.setCell ⟨w.heap.size + 4, t, none⟩ (.int .u32 x)) :=
  ⟨h.bel.setCell (by simp) _, h.a.setOther (by simp) _, h.k.setOther (by simp) _, h.r.setOther (by simp) _, h.v.setOther (by simp) _,
    (h.s.set t _).congr fun j _ => by
      simp only [W32, set_getD S t j x (by omega)]
      split <;> rfl⟩
theorem SR.two {w wr : World} {st ks W : List Int} (h : SR w st ks W wr) (S : List Int) (c : Array Value) (hc : c = ⟨S.map (Value.int .u32)⟩) (hl : S.length = 8) : SR2 w st ks W S (wr.alloc (.cells c 126)) := by
  subst hc
  have := World.rowIs_alloc wr ⟨S.map (Value.int .u32)⟩ 126 (W32 S) (fun i hi => by simp at hi ⊢; simp [W32, hi])
  simp only [List.size_toArray, List.length_map, hl, h.size] at this
  exact ⟨h.bel.alloc (by rw [h.size]; omega) _, h.a.alloc _, h.k.alloc _, h.r.alloc _, h.v.alloc _, this⟩
theorem u64_in (n : Int) (h : 0 ≤ n) (h' : n ≤ 64) : IntKind.u64.wrap n = n := by
  simp [IntKind.wrap, IntKind.bits, IntKind.signed]; omega
theorem quietAdd {P : Program} {f : FuncId} {args : Array Value} {w : World} {a n : Nat} {v : Value}
    (h : Calls P f args (w.drewN (a + n)) fun e w' => e = .returned v ∧ w' = w.drewN (a + n)) :
    Calls P f args (w.drewN (a + n)) fun e w'' => e = .returned v ∧ ∃ m, w'' = w.drewN (a + m) :=
  h.mono fun _ _ ⟨he, hm⟩ => ⟨he, n, hm⟩
theorem region_st {P : Program} {id : Nat} {Q : Exit → Act → World → Prop} {a : Act} {w : World} {l : List Oper} (n : Nat) (hm : P.follows .mixedOrders = true) (hB : Region.lexTailB .any l.toArray n = true)
    (h : wpStill P l.toArray w.drew (fun a' => wpList P l.toArray Q (l.drop n) a' w.drew) (l.take n) a) : (Code.region id l.toArray true).wp P Q a w := wp_region_still_tail n hm hB h

theorem rot_s (n : Nat) (h1 : 1 ≤ n) (h2 : n ≤ 31) : bits BinOp.and IntKind.u64 (IntKind.u64.wrap (wrap64 (-(n : Int)))) 31 = ((32 - n : Nat) : Int) := by
  rcases n with _ | n
  · omega
  iterate 31 (rcases n with _ | n; · decide +kernel)
  omega
set_option maxHeartbeats 400000 in
theorem rot_core (x : Int) (n m : Nat) (w : World) (hs : bits BinOp.and IntKind.u64 (IntKind.u64.wrap (wrap64 (-(n : Int)))) 31 = (m : Int)) (h1 : 1 ≤ m) (h2 : m ≤ 31) (hk : IntKind.u64.wrap (32 - (m : Int)) = ((32 - m : Nat) : Int)) :
    Calls Tryz.prog 121 #[.int .u32 x, .int .i64 (n : Int)] w fun e w' => e = .returned (.int .u32 (bits .or .u32 (x * 2 ^ m % 4294967296) (x / 2 ^ (32 - m)))) ∧ w' = w := by
  have hb1 : (m : Int) ≤ 32 := by omega
  have hb2 : (0 : Int) ≤ ((32 - m : Nat) : Int) := by omega
  have hb3 : ((32 - m : Nat) : Int) ≤ 32 := by omega
  go_enter Tryz.func121, Tryz.ntmps121
  go_wp2
  go_ret
  exact ⟨rfl, rfl⟩
theorem rot_any (x : Int) (n : Int) (w : World) (h1 : 1 ≤ n) (h2 : n ≤ 31) :
    Calls Tryz.prog 121 #[.int .u32 x, .int .i64 n] w fun e w' => e = .returned (.int .u32 (rotr x n.toNat)) ∧ w' = w := by
  obtain ⟨k, rfl⟩ := Int.eq_ofNat_of_zero_le (show 0 ≤ n by omega)
  have h := rot_core x k (32 - k) w (rot_s k (by omega) (by omega)) (by omega) (by omega) (by rw [u64_in _ (by omega) (by omega)]; omega)
  rw [show 32 - (32 - k) = k by omega] at h
  exact h

set_option maxHeartbeats 6000000 in
set_option maxRecDepth 100000 in
theorem step_any (a0 a1 a2 a3 a4 a5 a6 a7 : Int) (st : List Int) (s : ByteArray) (ks : List Int) (w : World) (h1 : st = [a0, a1, a2, a3, a4, a5, a6, a7]) (h2 : s.size = 64) (h3 : ks.length = 64) :
    Calls Tryz.prog 92 #[.agg #[.int .u32 a0, .int .u32 a1, .int .u32 a2, .int .u32 a3, .int .u32 a4, .int .u32 a5, .int .u32 a6, .int .u32 a7], .string s, .agg ⟨ks.map (Value.int .u32)⟩] w fun e w' => e = .returned (.agg ⟨(stepOf st s.data.toList ks).map (Value.int .u32)⟩) ∧ Below w.heap.size w w' := by
  have H1 := Lib.hid h1
  have H3 := Lib.hid h3
  have H2 := Lib.hid h2
  clear h1 h3 h2
  go_enter Tryz.func92, Tryz.ntmps92
  go_wp2
  go_loopw [24] (fun i wr => ∃ t : Nat, t ≤ 16 ∧ i = .int .i64 t ∧ SR w st ks (fill s.data.toList t) wr) (fun i _ => 16 - (intOf i).toNat)
  case atStart => exact ⟨0, by omega, rfl, by
      have := H1.out
      subst this
      exact SR.start w _ ks rfl H3.out _ _ rfl rfl⟩
  case round =>
    obtain ⟨t, ht, rfl, hsr⟩ := hrel
    by_cases hlt : t < 16
    · have hd : decide ((t : Int) < 16) = true := by simp; omega
      go_wp2
      go_loopw [27] (fun i wi => ∃ j : Nat, j ≤ 4 ∧ i = .int .i64 j ∧ SR w st ks ((fill s.data.toList t).set t (part s.data.toList t j)) wi) (fun i _ => 4 - (intOf i).toNat)
      case atStart => exact ⟨0, by omega, rfl, by rw [show part s.data.toList t 0 = (fill s.data.toList t).getD t 0 from (fill_zero _ _ _ (Nat.le_refl _) (by omega)).symm, set_same]; exact hsr⟩
      case round =>
        obtain ⟨j, hj, rfl, hsi⟩ := hrel
        by_cases hlj : j < 4
        · obtain ⟨x, hx⟩ : ∃ x, x = part s.data.toList t j := ⟨_, rfl⟩
          have hc : wr.cell? ⟨w.heap.size + 1 + 1 + 1, t, none⟩ = some (.int .u32 x) := by
            have := hsi.v.cell (i := t) (by omega)
            simpa [W32, fill_len, hx, show t < 64 by omega] using this
          have HX := Lib.hid hx
          clear hx
          have hf := hsi.v.frozen t
          obtain ⟨n, hn⟩ : ∃ n : Nat, n = 4 * t + j := ⟨_, rfl⟩
          have hi : n < s.size := by have := H2.out; omega
          have hb : (t : Int) < 64 := by omega
          have hw1 : IntKind.i64.wrap (4 * (t : Int)) = 4 * (t : Int) := IntWalk.i64_in _ (by omega)
          have hw2 : IntKind.i64.wrap (4 * (t : Int) + (j : Int)) = (n : Int) := by rw [IntWalk.i64_in _ (by omega)]; omega
          have HN := Lib.hid hn
          clear hn
          go_wp2
          refine region_st 14 (by kernel_rfl) (by kernel_rfl) ?_
          simp only [List.take_succ_cons, List.take_zero, List.drop_succ_cons, List.drop_zero]
          repeat still_step
          refine wpStill_nil ?_
          go_wp2
          go_roundw
          case rel =>
            refine ⟨j + 1, by omega, by go_num, ?_⟩
            have := (hsi.put t (part s.data.toList t (j + 1)) (by simp [fill_len]) (by omega)).drew
            rw [set_set_same] at this
            rw [HX.out, byte_mod s n hi, HN.out]
            exact this
          case measure => simp [intOf]; omega
        · go_wp2
          go_roundw
          case rel => exact ⟨t + 1, by omega, by go_num, by obtain rfl : j = 4 := by omega
                                                            exact hsi⟩
          case measure => simp [intOf]; omega
    · have HT := Lib.hid (show t = 16 by omega)
      have hd0 : decide ((t : Int) < 16) = false := by simp; omega
      replace hsr : SR w st ks (fill s.data.toList 16) wr := by have := HT.out; subst this; exact hsr
      go_wp2
      go_loopw [10] (fun i wi => ∃ c : Nat, 16 ≤ c ∧ c ≤ 64 ∧ i = .int .i64 (c : Int) ∧ SR w st ks (sched (fill s.data.toList 16) (c - 16)) wi) (fun i _ => 64 - (intOf i).toNat)
      case atStart => exact ⟨16, by omega, by omega, rfl, hsr⟩
      case round =>
        obtain ⟨c, hq0, hq, rfl, hsi⟩ := hrel
        obtain ⟨L, hL⟩ : ∃ L, L = sched (fill s.data.toList 16) (c - 16) := ⟨_, rfl⟩
        rw [← hL] at hsi
        by_cases hlq : c < 64
        · have hd : decide ((c : Int) < 64) = true := by simp; omega
          obtain ⟨i1, hi1⟩ : ∃ i : Nat, i = c - 15 := ⟨_, rfl⟩
          obtain ⟨i2, hi2⟩ : ∃ i : Nat, i = c - 2 := ⟨_, rfl⟩
          obtain ⟨i3, hi3⟩ : ∃ i : Nat, i = c - 16 := ⟨_, rfl⟩
          obtain ⟨i4, hi4⟩ : ∃ i : Nat, i = c - 7 := ⟨_, rfl⟩
          have hw1 : IntKind.i64.wrap ((c : Int) - 15) = (i1 : Int) := by rw [IntWalk.i64_in _ (by omega)]; omega
          have hw2 : IntKind.i64.wrap ((c : Int) - 2) = (i2 : Int) := by rw [IntWalk.i64_in _ (by omega)]; omega
          have hw3 : IntKind.i64.wrap ((c : Int) - 16) = (i3 : Int) := by rw [IntWalk.i64_in _ (by omega)]; omega
          have hw4 : IntKind.i64.wrap ((c : Int) - 7) = (i4 : Int) := by rw [IntWalk.i64_in _ (by omega)]; omega
          have b1 : (i1 : Int) < 64 := by omega
          have b2 : (i2 : Int) < 64 := by omega
          have b3 : (i3 : Int) < 64 := by omega
          have b4 : (i4 : Int) < 64 := by omega
          have b5 : (c : Int) < 64 := by omega
          have c1 : wr.cell? ⟨w.heap.size + 1 + 1 + 1, i1, none⟩ = some (.int .u32 (L.getD i1 0)) := hsi.v.cell (by omega)
          have c2 : wr.cell? ⟨w.heap.size + 1 + 1 + 1, i2, none⟩ = some (.int .u32 (L.getD i2 0)) := hsi.v.cell (by omega)
          have c3 : wr.cell? ⟨w.heap.size + 1 + 1 + 1, i3, none⟩ = some (.int .u32 (L.getD i3 0)) := hsi.v.cell (by omega)
          have c4 : wr.cell? ⟨w.heap.size + 1 + 1 + 1, i4, none⟩ = some (.int .u32 (L.getD i4 0)) := hsi.v.cell (by omega)
          have c5 : wr.cell? ⟨w.heap.size + 1 + 1 + 1, c, none⟩ = some (.int .u32 (L.getD c 0)) := hsi.v.cell (by omega)
          have hf := hsi.v.frozen c
          generalize hx : L.getD i1 0 = x at *
          generalize hy : L.getD i2 0 = y at *
          generalize hz : L.getD i3 0 = z at *
          generalize hu : L.getD i4 0 = u at *
          generalize L.getD c 0 = v at *
          have HX := Lib.hid (And.intro hL (And.intro hx (And.intro hy (And.intro hz (And.intro hu (And.intro hi1 (And.intro hi2 (And.intro hi3 hi4))))))))
          clear hL hx hy hz hu hi1 hi2 hi3 hi4
          go_wp2
          go_quiet (fail)
          go_wp2
          refine region_st 29 (by kernel_rfl) (by kernel_rfl) ?_
          simp only [List.take_succ_cons, List.take_zero, List.drop_succ_cons, List.drop_zero]
          repeat (first | still_step | still_call (rot_any _ _ _ (by omega) (by omega)))
          refine wpStill_nil ?_
          go_wp2
          go_roundw
          case rel =>
            refine ⟨c + 1, by omega, by omega, by go_num, ?_⟩
            obtain ⟨hL, hx, hy, hz, hu, hi1, hi2, hi3, hi4⟩ := HX.out
            have e : sched (fill s.data.toList 16) (c + 1 - 16) = L.set c (nextW L c) := by
              rw [show c + 1 - 16 = (c - 16) + 1 by omega, sched, show 16 + (c - 16) = c by omega, hL]
            rw [e]
            have := ((hsi.drewN (nq + 1)).put c (nextW L c) (by rw [hL, sched_len, fill_len]) (by omega))
            rw [nextW, ← hi1, ← hi2, ← hi3, ← hi4, hx, hy, hz, hu] at this ⊢
            exact this
          case measure => simp [intOf]; omega
        · have hd : decide ((c : Int) < 64) = false := by simp; omega
          have HC := Lib.hid (show c = 64 by omega)
          have e48 : c - 16 = 48 := by rw [HC.out]
          rw [hL, e48] at hsi
          clear hL e48
          have d0 : wr.cell? ⟨w.heap.size, 0, none⟩ = some (.int .u32 a0) := by rw [hsi.a.cell (i := 0) (by omega), H1.out]; rfl
          have d1 : wr.cell? ⟨w.heap.size, 1, none⟩ = some (.int .u32 a1) := by rw [hsi.a.cell (i := 1) (by omega), H1.out]; rfl
          have d2 : wr.cell? ⟨w.heap.size, 2, none⟩ = some (.int .u32 a2) := by rw [hsi.a.cell (i := 2) (by omega), H1.out]; rfl
          have d3 : wr.cell? ⟨w.heap.size, 3, none⟩ = some (.int .u32 a3) := by rw [hsi.a.cell (i := 3) (by omega), H1.out]; rfl
          have d4 : wr.cell? ⟨w.heap.size, 4, none⟩ = some (.int .u32 a4) := by rw [hsi.a.cell (i := 4) (by omega), H1.out]; rfl
          have d5 : wr.cell? ⟨w.heap.size, 5, none⟩ = some (.int .u32 a5) := by rw [hsi.a.cell (i := 5) (by omega), H1.out]; rfl
          have d6 : wr.cell? ⟨w.heap.size, 6, none⟩ = some (.int .u32 a6) := by rw [hsi.a.cell (i := 6) (by omega), H1.out]; rfl
          have d7 : wr.cell? ⟨w.heap.size, 7, none⟩ = some (.int .u32 a7) := by rw [hsi.a.cell (i := 7) (by omega), H1.out]; rfl
          have hsz := hsi.size
          obtain ⟨W, hW⟩ : ∃ W, W = sched (fill s.data.toList 16) 48 := ⟨_, rfl⟩
          rw [← hW] at hsi
          have HW := Lib.hid hW
          clear hW
          go_wp2
          clear d0 d1 d2 d3 d4 d5 d6 d7
          go_loopw [88] (fun i wi => ∃ n : Nat, n ≤ 64 ∧ i = .int .i64 (n : Int) ∧ SR2 w st ks W (rounds' ks W st n) wi) (fun i _ => 64 - (intOf i).toNat)
          case atStart => exact ⟨0, by omega, rfl, hsi.two st _ (by rw [H1.out]; rfl) (by rw [H1.out]; rfl)⟩
          case round =>
            obtain ⟨n, hn, rfl, hs2⟩ := hrel
            obtain ⟨S, hS⟩ : ∃ S, S = rounds' ks W st n := ⟨_, rfl⟩
            rw [← hS] at hs2
            by_cases hln : n < 64
            · have hd : decide ((n : Int) < 64) = true := by simp; omega
              have hb : (n : Int) < 64 := by omega
              obtain ⟨b0, b1, b2, b3, b4, b5, b6, b7, hS8⟩ := list8 S (by rw [hS]; exact rounds_len _ _ _ (by rw [H1.out]; rfl) _)
              have d0 : wr.cell? ⟨w.heap.size + 4, 0, none⟩ = some (.int .u32 b0) := by rw [hs2.s.cell (i := 0) (by omega), hS8]; rfl
              have d1 : wr.cell? ⟨w.heap.size + 4, 1, none⟩ = some (.int .u32 b1) := by rw [hs2.s.cell (i := 1) (by omega), hS8]; rfl
              have d2 : wr.cell? ⟨w.heap.size + 4, 2, none⟩ = some (.int .u32 b2) := by rw [hs2.s.cell (i := 2) (by omega), hS8]; rfl
              have d3 : wr.cell? ⟨w.heap.size + 4, 3, none⟩ = some (.int .u32 b3) := by rw [hs2.s.cell (i := 3) (by omega), hS8]; rfl
              have d4 : wr.cell? ⟨w.heap.size + 4, 4, none⟩ = some (.int .u32 b4) := by rw [hs2.s.cell (i := 4) (by omega), hS8]; rfl
              have d5 : wr.cell? ⟨w.heap.size + 4, 5, none⟩ = some (.int .u32 b5) := by rw [hs2.s.cell (i := 5) (by omega), hS8]; rfl
              have d6 : wr.cell? ⟨w.heap.size + 4, 6, none⟩ = some (.int .u32 b6) := by rw [hs2.s.cell (i := 6) (by omega), hS8]; rfl
              have d7 : wr.cell? ⟨w.heap.size + 4, 7, none⟩ = some (.int .u32 b7) := by rw [hs2.s.cell (i := 7) (by omega), hS8]; rfl
              have e1 : wr.cell? ⟨w.heap.size + 1, n, none⟩ = some (.int .u32 (ks.getD n 0)) := hs2.k.cell (by omega)
              have e2 : wr.cell? ⟨w.heap.size + 1 + 1 + 1, n, none⟩ = some (.int .u32 (W.getD n 0)) := hs2.v.cell (by omega)
              have f0 := hs2.s.frozen 0
              have f1 := hs2.s.frozen 1
              have f2 := hs2.s.frozen 2
              have f3 := hs2.s.frozen 3
              have f4 := hs2.s.frozen 4
              have f5 := hs2.s.frozen 5
              have f6 := hs2.s.frozen 6
              have f7 := hs2.s.frozen 7
              generalize hx : ks.getD n 0 = x at *
              generalize hy : W.getD n 0 = y at *
              have HX := Lib.hid (And.intro hS (And.intro hS8 (And.intro hx hy)))
              clear hS hS8 hx hy hsz
              go_wp2
              go_quiet (fail)
              go_wp2
              go_quiet ((go_at_call 121; exact quietAdd (rot_any _ _ _ (by omega) (by omega))))
              go_wp2_with (go_at_call 121; refine (rot_any _ _ _ (by omega) (by omega)).mono ?_; rintro e w' ⟨rfl, rfl⟩)
              go_roundw
              case rel =>
                refine ⟨n + 1, by omega, by go_num, ?_⟩
                obtain ⟨hS, hS8, hx, hy⟩ := HX.out
                have e : rounds' ks W st (n + 1) = roundOf [b0, b1, b2, b3, b4, b5, b6, b7] x y := by rw [rounds', ← hS, hS8, hx, hy]
                rw [e]
                rw [hS8] at hs2
                exact ((((((((hs2.drewN _).put 0 _ rfl (by omega)).put 1 _ rfl (by omega)).put 2 _ rfl (by omega)).put 3 _ rfl (by omega)).put 4 _ rfl (by omega)).put 5 _ rfl (by omega)).put 6 _ rfl (by omega)).put 7 _ rfl (by omega)
              case measure => simp [intOf]; omega
            · have hd : decide ((n : Int) < 64) = false := by simp; omega
              have e64 : n = 64 := by omega
              rw [hS, e64] at hs2
              have HN := Lib.hid e64
              clear hS e64 hsz
              obtain ⟨R, hR⟩ : ∃ R, R = rounds' ks W st 64 := ⟨_, rfl⟩
              rw [← hR] at hs2
              have hR8 : R.length = 8 := by rw [hR]; exact rounds_len _ _ _ (by rw [H1.out]; rfl) _
              have HR := Lib.hid (And.intro hR hR8)
              clear hR hR8
              go_wp2
              go_loopw [166] (fun i wi => ∃ m : Nat, m ≤ 8 ∧ i = .int .i64 (m : Int) ∧ SR2 w st ks W (addAll st R m) wi) (fun i _ => 8 - (intOf i).toNat)
              case atStart => exact ⟨0, by omega, rfl, hs2⟩
              case round =>
                obtain ⟨m, hm, rfl, hs3⟩ := hrel
                obtain ⟨A, hA⟩ : ∃ A, A = addAll st R m := ⟨_, rfl⟩
                rw [← hA] at hs3
                have hA8 : A.length = 8 := by rw [hA, addAll_len]; exact HR.out.2
                by_cases hlm : m < 8
                · have hb : (m : Int) < 8 := by omega
                  have c1 : wr.cell? ⟨w.heap.size + 4, m, none⟩ = some (.int .u32 (A.getD m 0)) := hs3.s.cell (by omega)
                  have c2 : wr.cell? ⟨w.heap.size, m, none⟩ = some (.int .u32 (st.getD m 0)) := hs3.a.cell (by omega)
                  have hf := hs3.s.frozen m
                  generalize hx : A.getD m 0 = x at *
                  generalize hy : st.getD m 0 = y at *
                  have HX := Lib.hid (And.intro hA (And.intro hA8 (And.intro hx hy)))
                  clear hA hA8 hx hy
                  go_wp2
                  refine region_st 8 (by kernel_rfl) (by kernel_rfl) ?_
                  simp only [List.take_succ_cons, List.take_zero, List.drop_succ_cons, List.drop_zero]
                  repeat still_step
                  refine wpStill_nil ?_
                  go_wp2
                  go_roundw
                  case rel =>
                    refine ⟨m + 1, by omega, by go_num, ?_⟩
                    obtain ⟨hA, hA8, hx, hy⟩ := HX.out
                    rw [addAll, ← hA, hx, hy]
                    exact (hs3.put m _ hA8 (by omega)).drewN 1
                  case measure => simp [intOf]; omega
                · have e8 : m = 8 := by omega
                  rw [hA, e8] at hs3
                  rw [hA, e8] at hA8
                  clear e8 hA
                  obtain ⟨b0, b1, b2, b3, b4, b5, b6, b7, hS8⟩ := list8 _ hA8
                  clear hA8
                  have d0 : wr.cell? ⟨w.heap.size + 4, 0, none⟩ = some (.int .u32 b0) := by rw [hs3.s.cell (i := 0) (by omega), hS8]; rfl
                  have d1 : wr.cell? ⟨w.heap.size + 4, 1, none⟩ = some (.int .u32 b1) := by rw [hs3.s.cell (i := 1) (by omega), hS8]; rfl
                  have d2 : wr.cell? ⟨w.heap.size + 4, 2, none⟩ = some (.int .u32 b2) := by rw [hs3.s.cell (i := 2) (by omega), hS8]; rfl
                  have d3 : wr.cell? ⟨w.heap.size + 4, 3, none⟩ = some (.int .u32 b3) := by rw [hs3.s.cell (i := 3) (by omega), hS8]; rfl
                  have d4 : wr.cell? ⟨w.heap.size + 4, 4, none⟩ = some (.int .u32 b4) := by rw [hs3.s.cell (i := 4) (by omega), hS8]; rfl
                  have d5 : wr.cell? ⟨w.heap.size + 4, 5, none⟩ = some (.int .u32 b5) := by rw [hs3.s.cell (i := 5) (by omega), hS8]; rfl
                  have d6 : wr.cell? ⟨w.heap.size + 4, 6, none⟩ = some (.int .u32 b6) := by rw [hs3.s.cell (i := 6) (by omega), hS8]; rfl
                  have d7 : wr.cell? ⟨w.heap.size + 4, 7, none⟩ = some (.int .u32 b7) := by rw [hs3.s.cell (i := 7) (by omega), hS8]; rfl
                  have r0 := hs3.r.cell (i := 0) (by omega)
                  have r1 := hs3.r.cell (i := 1) (by omega)
                  have r2 := hs3.r.cell (i := 2) (by omega)
                  have r3 := hs3.r.cell (i := 3) (by omega)
                  have r4 := hs3.r.cell (i := 4) (by omega)
                  have r5 := hs3.r.cell (i := 5) (by omega)
                  have r6 := hs3.r.cell (i := 6) (by omega)
                  have r7 := hs3.r.cell (i := 7) (by omega)
                  have f0 := hs3.r.frozen 0
                  have f1 := hs3.r.frozen 1
                  have f2 := hs3.r.frozen 2
                  have f3 := hs3.r.frozen 3
                  have f4 := hs3.r.frozen 4
                  have f5 := hs3.r.frozen 5
                  have f6 := hs3.r.frozen 6
                  have f7 := hs3.r.frozen 7
                  have HS := Lib.hid hS8
                  clear hS8
                  go_wp2
                  refine bodyPost_ret (v := .agg #[.int .u32 b0, .int .u32 b1, .int .u32 b2, .int .u32 b3, .int .u32 b4, .int .u32 b5, .int .u32 b6, .int .u32 b7]) (by simp [results, Tryz.results92, go_sem, r0, r1, r2, r3, r4, r5, r6, r7]) rfl ⟨?_, ?_⟩
                  · have e : stepOf st s.data.toList ks = [b0, b1, b2, b3, b4, b5, b6, b7] := by rw [stepOf, ← HW.out, ← HR.out.1, HS.out]
                    rw [e]; rfl
                  · exact (((((((hs3.bel.setCell (by simp; omega) _).setCell (by simp; omega) _).setCell (by simp; omega) _).setCell (by simp; omega) _).setCell (by simp; omega) _).setCell (by simp; omega) _).setCell (by simp; omega) _).setCell (by simp; omega) _
end Go.Proofs.YtejaehmoplohdaaGreatDoor.Sha

/- Contracts of digest.start, constants. -/
namespace Go.Proofs.YtejaehmoplohdaaGreatDoor.Sha
open Go.RowKit

set_option maxHeartbeats 1000000 in
set_option maxRecDepth 100000 in
theorem start_any (w : World) : Calls Tryz.prog 90 #[] w fun e w' => e = .returned (.agg #[.int .u32 1779033703, .int .u32 3144134277, .int .u32 1013904242, .int .u32 2773480762, .int .u32 1359893119, .int .u32 2600822924, .int .u32 528734635, .int .u32 1541459225]) ∧ Below w.heap.size w w' := by
  go_enter Tryz.func90, Tryz.ntmps90
  go_wp2
  refine bodyPost_ret (results_cell_row (p := 0) (ty := 126) rfl _ _ w.heap.size 126 _ (0, 0) _ rfl (heap_alloc_new w _) Tryz.underlying126 rfl (by kernel_rfl)) rfl ⟨rfl, (Below.refl _ _).alloc (Nat.le_refl _) _⟩

theorem build_is {P : Program} {ops : Array Oper} {rest : List Oper} {o : Oper} {a : Act} {w : World} {Q : Exit → Act → World → Prop} (hg : o.guard = none) (t : TypeId) (parts : Array (Nat × Operand)) (ho : o.op = .build t parts)
    (cs : Array Value) (hf : P.built t (parts.map fun (i, x) => (i, a.eval x)).toList = some cs)
    (h : wpList P ops Q rest (a.put o.dst (.agg cs)) w) : wpList P ops Q (o :: rest) a w :=
  wpList_build hg t parts ho (by rw [hf]; rfl) (by rw [hf]; exact h)
def KA : Array Value := ⟨K64.map (Value.int .u32)⟩

set_option maxHeartbeats 1000000 in
set_option maxRecDepth 100000 in
theorem constants_any (w : World) : Calls Tryz.prog 91 #[] w fun e w' => e = .returned (.agg KA) ∧ Below w.heap.size w w' := by
  go_enter Tryz.func91, Tryz.ntmps91
  go_wp2_with (first
    | (refine build_is rfl 128 _ rfl KA (by kernel_rfl) ?_)
    | (refine wpList_store_row rfl 128 _ _ rfl w.heap.size KA rfl rfl 128 _ (heap_alloc_new w _) (by kernel_rfl) (by kernel_rfl) (by kernel_rfl) ?_))
  rw [World.setRow_alloc_new]
  refine bodyPost_ret (results_cell_row (p := 0) (ty := 128) rfl _ _ w.heap.size 128 KA (0, 0) _ rfl (heap_alloc_new w _) Tryz.underlying128 rfl (by kernel_rfl)) rfl ⟨rfl, (Below.refl _ _).alloc (Nat.le_refl _) _⟩
end Go.Proofs.YtejaehmoplohdaaGreatDoor.Sha

/- Contract of digest.padded. -/
namespace Go.Proofs.YtejaehmoplohdaaGreatDoor.Sha
open Go.RowKit

def zerosOf (n : Nat) : Nat := (119 - n % 64) % 64
/-- the i-th last byte of the length in bits -/
def lenByte (n i : Nat) : UInt8 := UInt8.ofNat (n * 8 / 2 ^ i)
def lenBytes (n : Nat) : Nat → List UInt8
  | 0 => []
  | j + 1 => lenBytes n j ++ [lenByte n (56 - 8 * j)]
def zeroL (r : Nat) : List UInt8 := List.replicate r 0
theorem zeroL_len (r : Nat) : (zeroL r).length = r := by simp [zeroL]
theorem repeat_zero (r : Nat) : Lib.repeatL [0] r = zeroL r := by
  induction r with
  | zero => rfl
  | succ n ih => rw [Lib.repeatL, ih]; rfl
theorem zeros_any (r : Nat) (w : World) (h : r ≤ 64) : Calls Tryz.prog 82 #[.string ⟨#[0]⟩, .int .i64 r] w fun e w' => e = .returned (.string ⟨(zeroL r).toArray⟩) ∧ Below w.heap.size w w' := by
  have := Tryz.strings_Repeat ⟨#[0]⟩ r w (by omega) (by show 1 * r ≤ _; omega)
  rw [show (⟨#[0]⟩ : ByteArray).data.toList = [0] from rfl, repeat_zero] at this
  exact this
theorem lenBytes_len (n j : Nat) : (lenBytes n j).length = j := by
  induction j with
  | zero => rfl
  | succ n ih => simp [lenBytes, ih]
theorem conv1 (w : World) (z : Int) : (convert 50 9 (.slice (some ⟨w.heap.size, 0, none⟩) 1 1)).run Tryz.prog (w.alloc (.cells #[.int .u8 z] 5)) = .ok (.string ⟨#[UInt8.ofNat z.toNat]⟩) (w.alloc (.cells #[.int .u8 z] 5)) := by
  have := run_convert_bytes_arg (P := Tryz.prog) (w.alloc (.cells #[.int .u8 z] 5)) 50 5 Tryz.underlying50 Tryz.underlying5 w.heap.size 0 1 1 [z] rfl (fun i hi => by
    obtain rfl : i = 0 := by omega
    rw [cell_of_row _ _ _ _ _ _ (heap_alloc_new w _)]; rfl) 9 Tryz.underlying9
  exact this
theorem lenByte_of (n c : Nat) (N : Int) (h : (n : Int) * 8 = N) : UInt8.ofNat (N / 2 ^ c % 256).toNat = lenByte n c := by
  subst h
  have e : ((n : Int) * 8 / 2 ^ c % 256).toNat = n * 8 / 2 ^ c % 256 := by
    have : ((n : Int) * 8 / 2 ^ c % 256) = ((n * 8 / 2 ^ c % 256 : Nat) : Int) := by rw [Int.natCast_emod, Int.natCast_ediv, Int.natCast_mul, Int.natCast_pow]; rfl
    rw [this]; rfl
  rw [e, lenByte]
  apply UInt8.toNat_inj.1
  simp
def padHead (s : List UInt8) : List UInt8 := s ++ (128 :: zeroL (zerosOf s.length))
def padOf (s : List UInt8) : List UInt8 := padHead s ++ lenBytes s.length 8

set_option maxHeartbeats 1000000 in
set_option maxRecDepth 100000 in
theorem padded_any (s : ByteArray) (w : World) (hs : s.size ≤ 140737488351232) :
    Calls Tryz.prog 89 #[.string s] w fun e w' => e = .returned (.string ⟨(padOf s.data.toList).toArray⟩) ∧ Below w.heap.size w w' := by
  obtain ⟨r, hr⟩ : ∃ r : Nat, r = zerosOf s.size := ⟨_, rfl⟩
  have hr64 : r < 64 := by rw [hr, zerosOf]; omega
  have hw : (119 - (s.size : Int) % 64) % 64 = (r : Int) := by rw [hr, zerosOf]; omega
  have HR := Lib.hid hr
  clear hr
  go_enter Tryz.func89, Tryz.ntmps89
  go_wp2_with fail
  refine (zeros_any r w (by omega)).mono ?_
  rintro e w1 ⟨rfl, hb1⟩
  have hl : (zeroL r).length ≤ 64 := by rw [zeroL_len]; omega
  go_wp2_with fail
  go_loopw [0, 4] (fun v i wr => ∃ j : Nat, j ≤ 8 ∧ i = .int .i64 (56 - 8 * (j : Int)) ∧ v = .string ⟨(padHead s.data.toList ++ lenBytes s.size j).toArray⟩ ∧ Below w.heap.size w wr) (fun _ i _ => (64 + intOf i).toNat)
  case atStart =>
    refine ⟨0, by omega, rfl, ?_, hb1⟩
    have : padHead s.data.toList = s.data.toList ++ (128 :: zeroL r) := by rw [HR.out]; rfl
    rw [this]
    exact congrArg Value.string (by apply ByteArray.ext; simp [lenBytes])
  case round =>
    obtain ⟨j, hj, rfl, rfl, hb⟩ := hrel
    obtain ⟨P, hP⟩ : ∃ P, P = padHead s.data.toList ++ lenBytes s.size j := ⟨_, rfl⟩
    rw [← hP]
    have HP := Lib.hid hP
    clear hP
    by_cases hlt : j < 8
    · obtain ⟨c, hc⟩ : ∃ c : Nat, 56 - 8 * (j : Int) = (c : Int) := ⟨56 - 8 * j, by omega⟩
      have hc64 : (c : Int) ≤ 64 := by omega
      have hPl : P.length ≤ 140737488352000 := by rw [HP.out]; simp only [List.length_append, lenBytes_len, padHead, List.length_cons, zeroL_len]; simp [zerosOf]; omega
      rw [hc]
      have HC := Lib.hid hc
      clear hc hw
      obtain ⟨N, hN⟩ : ∃ N : Int, (s.size : Int) * 8 = N := ⟨_, rfl⟩
      have hN0 : 0 ≤ N := by omega
      rw [hN]
      have HN := Lib.hid hN
      clear hN
      have hcv := conv1 wr
      go_wp2_with fail
      go_roundw
      case rel =>
        refine ⟨j + 1, by omega, ?_, ?_, hb.alloc (by have := hb.size; omega) _⟩
        · have := HC.out
          exact congrArg (Value.int .i64) (by push_cast; omega)
        · rw [lenByte_of s.size c N HN.out]
          have e : padHead s.data.toList ++ lenBytes s.size (j + 1) = P ++ [lenByte s.size c] := by
            rw [lenBytes, ← List.append_assoc, ← HP.out, show 56 - 8 * j = c from by have := HC.out; omega]
          rw [e]
          exact congrArg Value.string (by apply ByteArray.ext; simp)
      case measure => have := HC.out; simp [intOf]; omega
    · go_wp2_with fail
      go_ret
      refine ⟨?_, hb⟩
      have e : P = padOf s.data.toList := by
        obtain rfl : j = 8 := by omega
        rw [HP.out]; rfl
      subst e
      rfl
end Go.Proofs.YtejaehmoplohdaaGreatDoor.Sha
