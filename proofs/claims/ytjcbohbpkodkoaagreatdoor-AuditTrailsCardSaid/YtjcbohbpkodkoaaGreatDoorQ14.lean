/- AuditTrails: the walk. -/
import Derived.Test.YtjcbohbpkodkoaaGreatDoorQ13
import Derived.Test.YtjcbohbpkodkoaaGreatDoorQ11
namespace Go.Proofs.YtjcbohbpkodkoaaGreatDoor
open Go.RowKit Go.Maps Num

theorem WfP.fit {w : World} {p : PE} (h : WfP w p) (hf : Fit p.2.2.2.1 p.2.2.2.2) (hb : p.1.2.2.length ≤ 60) : FitP w p := ⟨h.1.fit hf, hb, hf, h.2.2.1, h.2.2.2⟩
theorem WfP.below {w w' : World} {p : PE} (h : WfP w p) (hb : Below w.heap.size w w') : WfP w' p := ⟨h.1.below hb, h.2⟩
theorem traL_len (ps : List PE) : (traL ps).length ≤ ps.length := by
  unfold traL
  split
  · rw [chL_len]; unfold poTs; rw [List.length_map]; exact Nat.le_refl _
  · simp
set_option maxRecDepth 100000 in
set_option maxHeartbeats 8000000 in
theorem trails_in (A : Option Addr) (n c : Nat) (ps : List PE) (Aa : Option Addr) (na ca : Nat) (a : List (List UInt8)) (Ab : Option Addr) (nb cb : Nat) (b : List (List UInt8)) (w : World)
    (hl : rowPo.Rds w A n c ps) (hr : ∀ p ∈ ps, WfP w p) (ha : rowS.Rds w Aa na ca a) (hb : rowS.Rds w Ab nb cb b) (ht : Tab w) (hm : ML w) :
    Calls Tryz.prog 3 #[.slice A n c, .slice Aa na ca, .slice Ab nb cb] w (BoolPost true w) := by
  have HP := Lib.hid (fun W (h : Below w.heap.size w W) => (show BoolPost true w (.returned (.bool true)) W from ⟨rfl, h⟩))
  have HW := Lib.hid (fun W (h : Below w.heap.size w W) => awake_any W (ht.below h) (hm.below h))
  unfold BoolPost at HW
  have HG := rgreatP_any A n c ps w hl (fun p hp => (hr p hp).1)
  have htopa : na ≤ maxLen := Nat.le_trans ha.cap ha.top
  have htopb : nb ≤ maxLen := Nat.le_trans hb.cap hb.top
  unfold maxLen at htopa htopb
  cases hg : greatP ps
  case true =>
    rw [hg] at HG
    unfold BoolPost at HG
    have HG1 := Lib.hid HG
    clear hl hr ha hb ht hm HG hg
    generalize BoolPost true w = Post at *
    go_enter Tryz.func3, Tryz.ntmps3
    go_wp2_with fail
    refine HG1.out.mono ?_
    rintro e w2 ⟨rfl, h⟩
    have B2 := Lib.hid h
    clear h
    go_wp2_with fail
    refine (HW.out _ B2.out).mono ?_
    rintro e w3 ⟨rfl, h⟩
    have B3 := Lib.hid (below_next B2.out h ⟨rfl, rfl, rfl, rfl⟩)
    clear h
    go_wp2_with fail
    exact HP.out _ B3.out
  case false =>
  rw [hg] at HG
  unfold BoolPost at HG
  have HG1 := Lib.hid HG
  obtain ⟨hn16, hfit⟩ := greatP_parts hg
  have hn : n ≤ 16 := by rw [← hl.len]; exact hn16
  have K1 := Lib.hid (fun W (h : Below w.heap.size w W) => trail_any A n c ps W (hl.below h) (fun p hp => ((hr p hp).fit (hfit p hp).1 (hfit p hp).2).below h) hn (ht.below h) (hm.below h))
  have K2 := Lib.hid (fun W (h : Below w.heap.size w W) => rtrail_any A n c ps W (hl.below h) (fun p hp => ((hr p hp).fit (hfit p hp).1 (hfit p hp).2).below h) hn)
  have htl : (traL ps).length ≤ 1000000 := by have := traL_len ps; omega
  have LA := Lib.hid ha
  have LB := Lib.hid hb
  clear hl hr ha hb ht hm HG hg hfit hn16 hn
  generalize BoolPost true w = Post at *
  by_cases h1 : 20 < na
  case pos =>
    have t1 : decide ((20 : Int) < (na : Int)) = true := by rw [decide_eq_true_iff]; omega
    clear K1 K2 h1
    go_enter Tryz.func3, Tryz.ntmps3
    go_wp2_with fail
    refine HG1.out.mono ?_
    rintro e w2 ⟨rfl, h⟩
    have B2 := Lib.hid h
    clear h
    go_wp2_with fail
    refine (HW.out _ B2.out).mono ?_
    rintro e w3 ⟨rfl, h⟩
    have B3 := Lib.hid (below_next B2.out h ⟨rfl, rfl, rfl, rfl⟩)
    clear h
    go_wp2_with fail
    exact HP.out _ B3.out
  have t1 : decide ((20 : Int) < (na : Int)) = false := by rw [decide_eq_false_iff_not]; omega
  by_cases h2 : 20 < nb
  case pos =>
    have t2 : decide ((20 : Int) < (nb : Int)) = true := by rw [decide_eq_true_iff]; omega
    clear K1 K2 h1 h2
    go_enter Tryz.func3, Tryz.ntmps3
    go_wp2_with fail
    refine HG1.out.mono ?_
    rintro e w2 ⟨rfl, h⟩
    have B2 := Lib.hid h
    clear h
    go_wp2_with fail
    refine (HW.out _ B2.out).mono ?_
    rintro e w3 ⟨rfl, h⟩
    have B3 := Lib.hid (below_next B2.out h ⟨rfl, rfl, rfl, rfl⟩)
    clear h
    go_wp2_with fail
    exact HP.out _ B3.out
  have t2 : decide ((20 : Int) < (nb : Int)) = false := by rw [decide_eq_false_iff_not]; omega
  have CA := Lib.hid (fun W (h : Below w.heap.size w W) => conLg_any Aa na ca a W (LA.out.below h) (by omega))
  have CB := Lib.hid (fun W (h : Below w.heap.size w W) => conLg_any Ab nb cb b W (LB.out.below h) (by omega))
  have C1 := Lib.hid (fun W (h : Below w.heap.size w W) => changed_any Aa Ab na ca nb cb a b W (LA.out.below h) (LB.out.below h) (by omega) (by omega))
  have C2 := Lib.hid (fun W (h : Below w.heap.size w W) => rchanged_any Aa Ab na ca nb cb a b W (LA.out.below h) (LB.out.below h) (by omega) (by omega))
  unfold BoolPost at CA CB
  unfold ChgP at C1 C2
  generalize ((chg a b 0).getD 0 : Nat) = cg at *
  generalize (chg a b 0).isSome = cs at *
  have hnn := And.intro h1 h2
  clear h1 h2 LA LB
  cases hla : a.any lgB
  case true =>
    rw [hla] at CA
    clear K1 K2 C1 C2 CB hla
    go_enter Tryz.func3, Tryz.ntmps3
    go_wp2_with fail
    refine HG1.out.mono ?_
    rintro e w2 ⟨rfl, h⟩
    have B2 := Lib.hid h
    clear h
    go_wp2_with fail
    refine (CA.out _ B2.out).mono ?_
    rintro e w4 ⟨rfl, h⟩
    have B4 := Lib.hid (below_next B2.out h ⟨rfl, rfl, rfl, rfl⟩)
    clear h
    go_wp2_with fail
    refine (HW.out _ B4.out).mono ?_
    rintro e w3 ⟨rfl, h⟩
    have B3 := Lib.hid (below_next B4.out h ⟨rfl, rfl, rfl, rfl⟩)
    clear h
    go_wp2_with fail
    exact HP.out _ B3.out
  case false =>
  rw [hla] at CA
  cases hlb : b.any lgB
  case true =>
    rw [hlb] at CB
    clear K1 K2 C1 C2 hla hlb
    go_enter Tryz.func3, Tryz.ntmps3
    go_wp2_with fail
    refine HG1.out.mono ?_
    rintro e w2 ⟨rfl, h⟩
    have B2 := Lib.hid h
    clear h
    go_wp2_with fail
    refine (CA.out _ B2.out).mono ?_
    rintro e w4 ⟨rfl, h⟩
    have B4 := Lib.hid (below_next B2.out h ⟨rfl, rfl, rfl, rfl⟩)
    clear h
    go_wp2_with fail
    refine (CB.out _ B4.out).mono ?_
    rintro e w5 ⟨rfl, h⟩
    have B5 := Lib.hid (below_next B4.out h ⟨rfl, rfl, rfl, rfl⟩)
    clear h
    go_wp2_with fail
    refine (HW.out _ B5.out).mono ?_
    rintro e w3 ⟨rfl, h⟩
    have B3 := Lib.hid (below_next B5.out h ⟨rfl, rfl, rfl, rfl⟩)
    clear h
    go_wp2_with fail
    exact HP.out _ B3.out
  case false =>
  rw [hlb] at CB
  clear hla hlb hnn
  obtain ⟨tn, htn⟩ : ∃ q, (traL ps).length = q := ⟨_, rfl⟩
  have EQ := Lib.hid (fun A1 c1 A2 c2 W (r1 : rowS.Rds W A1 tn c1 (traL ps)) (r2 : rowS.Rds W A2 tn c2 (traL ps)) => (show Calls Tryz.prog 13 #[.slice A1 tn c1, .slice A2 tn c2] W (fun e w' => e = .returned (.bool true) ∧ Below W.heap.size W w') by
    have h := equalS_any A1 A2 tn c1 tn c2 (traL ps) (traL ps) W r1 r2 (by omega) (by omega)
    rw [decide_eq_true rfl] at h; exact h))
  unfold StrsC at K1 K2
  generalize traL ps = TL at *
  generalize traI ps = ti at *
  clear htl
  have HTN := Lib.hid htn
  clear htn
  go_enter Tryz.func3, Tryz.ntmps3
  go_wp2_with fail
  refine HG1.out.mono ?_
  rintro e w2 ⟨rfl, h⟩
  have B2 := Lib.hid h
  clear h
  go_wp2_with fail
  refine (CA.out _ B2.out).mono ?_
  rintro e w4 ⟨rfl, h⟩
  have B4 := Lib.hid (below_next B2.out h ⟨rfl, rfl, rfl, rfl⟩)
  clear h
  go_wp2_with fail
  refine (CB.out _ B4.out).mono ?_
  rintro e w5 ⟨rfl, h⟩
  have B5 := Lib.hid (below_next B4.out h ⟨rfl, rfl, rfl, rfl⟩)
  clear h CA CB HG1 B2 B4
  go_wp2_with fail
  refine (K1.out _ B5.out).mono ?_
  rintro e w6 ⟨v1, rfl, ho, h⟩
  obtain ⟨A1, c1, rfl, r1⟩ := ho.rds
  rw [HTN.out] at r1 ⊢
  have R1 := Lib.hid r1
  have B6 := Lib.hid (below_next B5.out h ⟨rfl, rfl, rfl, rfl⟩)
  clear h ho r1 K1 B5
  go_wp2_with fail
  refine (K2.out _ B6.out).mono ?_
  rintro e w7 ⟨v2, rfl, ho, h⟩
  obtain ⟨A2, c2, rfl, r2⟩ := ho.rds
  rw [HTN.out] at r2 ⊢
  have R2 := Lib.hid r2
  have R1' := Lib.hid (R1.out.below h)
  have B7 := Lib.hid (below_next B6.out h ⟨rfl, rfl, rfl, rfl⟩)
  clear h ho r2 K2 B6 R1
  go_wp2_with fail
  refine (C1.out _ B7.out).mono ?_
  rintro e w8 ⟨rfl, h⟩
  have R1 := Lib.hid (R1'.out.below h)
  have R2' := Lib.hid (R2.out.below h)
  have B8 := Lib.hid (below_next B7.out h ⟨rfl, rfl, rfl, rfl⟩)
  clear h C1 B7 R1' R2
  go_wp2_with fail
  refine (C2.out _ B8.out).mono ?_
  rintro e w9 ⟨rfl, h⟩
  have R1' := Lib.hid (R1.out.below h)
  have R2 := Lib.hid (R2'.out.below h)
  have B9 := Lib.hid (below_next B8.out h ⟨rfl, rfl, rfl, rfl⟩)
  clear h C2 B8 R1 R2'
  go_wp2_with fail
  refine (EQ.out _ _ _ _ _ R1'.out R2.out).mono ?_
  rintro e w10 ⟨rfl, h⟩
  have B10 := Lib.hid (below_next B9.out h ⟨rfl, rfl, rfl, rfl⟩)
  clear h EQ B9 R1' R2
  go_wp2_with fail
  refine (HW.out _ B10.out).mono ?_
  rintro e w11 ⟨rfl, h⟩
  have B11 := Lib.hid (below_next B10.out h ⟨rfl, rfl, rfl, rfl⟩)
  clear h HW B10
  go_wp2_with fail
  exact HP.out _ B11.out
end Go.Proofs.YtjcbohbpkodkoaaGreatDoor
