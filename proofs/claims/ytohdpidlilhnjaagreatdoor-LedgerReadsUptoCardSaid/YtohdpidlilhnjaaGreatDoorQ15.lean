/- Contract of the reference's Same (printed out of LedH). -/
import Derived.Test.YtohdpidlilhnjaaGreatDoorQ10
import Derived.Test.YtohdpidlilhnjaaGreatDoorQ12
import Derived.Test.YtohdpidlilhnjaaGreatDoorQ7
import Derived.Test.YtohdpidlilhnjaaGreatDoorQ9
import Derived.Test.YtohdpidlilhnjaaGreatDoorQ11
import Derived.StillTailTactics
import Derived.Deep.DeepCutAuto
namespace Go.Proofs.YtohdpidlilhnjaaGreatDoor
open Go.RowKit Go.Maps Num

set_option maxRecDepth 100000 in
set_option maxHeartbeats 4000000 in
theorem rSameB_any (A B : Option Addr) (n c p d : Nat) (l m : List Ln) (w : World) (hl : rowB.Rds w A n c l) (hm : rowB.Rds w B p d m) (hn : n ≤ 100000) (hp : p ≤ 100000) :
    Calls Tryz.prog 31 #[.slice A n c, .slice B p d] w (BoolPost (decide (l = m)) w) := by
  have ll := Lib.hid hl.len
  have lm := Lib.hid hm.len
  have L1 := Lib.hid hl
  have L2 := Lib.hid hm
  generalize hr : decide (l = m) = r
  clear hl hm
  by_cases hnp : n = p
  case neg =>
    have h1 : ((n : Int) == (p : Int)) = false := beq_eq_false_iff_ne.2 (by omega)
    have h2 : (n == p) = false := beq_eq_false_iff_ne.2 hnp
    have hv := Lib.hid (show r = false by rw [← hr]; exact decide_eq_false (fun e => hnp (by rw [← ll.out, ← lm.out, e])))
    clear hr
    go_enter Tryz.func31, Tryz.ntmps31
    go_wp2_with fail
    go_ret
    exact ⟨by rw [hv.out]; rfl, Below.refl _ _⟩
  subst hnp
  have HR := Lib.hid hr
  clear hr
  go_enter Tryz.func31, Tryz.ntmps31
  go_wp2_with fail
  have R0 := Lib.hid (show EqG w l m 0 w from ⟨by simp, Below.refl _ _⟩)
  go_loopw [5] (fun i wr => ∃ k : Nat, k ≤ n ∧ i = .int .i64 (k : Int) ∧ Hid (EqG w l m k wr)) (fun i _ => n - (intOf i).toNat)
  case atStart => exact ⟨0, by omega, rfl, R0⟩
  case round =>
    obtain ⟨k, hk, rfl, hR⟩ := hrel
    have HE := Lib.hid hR.out.1
    have HB := Lib.hid hR.out.2
    clear hR R0
    by_cases hlt : k < n
    · obtain ⟨b1, o1, rfl, hb1, _⟩ := L1.out.at_ (by omega)
      obtain ⟨b2, o2, rfl, hb2, _⟩ := L2.out.at_ (by omega)
      have r0 := (L1.out.below HB.out).cell rowB_ok ln0 k 0 _ hlt rfl
      have r1 := (L1.out.below HB.out).cell rowB_ok ln0 k 1 _ hlt rfl
      have r2 := (L1.out.below HB.out).cell rowB_ok ln0 k 2 _ hlt rfl
      have s0 := (L2.out.below HB.out).cell rowB_ok ln0 k 0 _ hlt rfl
      have s1 := (L2.out.below HB.out).cell rowB_ok ln0 k 1 _ hlt rfl
      have s2 := (L2.out.below HB.out).cell rowB_ok ln0 k 2 _ hlt rfl
      have hki : (k : Int) < (n : Int) := by omega
      have hk0 : (0 : Int) ≤ (k : Int) := by omega
      have t1 := Lib.hid (take_gen ln0 l k (by rw [ll.out]; exact hlt))
      have t2 := Lib.hid (take_gen ln0 m k (by rw [lm.out]; exact hlt))
      have HD := Lib.hid (show l.getD k ln0 ≠ m.getD k ln0 → l ≠ m from fun h e => h (by rw [e]))
      generalize l.getD k ln0 = x at *
      generalize m.getD k ln0 = y at *
      obtain ⟨a, cu, u⟩ := x
      obtain ⟨a', cu', u'⟩ := y
      simp only [Nat.add_zero] at r0 s0 r1 s1 r2 s2
      by_cases hxy : (a, cu, u) = (a', cu', u')
      · have HE2 := Lib.hid (show l.take (k + 1) = m.take (k + 1) by rw [t1.out, t2.out, HE.out, hxy])
        simp only [Prod.mk.injEq] at hxy
        obtain ⟨rfl, rfl, rfl⟩ := hxy
        clear t1 t2 HD
        go_wp2_with fail
        go_quiet (fail)
        have HB2 := Lib.hid (below_dr HB.out nq)
        go_wp2_with fail
        go_roundw
        case rel => exact ⟨k + 1, by omega, by go_num, Lib.hid ⟨HE2.out, HB2.out⟩⟩
        case measure => simp [intOf]; omega
      · have hv := Lib.hid (show r = false by rw [← HR.out]; exact decide_eq_false (HD.out hxy))
        clear t1 t2 HD
        by_cases h0 : a = a'
        case neg =>
          have e0 : (a == a') = false := beq_eq_false_iff_ne.2 h0
          clear hxy
          go_wp2_with fail
          go_quiet (fail)
          have HB2 := Lib.hid (below_dr HB.out nq)
          go_wp2_with fail
          go_ret
          exact ⟨by rw [hv.out]; rfl, HB2.out⟩
        subst h0
        by_cases h1 : cu = cu'
        case neg =>
          have e1 : (cu == cu') = false := beq_eq_false_iff_ne.2 h1
          clear hxy
          go_wp2_with fail
          go_quiet (fail)
          have HB2 := Lib.hid (below_dr HB.out nq)
          go_wp2_with fail
          go_ret
          exact ⟨by rw [hv.out]; rfl, HB2.out⟩
        subst h1
        have e2 : (u == u') = false := beq_eq_false_iff_ne.2 (fun e => hxy (by rw [e]))
        clear hxy
        go_wp2_with fail
        go_quiet (fail)
        have HB2 := Lib.hid (below_dr HB.out nq)
        go_wp2_with fail
        go_ret
        exact ⟨by rw [hv.out]; rfl, HB2.out⟩
    · have hkn : k = n := by omega
      subst hkn
      have hki : ¬ (k : Int) < (k : Int) := by omega
      have e := HE.out
      rw [List.take_of_length_le (by rw [ll.out]; exact Nat.le_refl _), List.take_of_length_le (by rw [lm.out]; exact Nat.le_refl _)] at e
      have hv := Lib.hid (show r = true by rw [← HR.out]; exact decide_eq_true e)
      clear e HE
      go_wp2_with fail
      go_ret
      exact ⟨by rw [hv.out]; rfl, HB.out⟩

end Go.Proofs.YtohdpidlilhnjaaGreatDoor

/- Contract of the reference's Put of a balance (printed by gen_put43.py). -/
namespace Go.Proofs.YtohdpidlilhnjaaGreatDoor
open Go.RowKit Go.Maps Num

theorem own_belowB {α : Type} {R : Row α} {B : Nat} {w W W' : World} {v : Value} {l : List α} (h : R.Own B W v l) (hb : Below w.heap.size w W) (hB : w.heap.size ≤ B) (hg : W.grownBy W' v.ownBlock) : Below w.heap.size w W' :=
  below_own hb (Nat.le_refl _) hg fun k hk => Nat.le_trans hB (h.own k hk).1
theorem lessQ_cmp (y x : Ln) : lessQ y x = true ↔ cmpK y x < 0 := decide_eq_true_iff
theorem lessQ_cmp' (y x : Ln) : lessQ x y = true ↔ 0 < cmpK y x := decide_eq_true_iff.trans (by
  have : cmpKy (key x) (key y) = - cmpK y x := cmpKy_cmp.anti _ _
  omega)
/-- []api.Balance{} -/
theorem own_emptyB (B : Nat) (w : World) (hB : B ≤ w.heap.size) : rowB.Own B (w.alloc (.cells #[] 33)) (.slice (some ⟨w.heap.size, 0, none⟩) 0 0) [] :=
  ⟨rfl, .inr ⟨w.heap.size, 0, #[], rfl, hB, heap_alloc_new w _, Nat.le_refl _, by decide, rfl, rfl⟩⟩
def PutB (l : List Ln) (x : Ln) (w : World) (e : Ending) (w' : World) : Prop := ∃ v, e = .returned v ∧ rowB.Own w.heap.size w' v (putL l x) ∧ Below w.heap.size w w'
theorem rdsB3 {W : World} {b o n c : Nat} {l : List Ln} (h : rowB.Rds W (some ⟨b, o, none⟩) n c l) (k : Nat) (hk : k < n) :
    W.cell? ⟨b, o + k * 3, none⟩ = some (.string ⟨(l.getD k ln0).1.toArray⟩) ∧ W.cell? ⟨b, o + k * 3 + 1, none⟩ = some (.string ⟨(l.getD k ln0).2.1.toArray⟩) ∧ W.cell? ⟨b, o + k * 3 + 2, none⟩ = some (.string ⟨(l.getD k ln0).2.2.toArray⟩) :=
  ⟨h.cell rowB_ok ln0 k 0 _ hk rfl, h.cell rowB_ok ln0 k 1 _ hk rfl, h.cell rowB_ok ln0 k 2 _ hk rfl⟩
set_option maxRecDepth 100000 in
set_option maxHeartbeats 4000000 in
theorem rput_any (A : Option Addr) (n c : Nat) (l : List Ln) (a cu m : List UInt8) (w : World) (hl : rowB.Rds w A n c l) (hn : n ≤ 1000) (hs : ∀ y ∈ l, (dgs y.2.2).length ≤ 17 ∧ y.2.2.length ≤ 1000000) (hm : (dgs m).length ≤ 17) (hm2 : m.length ≤ 1000000) :
    Calls Tryz.prog 79 #[.slice A n c, .agg #[.string ⟨a.toArray⟩, .string ⟨cu.toArray⟩, .string ⟨m.toArray⟩]] w (PutB l (a, cu, m) w) := by
  have ll := Lib.hid hl.len
  have hB0 : Below w.heap.size w (w.alloc (.cells #[.string ⟨a.toArray⟩, .string ⟨cu.toArray⟩, .string ⟨m.toArray⟩] 33)) := (Below.refl _ w).alloc (Nat.le_refl _) _
  have HP := Lib.hid (fun W v (h : rowB.Own w.heap.size W v (putL l (a, cu, m))) (hb : Below w.heap.size w W) => (show PutB l (a, cu, m) w (.returned v) W from ⟨v, rfl, h, hb⟩))
  generalize PutB l (a, cu, m) w = Post at *
  have B0 := Lib.hid hB0
  have X0 := Lib.hid (cells3 (heap_alloc_new w (.cells #[.string ⟨a.toArray⟩, .string ⟨cu.toArray⟩, .string ⟨m.toArray⟩] 33))).1
  have XR := Lib.hid (heap_alloc_new w (.cells #[.string ⟨a.toArray⟩, .string ⟨cu.toArray⟩, .string ⟨m.toArray⟩] 33))
  have L1 := Lib.hid hl
  have HS := Lib.hid hs
  have HM := Lib.hid (And.intro hm hm2)
  have s0 : (w.alloc (.cells #[.string ⟨a.toArray⟩, .string ⟨cu.toArray⟩, .string ⟨m.toArray⟩] 33)).heap.size = w.heap.size + 1 := by simp
  clear hl hs hB0 hm hm2
  go_enter Tryz.func79, Tryz.ntmps79
  go_wp2_with fail
  generalize w.alloc (.cells #[.string ⟨a.toArray⟩, .string ⟨cu.toArray⟩, .string ⟨m.toArray⟩] 33) = w1 at *
  have S0 := Lib.hid s0
  clear s0
  go_loopw [5] (fun i wr => ∃ k : Nat, k ≤ n ∧ i = .int .i64 (k : Int) ∧ Hid (∀ y ∈ l.take k, cmpK y (a, cu, m) < 0) ∧ Hid (Below w1.heap.size w1 wr)) (fun i _ => n - (intOf i).toNat)
  case atStart => exact ⟨0, by omega, rfl, Lib.hid (by simp), Lib.hid (Below.refl _ _)⟩
  case round =>
    obtain ⟨k, hk, rfl, HZ, HB⟩ := hrel
    have l0 : w.heap.size < w1.heap.size := by rw [S0.out]; omega
    have x0 := (HB.out.cell (p := ⟨w.heap.size, 0, none⟩) l0).trans X0.out.1
    have x1 := (HB.out.cell (p := ⟨w.heap.size, 1, none⟩) l0).trans X0.out.2.1
    have x2 := (HB.out.cell (p := ⟨w.heap.size, 2, none⟩) l0).trans X0.out.2.2
    have HBw := Lib.hid (below_next B0.out HB.out ⟨rfl, rfl, rfl, rfl⟩)
    by_cases hlt : k < n
    · have hkl : k < l.length := by rw [ll.out]; exact hlt
      obtain ⟨b1, o1, rfl, hb1, _⟩ := L1.out.at_ (by omega)
      obtain ⟨p0, p1, p2⟩ := rdsB3 (L1.out.below HBw.out) k hlt
      have hki : (k : Int) < (n : Int) := by omega
      have HTK := Lib.hid (take_ln l k hkl)
      have HDK := Lib.hid (drop_ln l k hkl)
      have HSY := Lib.hid (HS.out _ (lnAt_mem l k hkl))
      clear hkl
      generalize hyy : l.getD k ln0 = y at *
      obtain ⟨ya, yc, ym⟩ := y
      simp only at p0 p1 p2
      have HC1 := Lib.hid (lessQ_cmp (ya, yc, ym) (a, cu, m))
      have HC2 := Lib.hid (lessQ_cmp' (ya, yc, ym) (a, cu, m))
      have KC := Lib.hid (fun W => less_any ya yc ym a cu m W)
      have KD := Lib.hid (fun W => less_any a cu m ya yc ym W)
      generalize lessQ (ya, yc, ym) (a, cu, m) = lb at *
      generalize lessQ (a, cu, m) (ya, yc, ym) = ld at *
      have HXS := Lib.hid (And.intro p0 (And.intro p1 (And.intro p2 (And.intro x0 (And.intro x1 x2)))))
      have ly := block_lt_of_cell p0
      have lx := block_lt_of_cell x0
      have HPY := Lib.hid (rdsB3 L1.out k hlt)
      rw [show l.getD k ln0 = (ya, yc, ym) from hyy] at HPY
      clear hyy
      have HD := Lib.hid (Below.refl wr.heap.size wr)
      have hkn2 : k < n := hlt
      go_wp2_with fail
      go_region_held3 (fun w' => w'.cell? ⟨b1, o1 + k * 3, none⟩ = some (.string ⟨ya.toArray⟩) ∧ w'.cell? ⟨b1, o1 + k * 3 + 1, none⟩ = some (.string ⟨yc.toArray⟩) ∧ w'.cell? ⟨b1, o1 + k * 3 + 2, none⟩ = some (.string ⟨ym.toArray⟩) ∧ w'.cell? ⟨w.heap.size, 0, none⟩ = some (.string ⟨a.toArray⟩) ∧ w'.cell? ⟨w.heap.size, 1, none⟩ = some (.string ⟨cu.toArray⟩) ∧ w'.cell? ⟨w.heap.size, 2, none⟩ = some (.string ⟨m.toArray⟩))
        (first | exact ⟨f0, f1, f2, f3, f4, f5⟩ | exact ⟨p0, p1, p2, x0, x1, x2⟩ | go_keep)
        (first
          | (go_at_call 60; refine (KC.out _).mono ?_; rintro e w' ⟨rfl, hb⟩; have HD := Lib.hid (below_next HD.out hb ⟨rfl, rfl, rfl, rfl⟩); have f0 := (HD.out.cell ly).trans HXS.out.1; have f1 := (HD.out.cell (p := ⟨b1, o1 + k * 3 + 1, none⟩) ly).trans HXS.out.2.1; have f2 := (HD.out.cell (p := ⟨b1, o1 + k * 3 + 2, none⟩) ly).trans HXS.out.2.2.1; have f3 := (HD.out.cell lx).trans HXS.out.2.2.2.1; have f4 := (HD.out.cell (p := ⟨w.heap.size, 1, none⟩) lx).trans HXS.out.2.2.2.2.1; have f5 := (HD.out.cell (p := ⟨w.heap.size, 2, none⟩) lx).trans HXS.out.2.2.2.2.2; clear hb))
      have HB2 := Lib.hid (HB.out.trans (HD.out.mono HB.out.size))
      have HTL := Lib.hid (show (l.take k).length ≤ 1000 by rw [List.length_take]; omega)
      cases hlb : lb
      case true =>
        have hc0 := HC1.out.1 hlb
        subst hlb
        have HZ2 := Lib.hid (show ∀ y ∈ l.take (k + 1), cmpK y (a, cu, m) < 0 from fun y hy => by
          rw [HTK.out] at hy
          rcases List.mem_append.1 hy with h1 | h1
          · exact HZ.out y h1
          · rw [List.mem_singleton.1 h1]; exact hc0)
        go_wp2_with fail
        go_roundw
        case rel => exact ⟨k + 1, by omega, by go_num, HZ2, HB2⟩
        case measure => simp [intOf]; omega
      case false =>
        have hc0 : ¬ cmpK (ya, yc, ym) (a, cu, m) < 0 := fun h => by have := HC1.out.2 h; rw [hlb] at this; cases this
        subst hlb
        have hkc : k ≤ c := Nat.le_trans hk L1.out.cap
        have hkci : (k : Int) ≤ (c : Int) := by omega
        have hkci2 : ¬ (c : Int) < (k : Int) := by omega
        have HOE := Lib.hid (own_emptyB w1.heap.size w' HB2.out.size)
        have HBE := Lib.hid (HB2.out.alloc HB2.out.size (.cells #[] 33))
        have HLE := Lib.hid ((L1.out.below HBw.out).below (HD.out.alloc HD.out.size (.cells #[] 33)))
        go_wp2_with (at_builtin; go_must (refine Row.wp_append rowB_ok rfl (.tmp 21) (.tmp 24) rfl w1.heap.size _ [] (w'.alloc (.cells #[] 33)) (some ⟨b1, o1, none⟩) k c (l.take k) rfl HOE.out rfl (HLE.out.take rowB_ok k hk) HBE.out.size (by simp; omega) ?_); intro v6 w5 hown6 hg6 _)
        have HB5 := Lib.hid (own_belowB HOE.out HBE.out (Nat.le_refl _) hg6)
        have HO5 := Lib.hid hown6
        rw [List.nil_append] at HO5
        clear hown6 hg6 HOE HBE HLE p0 p1 p2 x0 x1 x2 f0 f1 f2 f3 f4 f5 HD HXS
        have HBw5 := Lib.hid (below_next B0.out HB5.out ⟨rfl, rfl, rfl, rfl⟩)
        have HCY := Lib.hid (L1.out.below HBw5.out)
        have p0 := (HBw5.out.cell (p := ⟨b1, o1 + k * 3, none⟩) hb1).trans HPY.out.1
        have p1 := (HBw5.out.cell (p := ⟨b1, o1 + k * 3 + 1, none⟩) hb1).trans HPY.out.2.1
        have p2 := (HBw5.out.cell (p := ⟨b1, o1 + k * 3 + 2, none⟩) hb1).trans HPY.out.2.2
        have x0 := (HB5.out.cell (p := ⟨w.heap.size, 0, none⟩) l0).trans X0.out.1
        have x1 := (HB5.out.cell (p := ⟨w.heap.size, 1, none⟩) l0).trans X0.out.2.1
        have x2 := (HB5.out.cell (p := ⟨w.heap.size, 2, none⟩) l0).trans X0.out.2.2
        have HXS := Lib.hid (And.intro p0 (And.intro p1 (And.intro p2 (And.intro x0 (And.intro x1 x2)))))
        have ly := block_lt_of_cell p0
        have lx := block_lt_of_cell x0
        have HD := Lib.hid (Below.refl w5.heap.size w5)
        go_region_held3 (fun w' => w'.cell? ⟨b1, o1 + k * 3, none⟩ = some (.string ⟨ya.toArray⟩) ∧ w'.cell? ⟨b1, o1 + k * 3 + 1, none⟩ = some (.string ⟨yc.toArray⟩) ∧ w'.cell? ⟨b1, o1 + k * 3 + 2, none⟩ = some (.string ⟨ym.toArray⟩) ∧ w'.cell? ⟨w.heap.size, 0, none⟩ = some (.string ⟨a.toArray⟩) ∧ w'.cell? ⟨w.heap.size, 1, none⟩ = some (.string ⟨cu.toArray⟩) ∧ w'.cell? ⟨w.heap.size, 2, none⟩ = some (.string ⟨m.toArray⟩))
          (first | exact ⟨f0, f1, f2, f3, f4, f5⟩ | exact ⟨p0, p1, p2, x0, x1, x2⟩ | go_keep)
          (first
            | (go_at_call 60; refine (KD.out _).mono ?_; rintro e w' ⟨rfl, hb⟩; have HD := Lib.hid (below_next HD.out hb ⟨rfl, rfl, rfl, rfl⟩); have f0 := (HD.out.cell ly).trans HXS.out.1; have f1 := (HD.out.cell (p := ⟨b1, o1 + k * 3 + 1, none⟩) ly).trans HXS.out.2.1; have f2 := (HD.out.cell (p := ⟨b1, o1 + k * 3 + 2, none⟩) ly).trans HXS.out.2.2.1; have f3 := (HD.out.cell lx).trans HXS.out.2.2.2.1; have f4 := (HD.out.cell (p := ⟨w.heap.size, 1, none⟩) lx).trans HXS.out.2.2.2.2.1; have f5 := (HD.out.cell (p := ⟨w.heap.size, 2, none⟩) lx).trans HXS.out.2.2.2.2.2; clear hb))
        have HB6 := Lib.hid (HB5.out.trans (HD.out.mono HB5.out.size))
        have HO6 := Lib.hid (HO5.out.below HD.out)
        have lx6 : w.heap.size < w'.heap.size := Nat.lt_of_lt_of_le lx HD.out.size
        clear HO5 p0 p1 p2 x0 x1 x2 HXS
        cases hld : ld
        case false =>
          have hce : cmpK (ya, yc, ym) (a, cu, m) = 0 := by
            have : ¬ 0 < cmpK (ya, yc, ym) (a, cu, m) := fun h => by have := HC2.out.2 h; rw [hld] at this; cases this
            omega
          subst hld
          have HRES := Lib.hid (putL_eq (l := l) HZ.out HDK.out hce)
          simp only at HRES
          have HADD := Lib.hid (fun W => (radd_any m ym W HM.out.2 HSY.out.2 HM.out.1 HSY.out.1).mono fun e w'' h => (show e = .returned (.string ⟨(txt (val ym + val m)).toArray⟩) ∧ w'' = W from ⟨by rw [h.1, Int.add_comm], h.2.symm⟩))
          have HMM := Lib.hid (show (txt (val ym + val m)).length ≤ 1000000 by
            have e1 := val_short HSY.out.1
            have e2 := val_short HM.out.1
            have := txt_bd (k := 18) (show (val ym + val m).natAbs < 10 ^ 18 by omega)
            omega)
          generalize txt (val ym + val m) = ms at *
          go_wp2_with fail
          go_still_tail 9, (by kernel_rfl)
          still_call (HADD.out _)
          repeat still_step
          refine wpStill_nil ?_
          change wpList _ _ _ _ _ w'.drew
          have xr := (HB6.out.block w.heap.size l0).trans XR.out
          have xr2 : w'.drew.heap[w.heap.size]? = some (.cells #[.string ⟨a.toArray⟩, .string ⟨cu.toArray⟩, .string ⟨m.toArray⟩] 33) := xr
          have HB7 := Lib.hid (HB6.out.drew)
          have HO7 := Lib.hid (HO6.out.dr 1)
          change Hid (rowB.Own w1.heap.size w'.drew v6 (List.take k l)) at HO7
          have lx7 : w.heap.size < w'.drew.heap.size := lx6
          clear f0 f1 f2 f3 f4 f5 xr
          generalize w'.drew = w7 at *
          have hst := set2 xr2 (.string ⟨ms.toArray⟩)
          obtain ⟨⟨x0, x1, x2⟩, g0, g1, g2⟩ := cells3 xr2
          have hgs := grown_setCell w7 ⟨w.heap.size, 2, none⟩ (.string ⟨ms.toArray⟩)
          have HBt := Lib.hid (below_grown (below_next B0.out HB7.out ⟨rfl, rfl, rfl, rfl⟩) (Nat.le_refl _) hgs (Nat.le_refl _))
          have HOt := Lib.hid (HO7.out.kept hgs (fun g e => by have := Option.some.inj e; simp only at this; omega))
          have HSt := Lib.hid (Nat.le_trans HB7.out.size hgs.size)
          have XT := Lib.hid hst
          clear hst hgs xr2
          go_wp2_with fail
          generalize w7.setCell ⟨w.heap.size, 2, none⟩ (.string ⟨ms.toArray⟩) = wt at *
          have hkk : k + 1 ≤ n := hlt
          obtain ⟨⟨y0, y1, y2⟩, _⟩ := cells3 XT.out
          refine (rsign_any ms _ HMM.out).mono ?_
          rintro e w8 ⟨rfl, rfl⟩
          obtain ⟨A9, hfrom, hr9⟩ := Row.run_from rowB_ok L1.out (k + 1) hkk
          rw [show (((k + 1 : Nat)) : Int) = (k : Int) + 1 by omega] at hfrom
          have HR9 := Lib.hid hr9
          clear hr9
          have ltw := block_lt_of_cell y0
          by_cases hv : val ms = 0
          · have s1 : cmpI (val ms) 0 = 0 := by rw [hv]; rfl
            rw [s1]
            have HRES2 := Lib.hid (show putL l (a, cu, m) = l.take k ++ l.drop (k + 1) by rw [HRES.out]; unfold putX; rw [if_pos hv, List.append_nil])
            clear HRES s1 hv
            go_wp2_with (at_builtin; go_must (refine Row.wp_append rowB_ok rfl (.tmp 58) (.tmp 61) rfl w1.heap.size _ (l.take k) wt A9 (n - (k + 1)) (c - (k + 1)) (l.drop (k + 1)) rfl HOt.out rfl (HR9.out.below HBt.out) HSt.out (by have := HTL.out; omega) ?_); intro v9 w9 hown9 hg9 _)
            exact HP.out _ _ (by rw [HRES2.out]; exact hown9.mono (by have := S0.out; omega)) (below_own HBt.out (Nat.le_refl _) hg9 (fun g e => by have := (HOt.out.own g e).1; have := S0.out; omega))
          · have sb : (cmpI (val ms) 0 != 0) = true := (sign_zero _).2 hv
            have sb2 : (cmpI (val ms) 0 == 0) = false := by rw [bne, Bool.not_eq_true'] at sb; exact sb
            have HRES2 := Lib.hid (show putL l (a, cu, m) = (l.take k ++ [(a, cu, ms)]) ++ l.drop (k + 1) by rw [HRES.out]; unfold putX; rw [if_neg hv])
            generalize cmpI (val ms) 0 = sg at *
            clear HRES hv
            go_wp2_with (first
              | (at_builtin; refine Row.wp_append1 rowB_ok rfl (.tmp 54) (.tmp 56) rfl w1.heap.size _ (l.take k) wt (a, cu, ms) _ _ rfl rfl rfl HOt.out rfl HSt.out (by have := HTL.out; omega) ?_; intro v8 w9 ho8 hg8 _; have HB9 := Lib.hid (below_own HBt.out (Nat.le_refl _) hg8 (fun g e => by have := (HOt.out.own g e).1; have := S0.out; omega)); have HO9 := Lib.hid ho8; have HS9 := Lib.hid (Nat.le_trans HSt.out hg8.size); clear ho8 hg8)
              | (at_builtin; refine Row.wp_append rowB_ok rfl (.tmp 58) (.tmp 61) rfl w1.heap.size _ (l.take k ++ [(a, cu, ms)]) w9 A9 (n - (k + 1)) (c - (k + 1)) (l.drop (k + 1)) rfl HO9.out rfl (HR9.out.below HB9.out) HS9.out (by have := HTL.out; rw [List.length_append, List.length_singleton]; omega) ?_; intro v9 w10 hown9 hg9 _)
              | fail)
            exact HP.out _ _ (by rw [HRES2.out]; exact hown9.mono (by have := S0.out; omega)) (below_own HB9.out (Nat.le_refl _) hg9 (fun g e => by have := (HO9.out.own g e).1; have := S0.out; omega))
        case true =>
          have HRES := Lib.hid (putL_gt (l := l) HZ.out HDK.out (HC2.out.1 hld))
          subst hld
          go_wp2_with fail
          have XT := Lib.hid ((HB6.out.block w.heap.size l0).trans XR.out)
          have HBt := Lib.hid (below_next B0.out HB6.out ⟨rfl, rfl, rfl, rfl⟩)
          have HOt := HO6
          have HSt := Lib.hid HB6.out.size
          have hkk : k ≤ n := hk
          have HMM := Lib.hid HM.out.2
          clear f0 f1 f2 f3 f4 f5
          generalize w' = wt at *
          obtain ⟨⟨y0, y1, y2⟩, _⟩ := cells3 XT.out
          refine (rsign_any m _ HMM.out).mono ?_
          rintro e w8 ⟨rfl, rfl⟩
          obtain ⟨A9, hfrom, hr9⟩ := Row.run_from rowB_ok L1.out (k) hkk
          rw [show (((k : Nat)) : Int) = (k : Int) by omega] at hfrom
          have HR9 := Lib.hid hr9
          clear hr9
          have ltw := block_lt_of_cell y0
          by_cases hv : val m = 0
          · have s1 : cmpI (val m) 0 = 0 := by rw [hv]; rfl
            rw [s1]
            have HRES2 := Lib.hid (show putL l (a, cu, m) = l.take k ++ l.drop (k) by rw [HRES.out]; unfold putX; rw [if_pos hv, List.append_nil])
            clear HRES s1 hv
            go_wp2_with (at_builtin; go_must (refine Row.wp_append rowB_ok rfl (.tmp 58) (.tmp 61) rfl w1.heap.size _ (l.take k) wt A9 (n - (k)) (c - (k)) (l.drop (k)) rfl HOt.out rfl (HR9.out.below HBt.out) HSt.out (by have := HTL.out; omega) ?_); intro v9 w9 hown9 hg9 _)
            exact HP.out _ _ (by rw [HRES2.out]; exact hown9.mono (by have := S0.out; omega)) (below_own HBt.out (Nat.le_refl _) hg9 (fun g e => by have := (HOt.out.own g e).1; have := S0.out; omega))
          · have sb : (cmpI (val m) 0 != 0) = true := (sign_zero _).2 hv
            have sb2 : (cmpI (val m) 0 == 0) = false := by rw [bne, Bool.not_eq_true'] at sb; exact sb
            have HRES2 := Lib.hid (show putL l (a, cu, m) = (l.take k ++ [(a, cu, m)]) ++ l.drop (k) by rw [HRES.out]; unfold putX; rw [if_neg hv])
            generalize cmpI (val m) 0 = sg at *
            clear HRES hv
            go_wp2_with (first
              | (at_builtin; refine Row.wp_append1 rowB_ok rfl (.tmp 54) (.tmp 56) rfl w1.heap.size _ (l.take k) wt (a, cu, m) _ _ rfl rfl rfl HOt.out rfl HSt.out (by have := HTL.out; omega) ?_; intro v8 w9 ho8 hg8 _; have HB9 := Lib.hid (below_own HBt.out (Nat.le_refl _) hg8 (fun g e => by have := (HOt.out.own g e).1; have := S0.out; omega)); have HO9 := Lib.hid ho8; have HS9 := Lib.hid (Nat.le_trans HSt.out hg8.size); clear ho8 hg8)
              | (at_builtin; refine Row.wp_append rowB_ok rfl (.tmp 58) (.tmp 61) rfl w1.heap.size _ (l.take k ++ [(a, cu, m)]) w9 A9 (n - (k)) (c - (k)) (l.drop (k)) rfl HO9.out rfl (HR9.out.below HB9.out) HS9.out (by have := HTL.out; rw [List.length_append, List.length_singleton]; omega) ?_; intro v9 w10 hown9 hg9 _)
              | fail)
            exact HP.out _ _ (by rw [HRES2.out]; exact hown9.mono (by have := S0.out; omega)) (below_own HB9.out (Nat.le_refl _) hg9 (fun g e => by have := (HO9.out.own g e).1; have := S0.out; omega))
    · have hkn : k = n := by omega
      subst hkn
      have hki : ¬ (k : Int) < (k : Int) := by omega
      have hkn2 : ¬ k < k := by omega
      have hkc : k ≤ c := L1.out.cap
      have hkci : (k : Int) ≤ (c : Int) := by omega
      have hkci2 : ¬ (c : Int) < (k : Int) := by omega
      have HRES := Lib.hid (putL_end (l := l) HZ.out (by rw [ll.out]; exact Nat.le_refl _))
      go_wp2_with fail
      go_quiet (fail)
      have HBn := Lib.hid (show Below w1.heap.size w1 (wr.drewN nq) from ⟨HB.out.os, HB.out.tape, HB.out.output, HB.out.size, HB.out.block⟩)
      generalize wr.drewN nq = wv at *
      obtain ⟨A8, hupto, hr8⟩ := Row.run_upto rowB_ok L1.out k (Nat.le_refl _)
      have HOE := Lib.hid (own_emptyB w1.heap.size wv HBn.out.size)
      have HBE := Lib.hid (HBn.out.alloc HBn.out.size (.cells #[] 33))
      have HR8 := Lib.hid (hr8.below (below_next B0.out HBE.out ⟨rfl, rfl, rfl, rfl⟩))
      clear hr8 x0 x1 x2
      go_wp2_with (at_builtin; go_must (refine Row.wp_append rowB_ok rfl (.tmp 21) (.tmp 24) rfl w1.heap.size _ [] (wv.alloc (.cells #[] 33)) A8 k c (l.take k) rfl HOE.out rfl HR8.out HBE.out.size (by simp; omega) ?_); intro v6 w5 hown6 hg6 _)
      have HB5 := Lib.hid (own_belowB HOE.out HBE.out (Nat.le_refl _) hg6)
      have HO5 := Lib.hid hown6
      rw [List.nil_append] at HO5
      clear hown6 hg6 HOE HBE hupto
      go_quiet (fail)
      have HBn5 := Lib.hid (show Below w1.heap.size w1 (w5.drewN nq) from ⟨HB5.out.os, HB5.out.tape, HB5.out.output, HB5.out.size, HB5.out.block⟩)
      have HOt := Lib.hid (HO5.out.dr nq)
      change Hid (rowB.Own w1.heap.size (w5.drewN nq) v6 (List.take k l)) at HOt
      generalize w5.drewN nq = wt at *
      have XT := Lib.hid ((HBn5.out.block w.heap.size l0).trans XR.out)
      have HBt := Lib.hid (below_next B0.out HBn5.out ⟨rfl, rfl, rfl, rfl⟩)
      have HSt := Lib.hid HBn5.out.size
      have hkk : k ≤ k := Nat.le_refl _
      have HMM := Lib.hid HM.out.2
      have HTL := Lib.hid (show (l.take k).length ≤ 1000 by rw [List.length_take]; omega)
      obtain ⟨⟨y0, y1, y2⟩, _⟩ := cells3 XT.out
      go_wp2_with fail
      clear y0 y1 y2
      obtain ⟨⟨y0, y1, y2⟩, _⟩ := cells3 XT.out
      refine (rsign_any m _ HMM.out).mono ?_
      rintro e w8 ⟨rfl, rfl⟩
      obtain ⟨A9, hfrom, hr9⟩ := Row.run_from rowB_ok L1.out (k) hkk
      rw [show (((k : Nat)) : Int) = (k : Int) by omega] at hfrom
      rw [Nat.sub_self] at hr9
      simp only [Nat.sub_self] at hfrom
      have HR9 := Lib.hid hr9
      clear hr9
      have ltw := block_lt_of_cell y0
      by_cases hv : val m = 0
      · have s1 : cmpI (val m) 0 = 0 := by rw [hv]; rfl
        rw [s1]
        have HRES2 := Lib.hid (show putL l (a, cu, m) = l.take k ++ l.drop (k) by rw [HRES.out]; unfold putX; rw [if_pos hv, List.append_nil])
        clear HRES s1 hv
        go_wp2_with (at_builtin; go_must (refine Row.wp_append rowB_ok rfl (.tmp 58) (.tmp 61) rfl w1.heap.size _ (l.take k) wt A9 0 (c - (k)) (l.drop (k)) rfl HOt.out rfl (HR9.out.below HBt.out) HSt.out (by have := HTL.out; omega) ?_); intro v9 w9 hown9 hg9 _)
        exact HP.out _ _ (by rw [HRES2.out]; exact hown9.mono (by have := S0.out; omega)) (below_own HBt.out (Nat.le_refl _) hg9 (fun g e => by have := (HOt.out.own g e).1; have := S0.out; omega))
      · have sb : (cmpI (val m) 0 != 0) = true := (sign_zero _).2 hv
        have sb2 : (cmpI (val m) 0 == 0) = false := by rw [bne, Bool.not_eq_true'] at sb; exact sb
        have HRES2 := Lib.hid (show putL l (a, cu, m) = (l.take k ++ [(a, cu, m)]) ++ l.drop (k) by rw [HRES.out]; unfold putX; rw [if_neg hv])
        generalize cmpI (val m) 0 = sg at *
        clear HRES hv
        go_wp2_with (first
          | (at_builtin; refine Row.wp_append1 rowB_ok rfl (.tmp 54) (.tmp 56) rfl w1.heap.size _ (l.take k) wt (a, cu, m) _ _ rfl rfl rfl HOt.out rfl HSt.out (by have := HTL.out; omega) ?_; intro v8 w9 ho8 hg8 _; have HB9 := Lib.hid (below_own HBt.out (Nat.le_refl _) hg8 (fun g e => by have := (HOt.out.own g e).1; have := S0.out; omega)); have HO9 := Lib.hid ho8; have HS9 := Lib.hid (Nat.le_trans HSt.out hg8.size); clear ho8 hg8)
          | (at_builtin; refine Row.wp_append rowB_ok rfl (.tmp 58) (.tmp 61) rfl w1.heap.size _ (l.take k ++ [(a, cu, m)]) w9 A9 0 (c - (k)) (l.drop (k)) rfl HO9.out rfl (HR9.out.below HB9.out) HS9.out (by have := HTL.out; rw [List.length_append, List.length_singleton]; omega) ?_; intro v9 w10 hown9 hg9 _)
          | fail)
        exact HP.out _ _ (by rw [HRES2.out]; exact hown9.mono (by have := S0.out; omega)) (below_own HB9.out (Nat.le_refl _) hg9 (fun g e => by have := (HO9.out.own g e).1; have := S0.out; omega))
end Go.Proofs.YtohdpidlilhnjaaGreatDoor

/- The contracts of the reference's join and Parent. -/
namespace Go.Proofs.YtohdpidlilhnjaaGreatDoor
open Go.RowKit


/-- a row of strings in memory -/
structure SRow (w : World) (A : Option Addr) (n c : Nat) (l : List (List UInt8)) : Prop where
  len : l.length = n
  cap : n ≤ c
  top : c ≤ 9223372036854775807
  at_ : 0 < n → ∃ g, A = some ⟨g, 0, none⟩ ∧ g < w.heap.size ∧ ∀ k, k < n → w.cell? ⟨g, k, none⟩ = some (.string ⟨(l.getD k []).toArray⟩)
theorem join_nil_any (sep : List UInt8) : Lib.join [] sep = [] := rfl
theorem join_snoc (x sep : List UInt8) : ∀ (xs : List (List UInt8)), xs ≠ [] → Lib.join (xs ++ [x]) sep = Lib.join xs sep ++ (sep ++ x)
  | [], h => absurd rfl h
  | [y], _ => by rw [List.singleton_append, join_cons, Lib.join_one, Lib.join_one]
  | y :: z :: r, _ => by
    have ih := join_snoc x sep (z :: r) (by simp)
    rw [List.cons_append, List.cons_append, join_cons, join_cons, ← List.cons_append, ih]
    simp
theorem join_take_succ (l : List (List UInt8)) (k : Nat) (hk : k < l.length) (h0 : 0 < k) : Lib.join (l.take (k + 1)) [46] = Lib.join (l.take k) [46] ++ ([46] ++ l.getD k []) := by
  rw [List.take_succ_eq_append_getElem hk, join_snoc _ _ _ (by intro h; have := congrArg List.length h; simp at this; rcases this with h | h
                                                               · omega
                                                               · rw [h] at hk; simp at hk), List.getD_eq_getElem?_getD, List.getElem?_eq_getElem hk]
  rfl
theorem join_take_one (l : List (List UInt8)) (hk : 0 < l.length) : Lib.join (l.take 1) [46] = l.getD 0 [] := by
  cases l with
  | nil => simp at hk
  | cons x r => simp [Lib.join_one]
theorem join_len_le (l : List (List UInt8)) : ∀ (j k : Nat), j ≤ k → k ≤ l.length → (Lib.join (l.take j) [46]).length ≤ (Lib.join (l.take k) [46]).length := by
  intro j k hjk hk
  induction k with
  | zero => rw [show j = 0 by omega]; exact Nat.le_refl _
  | succ k ih =>
    rcases Nat.eq_or_lt_of_le hjk with rfl | h
    · exact Nat.le_refl _
    · refine Nat.le_trans (ih (by omega) (by omega)) ?_
      rcases Nat.eq_zero_or_pos k with rfl | h0
      · simp [Lib.join_nil]
      · rw [join_take_succ l k (by omega) h0]; simp
theorem ba_dot (a x : List UInt8) : ((⟨a.toArray⟩ : ByteArray) ++ ⟨#[46]⟩) ++ ⟨x.toArray⟩ = ⟨(a ++ ([46] ++ x)).toArray⟩ := by
  apply ByteArray.ext
  simp [ByteArray.data_append]
theorem ba_nil (x : List UInt8) : (⟨#[]⟩ : ByteArray) ++ ⟨x.toArray⟩ = ⟨x.toArray⟩ := by
  apply ByteArray.ext
  simp [ByteArray.data_append]
set_option maxHeartbeats 1000000 in
set_option maxRecDepth 100000 in
theorem join_any (A : Option Addr) (n c : Nat) (l : List (List UInt8)) (w : World) (h : SRow w A n c l) (hj : (Lib.join l [46]).length ≤ 4294967296) : Calls Tryz.prog 134 #[.slice A n c] w fun e w' => e = .returned (.string ⟨(Lib.join l [46]).toArray⟩) ∧ w = w' := by
  have htop := h.top
  have hcap := h.cap
  have hlen := Lib.hid h.len
  have HA := Lib.hid h
  have HJ := Lib.hid hj
  clear h hj
  go_enter Tryz.func134, Tryz.ntmps134
  go_wp2_with fail
  go_loop [3, 4] (fun s i => ∃ (k : Nat) (o : List UInt8), k ≤ n ∧ s = .string ⟨o.toArray⟩ ∧ i = .int .i64 (k : Int) ∧ Hid (o = Lib.join (l.take k) [46])) (fun _ i => n - (intOf i).toNat)
  case atStart => exact ⟨0, [], by omega, rfl, rfl, Lib.hid rfl⟩
  case round =>
    obtain ⟨k, o, hk, rfl, rfl, ho⟩ := hrel
    by_cases hlt : k < n
    · obtain ⟨g, rfl, hg, hcell⟩ := HA.out.at_ (by omega)
      have h1 := hcell k hlt
      clear hcell
      obtain ⟨x, hx⟩ : ∃ x, x = l.getD k [] := ⟨_, rfl⟩
      rw [← hx] at h1
      have hol : (Lib.join (l.take (k + 1)) [46]).length ≤ 4294967296 := by
        refine Nat.le_trans (join_len_le l (k + 1) l.length (by rw [hlen.out]; omega) (Nat.le_refl _)) ?_
        rw [List.take_length]; exact HJ.out
      by_cases h0 : 0 < k
      · have hd : decide (0 < (k : Int)) = true := by simp; omega
        have hs := join_take_succ l k (by rw [hlen.out]; exact hlt) h0
        rw [← hx, ← ho.out] at hs
        have hol2 : o.length + 1 + x.length ≤ 4294967296 := by rw [hs] at hol; simp at hol; omega
        have hb := ba_dot o x
        have HS := Lib.hid hs
        clear hs hol ho hx
        have b1 : ((o.length : Int) + 1) ≤ 4294967296 := by omega
        go_wp2_with fail
        go_round
        case rel => exact ⟨k + 1, o ++ ([46] ++ x), by omega, rfl, by go_num, Lib.hid HS.out.symm⟩
        case measure => simp [intOf]; omega
      · obtain rfl : k = 0 := by omega
        have hs := join_take_one l (by rw [hlen.out]; exact hlt)
        rw [← hx] at hs
        rw [hs] at hol
        have ho' : o = [] := ho.out
        subst ho'
        have HS := Lib.hid hs
        have hb := ba_nil x
        clear hs hx ho
        go_wp2_with fail
        go_round
        case rel => exact ⟨1, x, by omega, by first | rfl | exact congrArg Value.string hb, by go_num, Lib.hid HS.out.symm⟩
        case measure => simp [intOf]; omega
    · have hfin := Lib.hid (show o = Lib.join l [46] by rw [ho.out, List.take_of_length_le (by rw [hlen.out]; omega)])
      clear ho
      go_wp2_with fail
      go_ret
      exact ⟨by rw [← hfin.out]; rfl, rfl⟩
theorem OwnS.row {B : Nat} {w : World} {v : Value} {l : List (List UInt8)} (h : OwnS B w v l) : ∃ A c, v = .slice A l.length c ∧ SRow w A l.length c l := by
  obtain ⟨A, c, rfl, h1, h2, h3⟩ := h.cells
  exact ⟨A, c, rfl, rfl, h1, h2, h3⟩
theorem SRow.below {w w' : World} {A : Option Addr} {n c : Nat} {l : List (List UInt8)} (h : SRow w A n c l) (hb : Below w.heap.size w w') : SRow w' A n c l :=
  ⟨h.len, h.cap, h.top, fun h0 => by
    obtain ⟨g, e, hlt, hc⟩ := h.at_ h0
    exact ⟨g, e, Nat.lt_of_lt_of_le hlt hb.size, fun k hk => (hb.cell (p := ⟨g, k, none⟩) hlt).trans (hc k hk)⟩⟩
theorem SRow.front {w : World} {A : Option Addr} {n c : Nat} {l : List (List UInt8)} (h : SRow w A n c l) (m : Nat) (hm : m ≤ n) : SRow w A m c (l.take m) :=
  ⟨by rw [List.length_take, h.len]; omega, by have := h.cap; omega, h.top, fun h0 => by
    obtain ⟨g, e, hlt, hc⟩ := h.at_ (by omega)
    refine ⟨g, e, hlt, fun k hk => ?_⟩
    rw [hc k (by omega), List.getD_eq_getElem?_getD, List.getD_eq_getElem?_getD, List.getElem?_take, if_pos hk]⟩
theorem dropLast_join (s : List UInt8) : (Lib.join (segs s).dropLast [46]).length ≤ s.length := by
  have h := join_len_le (segs s) ((segs s).length - 1) (segs s).length (by omega) (Nat.le_refl _)
  rw [List.take_length, join_segs] at h
  rw [List.dropLast_eq_take]
  exact h
set_option maxHeartbeats 1000000 in
set_option maxRecDepth 100000 in
theorem rParent_any (s : List UInt8) (w : World) (hs : s.length < 4294967281) : Calls Tryz.prog 78 #[.string ⟨s.toArray⟩] w (RetSB (parS s) (parB s) w) := by
  have HSEG := Lib.hid (fun w => rSegs_any s w (by omega))
  have HC := Lib.hid (fun w => rCheck_any s w (by omega))
  have hchk := Lib.hid (show chkA s = if codeB s then 0 else 3 from rfl)
  have hdl := Lib.hid (dropLast_join s)
  have hdr := Lib.hid (List.dropLast_eq_take (l := segs s))
  have hpb := Lib.hid (@par_bad s)
  have hS := Lib.hid (show parS s = if codeB s && decide (1 < (segs s).length) then Lib.join (segs s).dropLast [46] else [] from rfl)
  have hB := Lib.hid (show parB s = (codeB s && decide (1 < (segs s).length)) from rfl)
  have hp := segs_pos s
  generalize segs s = l at *
  go_enter Tryz.func78, Tryz.ntmps78
  go_wp2_with fail
  refine (HSEG.out _).mono ?_
  rintro e w1 ⟨v, rfl, hown, hb1⟩
  obtain ⟨A, c, rfl, hrow⟩ := hown.row
  obtain ⟨n, hn⟩ : ∃ n, n = l.length := ⟨_, rfl⟩
  have hcap := hrow.cap
  have htop := hrow.top
  rw [← hn] at hrow hp hcap ⊢
  have HN := Lib.hid hn
  have HR := Lib.hid hrow
  clear hn hown hrow
  cases hcb : codeB s
  · have hk := Lib.hid (show chkA s = 3 by rw [hchk.out, hcb]; rfl)
    have hv := Lib.hid (hpb.out hcb)
    clear hcb
    go_wp2_with fail
    refine (HC.out _).mono ?_
    rintro e w2 ⟨rfl, hb2⟩
    rw [hk.out]
    go_wp2_with fail
    go_ret2
    exact ⟨by rw [hv.out.1, hv.out.2]; rfl, hb1.trans (hb2.mono hb1.size)⟩
  · have hk := Lib.hid (show chkA s = 0 by rw [hchk.out, hcb]; rfl)
    by_cases h2 : n < 2
    · have hd : decide ((n : Int) < 2) = true := by simp; omega
      have hv := Lib.hid (show parS s = [] ∧ parB s = false by
        rw [hS.out, hB.out, ← HN.out, decide_eq_false (by omega), Bool.and_false]; exact ⟨rfl, rfl⟩)
      clear hcb
      go_wp2_with fail
      refine (HC.out _).mono ?_
      rintro e w2 ⟨rfl, hb2⟩
      rw [hk.out]
      go_wp2_with fail
      go_ret2
      exact ⟨by rw [hv.out.1, hv.out.2]; rfl, hb1.trans (hb2.mono hb1.size)⟩
    · have hd : decide ((n : Int) < 2) = false := by simp; omega
      have hv := Lib.hid (show parS s = Lib.join l.dropLast [46] ∧ parB s = true by
        rw [hS.out, hB.out, ← HN.out, decide_eq_true (by omega), hcb]; exact ⟨rfl, rfl⟩)
      clear hcb
      go_wp2_with fail
      refine (HC.out _).mono ?_
      rintro e w2 ⟨rfl, hb2⟩
      rw [hk.out]
      obtain ⟨m, hmn⟩ : ∃ m, n = m + 1 := ⟨n - 1, by omega⟩
      have hw : IntKind.i64.wrap ((n : Int) - 1) = (m : Int) := by rw [IntWalk.i64_in _ (by omega)]; omega
      have HRF := Lib.hid ((HR.out.below hb2).front m (by omega))
      have HJL := Lib.hid (show (Lib.join (l.take m) [46]).length ≤ 4294967296 by
        have := hdl.out
        rw [hdr.out, ← HN.out, hmn] at this
        simp only [Nat.add_sub_cancel] at this
        omega)
      have b1 : (m : Int) ≤ (c : Int) := by omega
      go_wp2_with fail
      refine (join_any _ _ _ _ _ HRF.out HJL.out).mono ?_
      rintro e w3 ⟨rfl, rfl⟩
      go_wp2_with fail
      go_ret2
      refine ⟨?_, hb1.trans (hb2.mono hb1.size)⟩
      rw [hv.out.1, hv.out.2, hdr.out, ← HN.out, hmn]
      rfl
end Go.Proofs.YtohdpidlilhnjaaGreatDoor

/- Contract of the reference's Rollup. -/
namespace Go.Proofs.YtohdpidlilhnjaaGreatDoor
open Go.RowKit Go.Maps Num

theorem set0 {W : World} {b : Nat} {x y z : Value} {t : TypeId} (h : W.heap[b]? = some (.cells #[x, y, z] t)) (u : Value) : (W.setCell ⟨b, 0, none⟩ u).heap[b]? = some (.cells #[u, y, z] t) := by
  unfold World.setCell
  simp [Array.getElem?_modify, h]
theorem parS_bad {s : List UInt8} (h : parB s = false) : parS s = [] := by
  unfold parB at h
  unfold parS
  rw [h]; rfl
/-- the length of the box's first string -/
def boxN (w : World) (b : Nat) : Nat := match w.cell? ⟨b, 0, none⟩ with | some (.string t) => t.size | _ => 0
theorem boxN_of {w : World} {b : Nat} {s : List UInt8} {y z : Value} {t : TypeId} (h : w.heap[b]? = some (.cells #[.string ⟨s.toArray⟩, y, z] t)) : boxN w b = s.length := by
  unfold boxN
  rw [(cells3 h).1.1]
  simp [ByteArray.size]
def boolN : Value → Nat | .bool true => 1 | _ => 0
/-- inside the loop over the codes above x: those that are put, and the one to come -/
def RUp (l : List Ln) (k : Nat) (x : Ln) (b : Nat) (w : World) (v : Value) (ok : Bool) (W : World) : Prop :=
  ∃ s d, ups x.1 = d ++ (if ok then ups s else []) ∧ W.heap[b]? = some (.cells #[.string ⟨s.toArray⟩, .string ⟨x.2.1.toArray⟩, .string ⟨x.2.2.toArray⟩] 33) ∧ s.length ≤ x.1.length ∧
    rowB.Own w.heap.size W v (nrmL (roll (l.take k) ++ d.map fun a => (a, x.2.1, x.2.2))) ∧ Below w.heap.size w W ∧ w.heap.size ≤ b
set_option maxRecDepth 100000 in
set_option maxHeartbeats 8000000 in
theorem rRollup_any (A : Option Addr) (n c : Nat) (l : List Ln) (w : World) (hl : rowB.Rds w A n c l) (hs : ∀ x ∈ l, x.1.length ≤ 100 ∧ x.2.1.length ≤ 100 ∧ x.2.2.length ≤ 13) (hn : n ≤ 100) :
    Calls Tryz.prog 28 #[.slice A n c] w (ListC (rolL l) (rolI l) w) := by
  have ll := Lib.hid hl.len
  have L1 := Lib.hid hl
  have HCK := Lib.hid (rCheckB_any A n c l w hl (fun x hx => by have := hs x hx; omega) (by omega))
  have HP := Lib.hid (fun v i W (h1 : rowB.Own w.heap.size W v (rolL l)) (h2 : Below w.heap.size w W) (hi : rolI l = i) => (show ListC (rolL l) (rolI l) w (.returned (.tuple #[v, .int .i64 i])) W from ⟨v, by rw [hi], h1, h2⟩))
  have HR := Lib.hid (show rolL l = if listB l = true then nrmL (roll l) else [] from rfl)
  have HI := Lib.hid (show rolI l = if listB l = true then 0 else 1 from rfl)
  have HS := Lib.hid hs
  have HLC := Lib.hid (fun (h : listB l = true) => listB_code h)
  clear hl hs
  generalize ListC (rolL l) (rolI l) w = Post at *
  generalize rolL l = rl at *
  generalize rolI l = ri at *
  cases hlb : listB l
  case false =>
    have e1 := HR.out
    have e2 := HI.out
    have hck := HCK.out
    rw [hlb] at e1 e2 hck
    rw [if_neg (by decide)] at e1 e2
    subst e1 e2
    have HC2 := Lib.hid hck
    clear hck HCK HLC HR HI hlb
    go_enter Tryz.func28, Tryz.ntmps28
    go_wp2_with fail
    refine HC2.out.mono ?_
    rintro e w1 ⟨rfl, hb⟩
    have B1 := Lib.hid hb
    clear hb HC2
    go_wp2_with fail
    exact HP.out _ _ _ (own_emptyB _ _ B1.out.size) (B1.out.alloc B1.out.size _) rfl
  have e1 := HR.out
  have e2 := HI.out
  have hck := HCK.out
  rw [hlb] at e1 e2 hck
  rw [if_pos rfl] at e1 e2
  subst e1 e2
  have HC2 := Lib.hid hck
  have HC := Lib.hid (HLC.out hlb)
  clear hck HCK HLC HR HI hlb
  go_enter Tryz.func28, Tryz.ntmps28
  go_wp2_with fail
  refine HC2.out.mono ?_
  rintro e w1 ⟨rfl, hb⟩
  have B1 := Lib.hid hb
  clear hb HC2
  have O0 := Lib.hid (own_emptyB w.heap.size w1 B1.out.size)
  have B0 := Lib.hid (B1.out.alloc B1.out.size (.cells #[] 33))
  clear B1
  go_wp2_with fail
  go_loopw [4, 5] (fun v i wr => ∃ k : Nat, k ≤ n ∧ i = .int .i64 (k : Int) ∧ Hid (rowB.Own w.heap.size wr v (nrmL (roll (l.take k)))) ∧ Hid (Below w.heap.size w wr)) (fun _ i _ => n - (intOf i).toNat)
  case atStart => exact ⟨0, by omega, rfl, O0, B0⟩
  case round =>
    clear O0 B0
    obtain ⟨k, hk, rfl, HO, HB⟩ := hrel
    by_cases hlt : k < n
    · have hkl : k < l.length := by rw [ll.out]; exact hlt
      obtain ⟨b1, o1, rfl, hb1, _⟩ := L1.out.at_ (by omega)
      obtain ⟨p0, p1, p2⟩ := rdsB3 (L1.out.below HB.out) k hlt
      have hki : (k : Int) < (n : Int) := by omega
      have HUP := Lib.hid (upL_take l k hkl)
      have HX := Lib.hid (HS.out _ (lnAt_mem l k hkl))
      have HXC := Lib.hid (HC.out _ (lnAt_mem l k hkl))
      have HRL := Lib.hid (show (roll (l.take k)).length ≤ 600 by
        have := roll_len (l := l.take k) fun y hy => HC.out y (List.take_subset _ _ hy)
        rw [List.length_take] at this; omega)
      have HR13 := Lib.hid (show ∀ z ∈ roll (l.take k), z.2.2.length ≤ 13 from fun z hz => by
        obtain ⟨y, hy, a, _, rfl⟩ := roll_mem hz
        exact (HS.out y (List.take_subset _ _ hy)).2.2)
      clear hkl
      generalize hxe : l.getD k ln0 = x at *
      obtain ⟨xa, xc, xm⟩ := x
      simp only at p0 p1 p2 HX HXC
      have hbx := heap_alloc_new wr (.cells #[.string ⟨xa.toArray⟩, .string ⟨xc.toArray⟩, .string ⟨xm.toArray⟩] 33)
      have R0 := Lib.hid (show RUp l k (xa, xc, xm) wr.heap.size w _ true (wr.alloc (.cells #[.string ⟨xa.toArray⟩, .string ⟨xc.toArray⟩, .string ⟨xm.toArray⟩] 33)) from ⟨xa, [], rfl, hbx, Nat.le_refl _, by rw [List.map_nil, List.append_nil]; exact HO.out.below ((Below.refl _ wr).alloc (Nat.le_refl _) _), HB.out.alloc HB.out.size _, HB.out.size⟩)
      clear hbx
      go_wp2_with fail
      generalize wr.alloc (.cells #[.string ⟨xa.toArray⟩, .string ⟨xc.toArray⟩, .string ⟨xm.toArray⟩] 33) = wa at *
      obtain ⟨bx, hbx⟩ : ∃ bx, wr.heap.size = bx := ⟨_, rfl⟩
      rw [hbx] at R0 ⊢
      clear hbx p0 p1 p2
      go_loopw [4, 7] (fun v ok wx => ∃ ob : Bool, ok = .bool ob ∧ Hid (RUp l k (xa, xc, xm) bx w v ob wx)) (fun _ ok wx => boxN wx bx + boolN ok)
      case atStart => exact ⟨true, rfl, R0⟩
      case round =>
        clear R0
        obtain ⟨ob, rfl, hR⟩ := hrel
        obtain ⟨s, d, h1, h2, h3, h4, h5, h6⟩ := hR.out
        simp only at h1 h2 h3 h4
        cases hob : ob
        case false =>
          subst hob
          simp only [Bool.false_eq_true, if_false, List.append_nil] at h1
          have HO2 := Lib.hid (show rowB.Own w.heap.size wr u4 (nrmL (roll (l.take (k + 1)))) by rw [HUP.out]; unfold upL; rw [h1]; exact h4)
          have HB2 := Lib.hid h5
          clear h1 h2 h3 h4 h5 h6 hR
          go_wp2_with fail
          go_roundw
          case rel => exact ⟨k + 1, by omega, by go_num, HO2, HB2⟩
          case measure => simp [intOf]; omega
        case true =>
          subst hob
          rw [if_pos rfl] at h1
          have h1u := h1
          rw [ups_step s] at h1u
          have hdl : d.length + 1 ≤ 6 := by
            have h6' : (ups xa).length ≤ 6 := ups_six HXC.out
            have := congrArg List.length h1u
            rw [List.length_append, List.length_cons] at this
            omega
          have h1v := Lib.hid (show ups xa = (d ++ [s]) ++ (if parB s then ups (parS s) else []) by rw [List.append_assoc]; exact h1u)
          have hLL : (roll (l.take k) ++ d.map fun a => (a, xc, xm)).length ≤ 700 := by
            have := HRL.out
            rw [List.length_append, List.length_map]; omega
          have hL13 : ∀ z ∈ roll (l.take k) ++ d.map (fun a => (a, xc, xm)), z.2.2.length ≤ 13 := fun z hz => by
            rcases List.mem_append.1 hz with hz | hz
            · exact HR13.out z hz
            · obtain ⟨a, _, rfl⟩ := List.mem_map.1 hz
              exact HX.out.2.2
          obtain ⟨a1, a2⟩ := nrmL_amk _ hL13 _ (Nat.le_refl _)
          rw [List.take_length] at a1 a2
          obtain ⟨A3, c3, rfl, hr3⟩ := h4.rds
          have HPU := Lib.hid (rput_any A3 _ c3 _ s xc xm wr hr3 (by omega) (fun y hy => amk_short (a2 y hy) (by omega)) (dgs_13 HX.out.2.2) (by have := HX.out.2.2; omega))
          have HN := Lib.hid (show putL (nrmL (roll (l.take k) ++ d.map fun a => (a, xc, xm))) (s, xc, xm) = nrmL (roll (l.take k) ++ (d ++ [s]).map fun a => (a, xc, xm)) by
            rw [← nrmL_snoc, List.map_append, List.append_assoc]; rfl)
          have HPR := Lib.hid (fun W => rParent_any s W (by have := HX.out.1; omega))
          have HMS := Lib.hid (show (parS s).length ≤ s.length ∧ (parB s = true → (parS s).length < s.length) from ⟨by
            cases hp : parB s
            · rw [parS_bad hp]; exact Nat.zero_le _
            · exact Nat.le_of_lt (par_len hp), par_len⟩)
          have HN0 := Lib.hid (boxN_of h2)
          have HB5 := Lib.hid h5
          have HX2 := Lib.hid h2
          have h3' := Lib.hid h3
          have hwb := Lib.hid h6
          unfold PutB at HPU
          rw [HN.out] at HPU
          obtain ⟨⟨x0, x1, x2⟩, _⟩ := cells3 h2
          have lx := block_lt_of_cell x0
          clear h1 h1u h2 h3 h4 h5 h6 hL13 hLL a1 a2 hr3 hR HN HRL HR13
          generalize nrmL (roll (l.take k) ++ d.map fun a => (a, xc, xm)) = nl at *
          generalize parS s = ps at *
          generalize parB s = pb at *
          generalize hdd : d ++ [s] = d2 at *
          go_wp2_with fail
          refine HPU.out.mono ?_
          rintro e w' ⟨v2, rfl, ho, hb⟩
          have HO2 := Lib.hid ho
          have HB6 := Lib.hid (HB5.out.trans (hb.mono HB5.out.size))
          have XR := Lib.hid ((hb.block bx lx).trans HX2.out)
          have hs2 := hb.size
          clear ho hb HPU x0 x1 x2
          obtain ⟨⟨x0, x1, x2⟩, _⟩ := cells3 XR.out
          go_wp2_with fail
          refine (HPR.out _).mono ?_
          rintro e w3 ⟨rfl, hb⟩
          have HO3 := Lib.hid (HO2.out.below hb)
          have HB7 := Lib.hid (HB6.out.trans (hb.mono HB6.out.size))
          have XR3 := (hb.block bx (by omega)).trans XR.out
          have hs3 := hb.size
          clear hb XR x0 x1 x2 HO2 HB6
          obtain ⟨⟨x0, x1, x2⟩, g0, g1, g2⟩ := cells3 XR3
          have hst := set0 XR3 (.string ⟨ps.toArray⟩)
          have hgs := grown_setCell w3 ⟨bx, 0, none⟩ (.string ⟨ps.toArray⟩)
          have HO4 := Lib.hid (HO3.out.kept hgs (fun g e => by have := Option.some.inj e; simp only at this; omega))
          have HB8 := Lib.hid (below_grown HB7.out (Nat.le_refl _) hgs hwb.out)
          have HST := Lib.hid hst
          clear hst hgs XR3 HO3 HB7
          go_wp2_with fail
          generalize w3.setCell ⟨bx, 0, none⟩ (.string ⟨ps.toArray⟩) = w4 at *
          go_roundw
          case rel => exact ⟨pb, rfl, Lib.hid ⟨ps, d2, h1v.out, HST.out, Nat.le_trans HMS.out.1 h3'.out, HO4.out.mono HB5.out.size, HB8.out, hwb.out⟩⟩
          case measure =>
            rw [boxN_of HST.out, HN0.out]
            have := HMS.out
            cases pb
            · simp [boolN]; omega
            · have := this.2 rfl
              simp [boolN]; omega
    · have hkn : k = n := by omega
      subst hkn
      have e : l.take k = l := List.take_of_length_le (by rw [ll.out]; exact Nat.le_refl _)
      rw [e] at HO
      have hki : ¬ (k : Int) < (k : Int) := by omega
      clear e
      go_wp2_with fail
      exact HP.out _ _ _ HO.out HB.out rfl
end Go.Proofs.YtohdpidlilhnjaaGreatDoor

/- Contract of the reference's Minus. -/
namespace Go.Proofs.YtohdpidlilhnjaaGreatDoor
open Go.RowKit Go.Maps Num

theorem putL_amkG {k : Nat} {l : List Ln} {x : Ln} (h : ∀ y ∈ l, Amk k y) (hx : Amk 1 x) : (putL l x).length ≤ l.length + 1 ∧ ∀ y ∈ putL l x, Amk (k + 1) y := by
  have hx1 : (val x.2.2).natAbs ≤ num13 := by have := hx.2; omega
  have hX : Amk (k + 1) x := ⟨hx.1, by rw [Nat.add_mul]; omega⟩
  induction l with
  | nil =>
    unfold putL
    split
    · exact ⟨by simp, fun y hy => by cases hy⟩
    · exact ⟨by simp, fun y hy => by rw [List.mem_singleton.1 hy]; exact hX⟩
  | cons z r ih =>
    obtain ⟨i1, i2⟩ := ih fun y hy => h y (List.mem_cons_of_mem _ hy)
    have hz := h z (by simp)
    have hr := fun y hy => (h y (List.mem_cons_of_mem _ hy)).up
    unfold putL
    split
    · refine ⟨by simp only [List.length_cons]; omega, fun y hy => ?_⟩
      rcases List.mem_cons.1 hy with rfl | hy
      · exact hz.up
      · exact i2 y hy
    · split
      · split
        · exact ⟨by simp only [List.length_cons]; omega, hr⟩
        · refine ⟨by simp, fun y hy => ?_⟩
          rcases List.mem_cons.1 hy with rfl | hy
          · refine ⟨.inr ⟨_, rfl⟩, ?_⟩
            simp only [val_txt]
            have := hz.2
            rw [Nat.add_mul]; omega
          · exact hr y hy
      · split
        · refine ⟨by simp, fun y hy => ?_⟩
          rcases List.mem_cons.1 hy with rfl | hy
          · exact hz.up
          · exact hr y hy
        · refine ⟨by simp, fun y hy => ?_⟩
          rcases List.mem_cons.1 hy with rfl | hy
          · exact hX
          · rcases List.mem_cons.1 hy with rfl | hy
            · exact hz.up
            · exact hr y hy
theorem nrmL_amkG (l : List Ln) (hl : ∀ x ∈ l, Amk 1 x) : (nrmL l).length ≤ l.length ∧ ∀ y ∈ nrmL l, Amk l.length y := by
  rw [← List.reverse_reverse l] at *
  generalize l.reverse = r at *
  induction r with
  | nil => exact ⟨by simp [nrmL], fun y hy => by simp [nrmL] at hy⟩
  | cons x r ih =>
    rw [List.reverse_cons] at *
    obtain ⟨i1, i2⟩ := ih fun y hy => hl y (List.mem_append_left _ hy)
    rw [nrmL_snoc, List.length_append, List.length_singleton]
    obtain ⟨p1, p2⟩ := putL_amkG i2 (hl x (by simp))
    exact ⟨by omega, p2⟩
theorem amk_one {x : Ln} (h : x.2.2.length ≤ 13) : Amk 1 x := ⟨.inl h, by have := val_13 h; omega⟩
theorem amk_neg {x : Ln} (h : x.2.2.length ≤ 13) : Amk 1 (negL x) := ⟨.inr ⟨_, rfl⟩, by
  show (val (txt (- val x.2.2))).natAbs ≤ _
  rw [val_txt]
  have := val_13 h
  omega⟩
set_option maxRecDepth 100000 in
set_option maxHeartbeats 8000000 in
theorem rMinus_any (A B : Option Addr) (n c m d : Nat) (a b : List Ln) (w : World) (ha : rowB.Rds w A n c a) (hb : rowB.Rds w B m d b) (sa : ∀ x ∈ a, x.1.length ≤ 100 ∧ x.2.1.length ≤ 100 ∧ x.2.2.length ≤ 13) (sb : ∀ x ∈ b, x.1.length ≤ 100 ∧ x.2.1.length ≤ 100 ∧ x.2.2.length ≤ 13) (hn : n ≤ 100) (hm : m ≤ 100) :
    Calls Tryz.prog 30 #[.slice A n c, .slice B m d] w (ListC (lsL a b) (lsI a b) w) := by
  have la := Lib.hid ha.len
  have lb := Lib.hid hb.len
  have L1 := Lib.hid ha
  have L2 := Lib.hid hb
  have HA := Lib.hid (rCheckB_any A n c a w ha (fun x hx => by have := sa x hx; omega) (by omega))
  have HB := Lib.hid (fun W (h : Below w.heap.size w W) => rCheckB_any B m d b W (hb.below h) (fun x hx => by have := sb x hx; omega) (by omega))
  have HS2 := Lib.hid sb
  have HAM := Lib.hid (show ∀ x ∈ a ++ b.map negL, Amk 1 x from fun x hx => by
    rcases List.mem_append.1 hx with h | h
    · exact amk_one (sa x h).2.2
    · obtain ⟨y, hy, rfl⟩ := List.mem_map.1 h
      exact amk_neg (sb y hy).2.2)
  have HP := Lib.hid (fun v i W (h1 : rowB.Own w.heap.size W v (lsL a b)) (h2 : Below w.heap.size w W) (hi : lsI a b = i) => (show ListC (lsL a b) (lsI a b) w (.returned (.tuple #[v, .int .i64 i])) W from ⟨v, by rw [hi], h1, h2⟩))
  have HLL := Lib.hid (show lsL a b = if (listB a && listB b) = true then lessB a b else [] from rfl)
  have HLI := Lib.hid (show lsI a b = if (listB a && listB b) = true then 0 else 1 from rfl)
  clear ha hb sa sb
  generalize ListC (lsL a b) (lsI a b) w = Post at *
  generalize lsI a b = ri at *
  generalize lsL a b = rl at *
  cases hba : listB a
  case false =>
    have e1 := HLL.out
    have e2 := HLI.out
    have h0 := HA.out
    rw [hba] at e1 e2 h0
    rw [Bool.false_and, if_neg (by decide)] at e1 e2
    subst e1 e2
    have HA1 := Lib.hid h0
    clear h0 HA HB HLL HLI
    go_enter Tryz.func30, Tryz.ntmps30
    go_wp2_with fail
    refine HA1.out.mono ?_
    rintro e w1 ⟨rfl, hb1⟩
    have B1 := Lib.hid hb1
    clear hb1
    go_wp2_with fail
    exact HP.out _ _ _ (own_emptyB _ _ B1.out.size) (B1.out.alloc B1.out.size _) rfl
  case true =>
  cases hbb : listB b
  case false =>
    have e1 := HLL.out
    have e2 := HLI.out
    have h0 := HA.out
    have h3 := HB.out
    rw [hba] at h0
    rw [hbb] at h3
    rw [hbb, Bool.and_false, if_neg (by decide)] at e1 e2
    subst e1 e2
    have HA1 := Lib.hid h0
    have HB1 := Lib.hid h3
    clear h0 h3 HA HB HLL HLI
    go_enter Tryz.func30, Tryz.ntmps30
    go_wp2_with fail
    refine HA1.out.mono ?_
    rintro e w1 ⟨rfl, hb1⟩
    have B1 := Lib.hid hb1
    clear hb1
    go_wp2_with fail
    refine (HB1.out _ B1.out).mono ?_
    rintro e w2 ⟨rfl, hb2⟩
    have B2 := Lib.hid (below_next B1.out hb2 ⟨rfl, rfl, rfl, rfl⟩)
    clear hb2
    go_wp2_with fail
    exact HP.out _ _ _ (own_emptyB _ _ B2.out.size) (B2.out.alloc B2.out.size _) rfl
  case true =>
  have e1 := HLL.out
  have e2 := HLI.out
  have h0 := HA.out
  have h3 := HB.out
  rw [hba] at h0
  rw [hbb] at h3
  rw [hba, hbb, if_pos (by rfl)] at e1 e2
  unfold lessB at e1
  subst e1 e2
  have HA1 := Lib.hid h0
  have HB1 := Lib.hid h3
  have HN0 := Lib.hid (show nrmL (a ++ (b.take 0).map negL) = a by rw [List.take_zero, List.map_nil, List.append_nil, listB_nrm hba])
  clear h0 h3 HA HB HLL HLI hba hbb
  go_enter Tryz.func30, Tryz.ntmps30
  go_wp2_with fail
  refine HA1.out.mono ?_
  rintro e w1 ⟨rfl, hb1⟩
  have B1 := Lib.hid hb1
  clear hb1
  go_wp2_with fail
  refine (HB1.out _ B1.out).mono ?_
  rintro e w2 ⟨rfl, hb2⟩
  have B2 := Lib.hid (below_next B1.out hb2 ⟨rfl, rfl, rfl, rfl⟩)
  clear hb2 B1 HA1 HB1
  have HOE := Lib.hid (own_emptyB w.heap.size w2 B2.out.size)
  have HBE := Lib.hid (B2.out.alloc B2.out.size (.cells #[] 33))
  have HLE := Lib.hid (L1.out.below HBE.out)
  go_wp2_with (first
    | (at_builtin; refine Row.wp_append rowB_ok rfl (.tmp 18) (.tmp 19) rfl w.heap.size _ [] (w2.alloc (.cells #[] 33)) A n c a rfl HOE.out rfl HLE.out HBE.out.size (by simp; omega) ?_; intro v1 w3 ho1 hg1 _; rw [List.nil_append] at ho1; have O0 := Lib.hid ho1; have B3 := Lib.hid (own_belowB HOE.out HBE.out (Nat.le_refl _) hg1); clear ho1 hg1)
    | fail)
  rw [← HN0.out] at O0
  clear HOE HBE HLE B2 HN0
  go_loopw [6, 7] (fun v i wr => ∃ k : Nat, k ≤ m ∧ i = .int .i64 (k : Int) ∧ Hid (rowB.Own w.heap.size wr v (nrmL (a ++ (b.take k).map negL))) ∧ Hid (Below w.heap.size w wr)) (fun _ i _ => m - (intOf i).toNat)
  case atStart => exact ⟨0, by omega, rfl, O0, B3⟩
  case round =>
    clear O0 B3
    obtain ⟨k, hk, rfl, HO, HB⟩ := hrel
    by_cases hlt : k < m
    · have hkl : k < b.length := by rw [lb.out]; exact hlt
      obtain ⟨b1, o1, rfl, hb1, _⟩ := L2.out.at_ (by omega)
      obtain ⟨p0, p1, p2⟩ := rdsB3 (L2.out.below HB.out) k hlt
      have hki : (k : Int) < (m : Int) := by omega
      have HUP := Lib.hid (take_neg b k hkl)
      have HX := Lib.hid (HS2.out _ (lnAt_mem b k hkl))
      have HAL : (a ++ (b.take k).map negL).length ≤ 200 := by
        have := la.out
        rw [List.length_append, List.length_map, List.length_take]; omega
      obtain ⟨a1, a2⟩ := nrmL_amkG (a ++ (b.take k).map negL) fun y hy => HAM.out y (by
        rcases List.mem_append.1 hy with h | h
        · exact List.mem_append_left _ h
        · obtain ⟨z, hz, rfl⟩ := List.mem_map.1 h
          exact List.mem_append_right _ (List.mem_map_of_mem (List.take_subset _ _ hz)))
      clear hkl
      generalize hxe : b.getD k ln0 = x at *
      have hng := amk_short (amk_neg HX.out.2.2) (by omega)
      obtain ⟨xa, xc, xm⟩ := x
      simp only at p0 p1 p2 HX hng
      obtain ⟨A3, c3, hu, hr3⟩ := HO.out.rds
      subst hu
      have hbx := heap_alloc_new wr (.cells #[.string ⟨xa.toArray⟩, .string ⟨xc.toArray⟩, .string ⟨xm.toArray⟩] 33)
      have BA := Lib.hid (HB.out.alloc HB.out.size (.cells #[.string ⟨xa.toArray⟩, .string ⟨xc.toArray⟩, .string ⟨xm.toArray⟩] 33))
      have sa : (wr.alloc (.cells #[.string ⟨xa.toArray⟩, .string ⟨xc.toArray⟩, .string ⟨xm.toArray⟩] 33)).heap.size = wr.heap.size + 1 := by simp
      have HR3 := Lib.hid (hr3.below (w' := (wr.alloc (.cells #[.string ⟨xa.toArray⟩, .string ⟨xc.toArray⟩, .string ⟨xm.toArray⟩] 33)).setCell ⟨wr.heap.size, 2, none⟩ (.string ⟨(txt (- val xm)).toArray⟩)) (below_grown ((Below.refl _ wr).alloc (Nat.le_refl _) (.cells #[.string ⟨xa.toArray⟩, .string ⟨xc.toArray⟩, .string ⟨xm.toArray⟩] 33)) (Nat.le_refl _) (grown_setCell _ _ _) (Nat.le_refl _)))
      have HNG := Lib.hid (fun W => rneg_any xm W (by have := HX.out.2.2; omega))
      have HE := Lib.hid (show putL (nrmL (a ++ (b.take k).map negL)) (xa, xc, txt (- val xm)) = nrmL (a ++ (b.take (k + 1)).map negL) by
        rw [← nrmL_snoc, HUP.out, List.append_assoc]; rfl)
      have HPU := Lib.hid (fun W (h : rowB.Rds W A3 (nrmL (a ++ (b.take k).map negL)).length c3 (nrmL (a ++ (b.take k).map negL))) => rput_any A3 (nrmL (a ++ (b.take k).map negL)).length c3 _ xa xc (txt (- val xm)) W h (by omega) (fun y hy => amk_short (a2 y hy) (by omega)) hng.1 hng.2)
      unfold PutB at HPU
      simp only [HE.out] at HPU
      clear hr3 HAL a1 a2 HE HUP hng
      generalize nrmL (a ++ (b.take k).map negL) = nl at *
      generalize hn2 : nrmL (a ++ (b.take (k + 1)).map negL) = nl2 at *
      have HN2 := Lib.hid hn2
      clear hn2
      generalize txt (- val xm) = ms at *
      go_wp2_with fail
      clear p0 p1 p2
      generalize wr.alloc (.cells #[.string ⟨xa.toArray⟩, .string ⟨xc.toArray⟩, .string ⟨xm.toArray⟩] 33) = wa at *
      obtain ⟨⟨x0, x1, x2⟩, g0, g1, g2⟩ := cells3 hbx
      refine (HNG.out _).mono ?_
      rintro e w4 ⟨rfl, rfl⟩
      have hst := set2 hbx (.string ⟨ms.toArray⟩)
      have hgs := grown_setCell wa ⟨wr.heap.size, 2, none⟩ (.string ⟨ms.toArray⟩)
      have BT := Lib.hid (below_grown BA.out (Nat.le_refl _) hgs HB.out.size)
      have HRT := HPU.out (wa.setCell ⟨wr.heap.size, 2, none⟩ (.string ⟨ms.toArray⟩)) HR3.out
      have HPT := Lib.hid HRT
      have HST := Lib.hid hst
      clear hst hgs hbx HRT HPU HR3 HNG BA
      go_wp2_with fail
      generalize wa.setCell ⟨wr.heap.size, 2, none⟩ (.string ⟨ms.toArray⟩) = wt at *
      clear x0 x1 x2
      obtain ⟨⟨x0, x1, x2⟩, _⟩ := cells3 HST.out
      refine HPT.out.mono ?_
      rintro e w5 ⟨v2, rfl, ho, hb⟩
      have HO2 := Lib.hid (ho.mono BT.out.size)
      have HB2 := Lib.hid (BT.out.trans (hb.mono BT.out.size))
      clear ho hb HPT x0 x1 x2
      go_wp2_with fail
      go_roundw
      case rel => exact ⟨k + 1, by omega, by go_num, by rw [HN2.out]; exact HO2, HB2⟩
      case measure => simp [intOf]; omega
    · have hkn : k = m := by omega
      subst hkn
      have e : b.take k = b := List.take_of_length_le (by rw [lb.out]; exact Nat.le_refl _)
      rw [e] at HO
      have hki : ¬ (k : Int) < (k : Int) := by omega
      clear e
      go_wp2_with fail
      exact HP.out _ _ _ HO.out HB.out rfl
end Go.Proofs.YtohdpidlilhnjaaGreatDoor

/- LedgerSums: the walk. -/
namespace Go.Proofs.YtohdpidlilhnjaaGreatDoor
open Go.RowKit Go.Maps Num

theorem grLB_parts {l : List Ln} (h : grLB l = false) : l.length ≤ 16 ∧ ∀ x ∈ l, x.1.length ≤ 60 ∧ x.2.1.length ≤ 60 ∧ x.2.2.length ≤ 13 := by
  unfold grLB at h
  obtain ⟨h1, h2⟩ := Bool.or_eq_false_iff.1 h
  refine ⟨by have := of_decide_eq_false h2; omega, fun x hx => ?_⟩
  have h3 : lnG x = false := by
    cases hg : lnG x
    · rfl
    · rw [List.any_eq_true.2 ⟨x, hx, hg⟩] at h1; cases h1
  unfold lnG at h3
  obtain ⟨h4, h5⟩ := Bool.or_eq_false_iff.1 h3
  obtain ⟨h6, h7⟩ := Bool.or_eq_false_iff.1 h4
  have := of_decide_eq_false h5
  have := of_decide_eq_false h6
  have := of_decide_eq_false h7
  omega
theorem rolL_len {l : List Ln} (h : l.length ≤ 16) (hs : ∀ x ∈ l, x.2.2.length ≤ 13) : (rolL l).length ≤ 100 := by
  unfold rolL
  split
  · rename_i hl
    have h1 := (nrmL_amkG (roll l) fun z hz => by
      obtain ⟨y, hy, a, _, rfl⟩ := roll_mem hz
      exact amk_one (hs y hy)).1
    have h2 := roll_len (listB_code hl)
    unfold rollN
    omega
  · simp
theorem lsL_len {a b : List Ln} (ha : a.length ≤ 16) (hb : b.length ≤ 16) (sa : ∀ x ∈ a, x.2.2.length ≤ 13) (sb : ∀ x ∈ b, x.2.2.length ≤ 13) : (lsL a b).length ≤ 100 := by
  unfold lsL
  split
  · have h1 := (nrmL_amkG (a ++ b.map negL) fun z hz => by
      rcases List.mem_append.1 hz with h | h
      · exact amk_one (sa z h)
      · obtain ⟨y, hy, rfl⟩ := List.mem_map.1 h
        exact amk_neg (sb y hy)).1
    rw [List.length_append, List.length_map] at h1
    unfold lessB
    omega
  · simp
set_option maxRecDepth 100000 in
set_option maxHeartbeats 8000000 in
theorem sums_row (A : Option Addr) (n c : Nat) (a : List Ln) (B : Option Addr) (m d : Nat) (b : List Ln) (w : World) (ha : rowB.Rds w A n c a) (hb : rowB.Rds w B m d b) (ht : Tab w) (hM : ML w) :
    Calls Tryz.prog 6 #[.slice A n c, .slice B m d] w (BoolPost true w) := by
  have HP := Lib.hid (fun W (h : Below w.heap.size w W) => (show BoolPost true w (.returned (.bool true)) W from ⟨rfl, h⟩))
  have HW := Lib.hid (fun W (h : Below w.heap.size w W) => awake_any W (ht.below h) (hM.below h))
  unfold BoolPost at HW
  have L1 := Lib.hid ha
  have L2 := Lib.hid hb
  have HGA := Lib.hid (rGreatB_any A n c a w ha)
  have HGB := Lib.hid (fun W (h : Below w.heap.size w W) => rGreatB_any B m d b W (hb.below h))
  have HT := Lib.hid (And.intro ht hM)
  clear ha hb ht hM
  generalize BoolPost true w = Post at *
  cases hga : grLB a
  case true =>
    have h0 := HGA.out
    rw [hga] at h0
    have HG1 := Lib.hid h0
    clear h0 HGA HGB
    go_enter Tryz.func6, Tryz.ntmps6
    go_wp2_with fail
    refine HG1.out.mono ?_
    rintro e w1 ⟨rfl, hb1⟩
    have B1 := Lib.hid hb1
    clear hb1
    go_wp2_with fail
    refine (HW.out _ B1.out).mono ?_
    rintro e w2 ⟨rfl, hb2⟩
    have B2 := Lib.hid (below_next B1.out hb2 ⟨rfl, rfl, rfl, rfl⟩)
    clear hb2
    go_wp2_with fail
    exact HP.out _ B2.out
  case false =>
  cases hgb : grLB b
  case true =>
    have h0 := HGA.out
    have h1 := HGB.out
    rw [hga] at h0
    rw [hgb] at h1
    have HG1 := Lib.hid h0
    have HG2 := Lib.hid h1
    clear h0 h1 HGA HGB
    go_enter Tryz.func6, Tryz.ntmps6
    go_wp2_with fail
    refine HG1.out.mono ?_
    rintro e w1 ⟨rfl, hb1⟩
    have B1 := Lib.hid hb1
    clear hb1
    go_wp2_with fail
    refine (HG2.out _ B1.out).mono ?_
    rintro e w2 ⟨rfl, hb2⟩
    have B2 := Lib.hid (below_next B1.out hb2 ⟨rfl, rfl, rfl, rfl⟩)
    clear hb2
    go_wp2_with fail
    refine (HW.out _ B2.out).mono ?_
    rintro e w3 ⟨rfl, hb3⟩
    have B3 := Lib.hid (below_next B2.out hb3 ⟨rfl, rfl, rfl, rfl⟩)
    clear hb3
    go_wp2_with fail
    exact HP.out _ B3.out
  case false =>
  have h0 := HGA.out
  have h1 := HGB.out
  rw [hga] at h0
  rw [hgb] at h1
  have HG1 := Lib.hid h0
  have HG2 := Lib.hid h1
  clear h0 h1 HGA HGB
  obtain ⟨ga, sa⟩ := grLB_parts hga
  obtain ⟨gb, sb⟩ := grLB_parts hgb
  have hn : n ≤ 16 := by rw [← L1.out.len]; exact ga
  have hm : m ≤ 16 := by rw [← L2.out.len]; exact gb
  have zr := rolL_len ga fun x hx => (sa x hx).2.2
  have zl := lsL_len ga gb (fun x hx => (sa x hx).2.2) fun x hx => (sb x hx).2.2
  have K1 := Lib.hid (fun W (h : Below w.heap.size w W) => Rollup_any A n c a W (L1.out.below h) (fun x hx => by have := sa x hx; exact ⟨by omega, by omega, by omega⟩) (by omega) (HT.out.1.below h) (HT.out.2.below h))
  have K2 := Lib.hid (fun W (h : Below w.heap.size w W) => rRollup_any A n c a W (L1.out.below h) (fun x hx => by have := sa x hx; omega) (by omega))
  have K3 := Lib.hid (fun W (h : Below w.heap.size w W) => Minus_any A B n c m d a b W (L1.out.below h) (L2.out.below h) (fun x hx => by have := sa x hx; exact ⟨by omega, by omega, by omega⟩) (fun x hx => by have := sb x hx; exact ⟨⟨by omega, by omega, by omega⟩, by omega⟩) (by omega) (by omega) (HT.out.1.below h) (HT.out.2.below h))
  have K4 := Lib.hid (fun W (h : Below w.heap.size w W) => rMinus_any A B n c m d a b W (L1.out.below h) (L2.out.below h) (fun x hx => by have := sa x hx; omega) (fun x hx => by have := sb x hx; omega) (by omega) (by omega))
  have K5 := Lib.hid (fun A1 c1 A2 c2 W (r1 : rowB.Rds W A1 (rolL a).length c1 (rolL a)) (r2 : rowB.Rds W A2 (rolL a).length c2 (rolL a)) => (show Calls Tryz.prog 31 #[.slice A1 (rolL a).length c1, .slice A2 (rolL a).length c2] W (fun e w' => e = .returned (.bool true) ∧ Below W.heap.size W w') by
    have h := rSameB_any A1 A2 _ c1 _ c2 _ _ W r1 r2 (by omega) (by omega)
    rw [decide_eq_true rfl] at h; exact h))
  have K6 := Lib.hid (fun A1 c1 A2 c2 W (r1 : rowB.Rds W A1 (lsL a b).length c1 (lsL a b)) (r2 : rowB.Rds W A2 (lsL a b).length c2 (lsL a b)) => (show Calls Tryz.prog 31 #[.slice A1 (lsL a b).length c1, .slice A2 (lsL a b).length c2] W (fun e w' => e = .returned (.bool true) ∧ Below W.heap.size W w') by
    have h := rSameB_any A1 A2 _ c1 _ c2 _ _ W r1 r2 (by omega) (by omega)
    rw [decide_eq_true rfl] at h; exact h))
  have K7 := Lib.hid (fun W (h : Below w.heap.size w W) => Same_any A B n c m d a b W (L1.out.below h) (L2.out.below h) (by omega) (by omega))
  have K8 := Lib.hid (fun W (h : Below w.heap.size w W) => rSameB_any A B n c m d a b W (L1.out.below h) (L2.out.below h) (by omega) (by omega))
  unfold BoolPost at K7 K8
  clear L1 L2 HT ga gb sa sb zr zl hga hgb hn hm
  generalize decide (a = b) = sm at *
  generalize rolI a = ri at *
  generalize lsI a b = li at *
  generalize rolL a = RL at *
  generalize lsL a b = LL at *
  go_enter Tryz.func6, Tryz.ntmps6
  go_wp2_with fail
  refine HG1.out.mono ?_
  rintro e w1 ⟨rfl, hb1⟩
  have B1 := Lib.hid hb1
  clear hb1
  go_wp2_with fail
  refine (HG2.out _ B1.out).mono ?_
  rintro e w2 ⟨rfl, hb2⟩
  have B2 := Lib.hid (below_next B1.out hb2 ⟨rfl, rfl, rfl, rfl⟩)
  clear hb2 HG1 HG2 B1
  go_wp2_with fail
  refine (K1.out _ B2.out).mono ?_
  intro e w3 hq
  obtain ⟨A1, c1, rfl, hr, hb⟩ := listc_rds hq
  have R3 := Lib.hid hr
  have B3 := Lib.hid (below_next B2.out hb ⟨rfl, rfl, rfl, rfl⟩)
  clear hq hr hb K1 B2
  go_wp2_with fail
  refine (K2.out _ B3.out).mono ?_
  intro e w4 hq
  obtain ⟨A2, c2, rfl, hr, hb⟩ := listc_rds hq
  have R4 := Lib.hid hr
  have R3' := Lib.hid (R3.out.below hb)
  have B4 := Lib.hid (below_next B3.out hb ⟨rfl, rfl, rfl, rfl⟩)
  clear hq hr hb K2 B3 R3
  go_wp2_with fail
  refine (K3.out _ B4.out).mono ?_
  intro e w5 hq
  obtain ⟨A3, c3, rfl, hr, hb⟩ := listc_rds hq
  have R5 := Lib.hid hr
  have R3 := Lib.hid (R3'.out.below hb)
  have R4' := Lib.hid (R4.out.below hb)
  have B5 := Lib.hid (below_next B4.out hb ⟨rfl, rfl, rfl, rfl⟩)
  clear hq hr hb K3 B4 R3' R4
  go_wp2_with fail
  refine (K4.out _ B5.out).mono ?_
  intro e w6 hq
  obtain ⟨A4, c4, rfl, hr, hb⟩ := listc_rds hq
  have R6 := Lib.hid hr
  have R3' := Lib.hid (R3.out.below hb)
  have R4 := Lib.hid (R4'.out.below hb)
  have R5' := Lib.hid (R5.out.below hb)
  have B6 := Lib.hid (below_next B5.out hb ⟨rfl, rfl, rfl, rfl⟩)
  clear hq hr hb K4 B5 R3 R4' R5
  obtain ⟨rn, hrn⟩ : ∃ q, RL.length = q := ⟨_, rfl⟩
  obtain ⟨ln, hln⟩ : ∃ q, LL.length = q := ⟨_, rfl⟩
  rw [hrn] at R3' R4 K5 ⊢
  rw [hln] at R5' R6 K6 ⊢
  clear hrn hln
  go_wp2_with fail
  refine (K5.out _ _ _ _ _ R3'.out R4.out).mono ?_
  rintro e w7 ⟨rfl, hb⟩
  have R5 := Lib.hid (R5'.out.below hb)
  have R7 := Lib.hid (R6.out.below hb)
  have B7 := Lib.hid (below_next B6.out hb ⟨rfl, rfl, rfl, rfl⟩)
  clear hb K5 B6 R3' R4 R5' R6
  go_wp2_with fail
  refine (K6.out _ _ _ _ _ R5.out R7.out).mono ?_
  rintro e w8 ⟨rfl, hb⟩
  have B8 := Lib.hid (below_next B7.out hb ⟨rfl, rfl, rfl, rfl⟩)
  clear hb K6 B7 R5 R7
  go_wp2_with fail
  refine (K7.out _ B8.out).mono ?_
  rintro e w9 ⟨rfl, hb⟩
  have B9 := Lib.hid (below_next B8.out hb ⟨rfl, rfl, rfl, rfl⟩)
  clear hb K7 B8
  go_wp2_with fail
  refine (K8.out _ B9.out).mono ?_
  rintro e w10 ⟨rfl, hb⟩
  have B10 := Lib.hid (below_next B9.out hb ⟨rfl, rfl, rfl, rfl⟩)
  clear hb K8 B9
  go_wp2_with fail
  refine (HW.out _ B10.out).mono ?_
  rintro e w11 ⟨rfl, hb⟩
  have B11 := Lib.hid (below_next B10.out hb ⟨rfl, rfl, rfl, rfl⟩)
  clear hb HW B10
  go_wp2_with fail
  exact HP.out _ B11.out
end Go.Proofs.YtohdpidlilhnjaaGreatDoor
