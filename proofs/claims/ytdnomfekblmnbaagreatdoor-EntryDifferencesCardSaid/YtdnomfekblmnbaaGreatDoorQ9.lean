/- Contracts of the reference's Put, Lines. -/
import Derived.Test.YtdnomfekblmnbaaGreatDoorQ8
import Derived.Test.YtdnomfekblmnbaaGreatDoorQ6
import Derived.Test.YtdnomfekblmnbaaGreatDoorQ5
import Derived.Test.YtdnomfekblmnbaaGreatDoorQ7
import Derived.Test.YtdnomfekblmnbaaGreatDoorQ4
import Derived.StillTailTactics
import Derived.Deep.DeepCutAuto
namespace Go.Proofs.YtdnomfekblmnbaaGreatDoor
open Go.RowKit Go.Maps Num

/-- put into lines of which the first k lie ahead -/
theorem putL_at (l : List Ln) (x : Ln) (k : Nat) (h : ∀ y ∈ l.take k, cmpK y x < 0) : putL l x = l.take k ++ putL (l.drop k) x := by
  induction l generalizing k with
  | nil => simp
  | cons y r ih =>
    cases k with
    | zero => simp
    | succ k =>
      rw [List.take_succ_cons, List.drop_succ_cons, List.cons_append, ← ih k fun z hz => h z (by rw [List.take_succ_cons]; exact List.mem_cons_of_mem _ hz)]
      show (if cmpK y x < 0 then y :: putL r x else _) = _
      rw [if_pos (h y (by simp))]
def putX (x : Ln) : List Ln := if val x.2.2 = 0 then [] else [x]
theorem putL_end {l : List Ln} {x : Ln} {k : Nat} (h : ∀ y ∈ l.take k, cmpK y x < 0) (hk : l.length ≤ k) : putL l x = (l.take k ++ putX x) ++ l.drop k := by
  rw [putL_at l x k h, List.drop_of_length_le hk, List.append_nil]; rfl
theorem putL_eq {l : List Ln} {x y : Ln} {k : Nat} (h : ∀ y ∈ l.take k, cmpK y x < 0) (hd : l.drop k = y :: l.drop (k + 1)) (hc : cmpK y x = 0) : putL l x = (l.take k ++ putX (x.1, x.2.1, txt (val y.2.2 + val x.2.2))) ++ l.drop (k + 1) := by
  rw [putL_at l x k h, hd, List.append_assoc]
  congr 1
  show (if cmpK y x < 0 then _ else if cmpK y x = 0 then _ else _) = _
  rw [if_neg (by omega), if_pos hc]
  unfold putX
  simp only [val_txt]
  split <;> rfl
theorem putL_gt {l : List Ln} {x y : Ln} {k : Nat} (h : ∀ y ∈ l.take k, cmpK y x < 0) (hd : l.drop k = y :: l.drop (k + 1)) (hc : 0 < cmpK y x) : putL l x = (l.take k ++ putX x) ++ l.drop k := by
  rw [putL_at l x k h, hd, List.append_assoc]
  congr 1
  show (if cmpK y x < 0 then _ else if cmpK y x = 0 then _ else _) = _
  rw [if_neg (by omega), if_neg (by omega)]
  unfold putX
  split <;> rfl
theorem sign_zero (v : Int) : ((cmpI v 0 != 0) = true ↔ v ≠ 0) := by
  unfold cmpI
  rw [bne_iff_ne]
  split
  · omega
  · split <;> omega
/-- []api.Line{} -/
theorem own_empty (B : Nat) (w : World) (hB : B ≤ w.heap.size) : rowL.Own B (w.alloc (.cells #[] 45)) (.slice (some ⟨w.heap.size, 0, none⟩) 0 0) [] :=
  ⟨rfl, .inr ⟨w.heap.size, 0, #[], rfl, hB, heap_alloc_new w _, Nat.le_refl _, by decide, rfl, rfl⟩⟩
def PutP (l : List Ln) (x : Ln) (w : World) (e : Ending) (w' : World) : Prop := ∃ v, e = .returned v ∧ rowL.Own w.heap.size w' v (putL l x) ∧ Below w.heap.size w w'
theorem rds3 {W : World} {b o n c : Nat} {l : List Ln} (h : rowL.Rds W (some ⟨b, o, none⟩) n c l) (k : Nat) (hk : k < n) :
    W.cell? ⟨b, o + k * 3, none⟩ = some (.string ⟨(l.getD k ln0).1.toArray⟩) ∧ W.cell? ⟨b, o + k * 3 + 1, none⟩ = some (.string ⟨(l.getD k ln0).2.1.toArray⟩) ∧ W.cell? ⟨b, o + k * 3 + 2, none⟩ = some (.string ⟨(l.getD k ln0).2.2.toArray⟩) :=
  ⟨h.cell rowL_ok ln0 k 0 _ hk rfl, h.cell rowL_ok ln0 k 1 _ hk rfl, h.cell rowL_ok ln0 k 2 _ hk rfl⟩
set_option maxRecDepth 100000 in
set_option maxHeartbeats 4000000 in
theorem rput_any (A : Option Addr) (n c : Nat) (l : List Ln) (a cu m : List UInt8) (w : World) (hl : rowL.Rds w A n c l) (hn : n ≤ 1000) (hs : ∀ y ∈ l, (dgs y.2.2).length ≤ 17 ∧ y.2.2.length ≤ 1000000) (hm : (dgs m).length ≤ 17) (hm2 : m.length ≤ 1000000) :
    Calls Tryz.prog 97 #[.slice A n c, .agg #[.string ⟨a.toArray⟩, .string ⟨cu.toArray⟩, .string ⟨m.toArray⟩]] w (PutP l (a, cu, m) w) := by
  have ll := Lib.hid hl.len
  have hB0 : Below w.heap.size w (w.alloc (.cells #[.string ⟨a.toArray⟩, .string ⟨cu.toArray⟩, .string ⟨m.toArray⟩] 45)) := (Below.refl _ w).alloc (Nat.le_refl _) _
  have HP := Lib.hid (fun W v (h : rowL.Own w.heap.size W v (putL l (a, cu, m))) (hb : Below w.heap.size w W) => (show PutP l (a, cu, m) w (.returned v) W from ⟨v, rfl, h, hb⟩))
  generalize PutP l (a, cu, m) w = Post at *
  have B0 := Lib.hid hB0
  have X0 := Lib.hid (cells3 (heap_alloc_new w (.cells #[.string ⟨a.toArray⟩, .string ⟨cu.toArray⟩, .string ⟨m.toArray⟩] 45))).1
  have XR := Lib.hid (heap_alloc_new w (.cells #[.string ⟨a.toArray⟩, .string ⟨cu.toArray⟩, .string ⟨m.toArray⟩] 45))
  have L1 := Lib.hid hl
  have HS := Lib.hid hs
  have HM := Lib.hid (And.intro hm hm2)
  have s0 : (w.alloc (.cells #[.string ⟨a.toArray⟩, .string ⟨cu.toArray⟩, .string ⟨m.toArray⟩] 45)).heap.size = w.heap.size + 1 := by simp
  clear hl hs hB0 hm hm2
  go_enter Tryz.func97, Tryz.ntmps97
  go_wp2_with fail
  generalize w.alloc (.cells #[.string ⟨a.toArray⟩, .string ⟨cu.toArray⟩, .string ⟨m.toArray⟩] 45) = w1 at *
  have S0 := Lib.hid s0
  clear s0
  go_loopw [5] (fun i wr => ∃ k : Nat, k ≤ n ∧ i = .int .i64 (k : Int) ∧ Hid (∀ y ∈ l.take k, cmpK y (a, cu, m) < 0) ∧ Hid (Below w1.heap.size w1 wr)) (fun i _ => n - (intOf i).toNat)
  case atStart => exact ⟨0, by omega, rfl, Lib.hid (by simp), Lib.hid (Below.refl _ _)⟩
  case round =>
    obtain ⟨k, hk, rfl, HZ, HB⟩ := hrel
    have l0 : w.heap.size < w1.heap.size := by rw [S0.out]; omega
    have x0 := (HB.out.cell (p := ⟨w.heap.size, 0, none⟩) l0).trans X0.out.1
    have x1 := (HB.out.cell (p := ⟨w.heap.size, 1, none⟩) l0).trans X0.out.2.1
    have x2 := (HB.out.cell (p := ⟨w.heap.size, 2, none⟩) l0).trans X0.out.2.2
    have HBw := Lib.hid (below_next B0.out HB.out ⟨rfl, rfl, rfl, rfl⟩)
    by_cases hlt : k < n
    · have hkl : k < l.length := by rw [ll.out]; exact hlt
      obtain ⟨b1, o1, rfl, hb1, _⟩ := L1.out.at_ (by omega)
      obtain ⟨p0, p1, p2⟩ := rds3 (L1.out.below HBw.out) k hlt
      have hki : (k : Int) < (n : Int) := by omega
      have HTK := Lib.hid (take_ln l k hkl)
      have HDK := Lib.hid (drop_ln l k hkl)
      have HSY := Lib.hid (HS.out _ (lnAt_mem l k hkl))
      clear hkl
      generalize hyy : l.getD k ln0 = y at *
      obtain ⟨ya, yc, ym⟩ := y
      simp only at p0 p1 p2
      obtain ⟨cv, hcv⟩ : ∃ cv, cmpKy (ya, yc) (a, cu) = cv := ⟨_, rfl⟩
      have HCV := Lib.hid (show cmpK (ya, yc, ym) (a, cu, m) = cv from hcv)
      have KC := Lib.hid (fun W => rcl_any ya yc ym a cu m W)
      rw [hcv] at KC
      clear hcv
      have HXS := Lib.hid (And.intro p0 (And.intro p1 (And.intro p2 (And.intro x0 (And.intro x1 x2)))))
      have ly := block_lt_of_cell p0
      have lx := block_lt_of_cell x0
      have HPY := Lib.hid (rds3 L1.out k hlt)
      rw [show l.getD k ln0 = (ya, yc, ym) from hyy] at HPY
      clear hyy
      have HD := Lib.hid (Below.refl wr.heap.size wr)
      have hkn2 : k < n := hlt
      go_wp2_with fail
      go_region_held3 (fun w' => w'.cell? ⟨b1, o1 + k * 3, none⟩ = some (.string ⟨ya.toArray⟩) ∧ w'.cell? ⟨b1, o1 + k * 3 + 1, none⟩ = some (.string ⟨yc.toArray⟩) ∧ w'.cell? ⟨b1, o1 + k * 3 + 2, none⟩ = some (.string ⟨ym.toArray⟩) ∧ w'.cell? ⟨w.heap.size, 0, none⟩ = some (.string ⟨a.toArray⟩) ∧ w'.cell? ⟨w.heap.size, 1, none⟩ = some (.string ⟨cu.toArray⟩) ∧ w'.cell? ⟨w.heap.size, 2, none⟩ = some (.string ⟨m.toArray⟩))
        (first | exact ⟨f0, f1, f2, f3, f4, f5⟩ | exact ⟨p0, p1, p2, x0, x1, x2⟩ | go_keep)
        (first
          | (go_at_call 52; refine (KC.out _).mono ?_; rintro e w' ⟨rfl, hb⟩; have HD := Lib.hid (below_next HD.out hb ⟨rfl, rfl, rfl, rfl⟩); have f0 := (HD.out.cell ly).trans HXS.out.1; have f1 := (HD.out.cell (p := ⟨b1, o1 + k * 3 + 1, none⟩) ly).trans HXS.out.2.1; have f2 := (HD.out.cell (p := ⟨b1, o1 + k * 3 + 2, none⟩) ly).trans HXS.out.2.2.1; have f3 := (HD.out.cell lx).trans HXS.out.2.2.2.1; have f4 := (HD.out.cell (p := ⟨w.heap.size, 1, none⟩) lx).trans HXS.out.2.2.2.2.1; have f5 := (HD.out.cell (p := ⟨w.heap.size, 2, none⟩) lx).trans HXS.out.2.2.2.2.2; clear hb))
      have HB2 := Lib.hid (HB.out.trans (HD.out.mono HB.out.size))
      have HTL := Lib.hid (show (l.take k).length ≤ 1000 by rw [List.length_take]; omega)
      by_cases hc0 : cv < 0
      · have HZ2 := Lib.hid (show ∀ y ∈ l.take (k + 1), cmpK y (a, cu, m) < 0 from fun y hy => by
          rw [HTK.out] at hy
          rcases List.mem_append.1 hy with h1 | h1
          · exact HZ.out y h1
          · rw [List.mem_singleton.1 h1, HCV.out]; exact hc0)
        have hcd : decide (cv < 0) = true := decide_eq_true hc0
        go_wp2_with fail
        go_roundw
        case rel => exact ⟨k + 1, by omega, by go_num, HZ2, HB2⟩
        case measure => simp [intOf]; omega
      · have hcd : decide (cv < 0) = false := decide_eq_false hc0
        have hkc : k ≤ c := Nat.le_trans hk L1.out.cap
        have hkci : (k : Int) ≤ (c : Int) := by omega
        have hkci2 : ¬ (c : Int) < (k : Int) := by omega
        have HOE := Lib.hid (own_empty w1.heap.size w' HB2.out.size)
        have HBE := Lib.hid (HB2.out.alloc HB2.out.size (.cells #[] 45))
        have HLE := Lib.hid ((L1.out.below HBw.out).below (HD.out.alloc HD.out.size (.cells #[] 45)))
        go_wp2_with (at_builtin; go_must (refine Row.wp_append rowL_ok rfl (.tmp 22) (.tmp 25) rfl w1.heap.size _ [] (w'.alloc (.cells #[] 45)) (some ⟨b1, o1, none⟩) k c (l.take k) rfl HOE.out rfl (HLE.out.take rowL_ok k hk) HBE.out.size (by simp; omega) ?_); intro v6 w5 hown6 hg6 _)
        have HB5 := Lib.hid (own_below HOE.out HBE.out (Nat.le_refl _) hg6)
        have HO5 := Lib.hid hown6
        rw [List.nil_append] at HO5
        clear hown6 hg6 HOE HBE HLE p0 p1 p2 x0 x1 x2 f0 f1 f2 f3 f4 f5 HD HXS
        have HBw5 := Lib.hid (below_next B0.out HB5.out ⟨rfl, rfl, rfl, rfl⟩)
        have HCY := Lib.hid (L1.out.below HBw5.out)
        have p0 := (HBw5.out.cell (p := ⟨b1, o1 + k * 3, none⟩) hb1).trans HPY.out.1
        have p1 := (HBw5.out.cell (p := ⟨b1, o1 + k * 3 + 1, none⟩) hb1).trans HPY.out.2.1
        have p2 := (HBw5.out.cell (p := ⟨b1, o1 + k * 3 + 2, none⟩) hb1).trans HPY.out.2.2
        have x0 := (HB5.out.cell (p := ⟨w.heap.size, 0, none⟩) l0).trans X0.out.1
        have x1 := (HB5.out.cell (p := ⟨w.heap.size, 1, none⟩) l0).trans X0.out.2.1
        have x2 := (HB5.out.cell (p := ⟨w.heap.size, 2, none⟩) l0).trans X0.out.2.2
        have HXS := Lib.hid (And.intro p0 (And.intro p1 (And.intro p2 (And.intro x0 (And.intro x1 x2)))))
        have ly := block_lt_of_cell p0
        have lx := block_lt_of_cell x0
        have HD := Lib.hid (Below.refl w5.heap.size w5)
        go_region_held3 (fun w' => w'.cell? ⟨b1, o1 + k * 3, none⟩ = some (.string ⟨ya.toArray⟩) ∧ w'.cell? ⟨b1, o1 + k * 3 + 1, none⟩ = some (.string ⟨yc.toArray⟩) ∧ w'.cell? ⟨b1, o1 + k * 3 + 2, none⟩ = some (.string ⟨ym.toArray⟩) ∧ w'.cell? ⟨w.heap.size, 0, none⟩ = some (.string ⟨a.toArray⟩) ∧ w'.cell? ⟨w.heap.size, 1, none⟩ = some (.string ⟨cu.toArray⟩) ∧ w'.cell? ⟨w.heap.size, 2, none⟩ = some (.string ⟨m.toArray⟩))
          (first | exact ⟨f0, f1, f2, f3, f4, f5⟩ | exact ⟨p0, p1, p2, x0, x1, x2⟩ | go_keep)
          (first
            | (go_at_call 52; refine (KC.out _).mono ?_; rintro e w' ⟨rfl, hb⟩; have HD := Lib.hid (below_next HD.out hb ⟨rfl, rfl, rfl, rfl⟩); have f0 := (HD.out.cell ly).trans HXS.out.1; have f1 := (HD.out.cell (p := ⟨b1, o1 + k * 3 + 1, none⟩) ly).trans HXS.out.2.1; have f2 := (HD.out.cell (p := ⟨b1, o1 + k * 3 + 2, none⟩) ly).trans HXS.out.2.2.1; have f3 := (HD.out.cell lx).trans HXS.out.2.2.2.1; have f4 := (HD.out.cell (p := ⟨w.heap.size, 1, none⟩) lx).trans HXS.out.2.2.2.2.1; have f5 := (HD.out.cell (p := ⟨w.heap.size, 2, none⟩) lx).trans HXS.out.2.2.2.2.2; clear hb))
        have HB6 := Lib.hid (HB5.out.trans (HD.out.mono HB5.out.size))
        have HO6 := Lib.hid (HO5.out.below HD.out)
        have lx6 : w.heap.size < w'.heap.size := Nat.lt_of_lt_of_le lx HD.out.size
        clear HO5 p0 p1 p2 x0 x1 x2 HXS
        by_cases hce : cv = 0
        · subst hce
          have HRES := Lib.hid (putL_eq (l := l) HZ.out HDK.out HCV.out)
          simp only at HRES
          have HADD := Lib.hid (fun W => (radd_any ym m W HSY.out.2 HM.out.2 HSY.out.1 HM.out.1).mono fun e w'' h => (show e = .returned (.string ⟨(txt (val ym + val m)).toArray⟩) ∧ w'' = W from ⟨h.1, h.2.symm⟩))
          have HMM := Lib.hid (show (txt (val ym + val m)).length ≤ 1000000 by
            have e1 := val_short HSY.out.1
            have e2 := val_short HM.out.1
            have := txt_bd (k := 18) (show (val ym + val m).natAbs < 10 ^ 18 by omega)
            omega)
          generalize txt (val ym + val m) = ms at *
          go_wp2_with fail
          go_still_tail 9, (by kernel_rfl)
          still_call (HADD.out _)
          repeat still_step
          refine wpStill_nil ?_
          change wpList _ _ _ _ _ w'.drew
          have xr := (HB6.out.block w.heap.size l0).trans XR.out
          have xr2 : w'.drew.heap[w.heap.size]? = some (.cells #[.string ⟨a.toArray⟩, .string ⟨cu.toArray⟩, .string ⟨m.toArray⟩] 45) := xr
          have HB7 := Lib.hid (HB6.out.drew)
          have HO7 := Lib.hid (HO6.out.dr 1)
          change Hid (rowL.Own w1.heap.size w'.drew v6 (List.take k l)) at HO7
          have lx7 : w.heap.size < w'.drew.heap.size := lx6
          clear f0 f1 f2 f3 f4 f5 xr
          generalize w'.drew = w7 at *
          have hst := set2 xr2 (.string ⟨ms.toArray⟩)
          obtain ⟨⟨x0, x1, x2⟩, g0, g1, g2⟩ := cells3 xr2
          have hgs := grown_setCell w7 ⟨w.heap.size, 2, none⟩ (.string ⟨ms.toArray⟩)
          have HBt := Lib.hid (below_grown (below_next B0.out HB7.out ⟨rfl, rfl, rfl, rfl⟩) (Nat.le_refl _) hgs (Nat.le_refl _))
          have HOt := Lib.hid (HO7.out.kept hgs (fun g e => by have := Option.some.inj e; simp only at this; omega))
          have HSt := Lib.hid (Nat.le_trans HB7.out.size hgs.size)
          have XT := Lib.hid hst
          clear hst hgs xr2
          go_wp2_with fail
          generalize w7.setCell ⟨w.heap.size, 2, none⟩ (.string ⟨ms.toArray⟩) = wt at *
          have hkk : k + 1 ≤ n := hlt
          obtain ⟨⟨y0, y1, y2⟩, _⟩ := cells3 XT.out
          refine (rsign_any ms _ HMM.out).mono ?_
          rintro e w8 ⟨rfl, rfl⟩
          obtain ⟨A9, hfrom, hr9⟩ := Row.run_from rowL_ok L1.out (k + 1) hkk
          rw [show (((k + 1 : Nat)) : Int) = (k : Int) + 1 by omega] at hfrom
          have HR9 := Lib.hid hr9
          clear hr9
          have ltw := block_lt_of_cell y0
          by_cases hv : val ms = 0
          · have s1 : cmpI (val ms) 0 = 0 := by rw [hv]; rfl
            rw [s1]
            have HRES2 := Lib.hid (show putL l (a, cu, m) = l.take k ++ l.drop (k + 1) by rw [HRES.out]; unfold putX; rw [if_pos hv, List.append_nil])
            clear HRES s1 hv
            go_wp2_with (at_builtin; go_must (refine Row.wp_append rowL_ok rfl (.tmp 59) (.tmp 62) rfl w1.heap.size _ (l.take k) wt A9 (n - (k + 1)) (c - (k + 1)) (l.drop (k + 1)) rfl HOt.out rfl (HR9.out.below HBt.out) HSt.out (by have := HTL.out; omega) ?_); intro v9 w9 hown9 hg9 _)
            exact HP.out _ _ (by rw [HRES2.out]; exact hown9.mono (by have := S0.out; omega)) (below_own HBt.out (Nat.le_refl _) hg9 (fun g e => by have := (HOt.out.own g e).1; have := S0.out; omega))
          · have sb : (cmpI (val ms) 0 != 0) = true := (sign_zero _).2 hv
            have sb2 : (cmpI (val ms) 0 == 0) = false := by rw [bne, Bool.not_eq_true'] at sb; exact sb
            have HRES2 := Lib.hid (show putL l (a, cu, m) = (l.take k ++ [(a, cu, ms)]) ++ l.drop (k + 1) by rw [HRES.out]; unfold putX; rw [if_neg hv])
            generalize cmpI (val ms) 0 = sg at *
            clear HRES hv
            go_wp2_with (first
              | (at_builtin; refine Row.wp_append1 rowL_ok rfl (.tmp 55) (.tmp 57) rfl w1.heap.size _ (l.take k) wt (a, cu, ms) _ _ rfl rfl rfl HOt.out rfl HSt.out (by have := HTL.out; omega) ?_; intro v8 w9 ho8 hg8 _; have HB9 := Lib.hid (below_own HBt.out (Nat.le_refl _) hg8 (fun g e => by have := (HOt.out.own g e).1; have := S0.out; omega)); have HO9 := Lib.hid ho8; have HS9 := Lib.hid (Nat.le_trans HSt.out hg8.size); clear ho8 hg8)
              | (at_builtin; refine Row.wp_append rowL_ok rfl (.tmp 59) (.tmp 62) rfl w1.heap.size _ (l.take k ++ [(a, cu, ms)]) w9 A9 (n - (k + 1)) (c - (k + 1)) (l.drop (k + 1)) rfl HO9.out rfl (HR9.out.below HB9.out) HS9.out (by have := HTL.out; rw [List.length_append, List.length_singleton]; omega) ?_; intro v9 w10 hown9 hg9 _)
              | fail)
            exact HP.out _ _ (by rw [HRES2.out]; exact hown9.mono (by have := S0.out; omega)) (below_own HB9.out (Nat.le_refl _) hg9 (fun g e => by have := (HO9.out.own g e).1; have := S0.out; omega))
        · have hcb : (cv == 0) = false := beq_eq_false_iff_ne.2 hce
          have HRES := Lib.hid (putL_gt (l := l) HZ.out HDK.out (by rw [HCV.out]; omega))
          go_wp2_with fail
          have XT := Lib.hid ((HB6.out.block w.heap.size l0).trans XR.out)
          have HBt := Lib.hid (below_next B0.out HB6.out ⟨rfl, rfl, rfl, rfl⟩)
          have HOt := HO6
          have HSt := Lib.hid HB6.out.size
          have hkk : k ≤ n := hk
          have HMM := Lib.hid HM.out.2
          clear f0 f1 f2 f3 f4 f5
          generalize w' = wt at *
          obtain ⟨⟨y0, y1, y2⟩, _⟩ := cells3 XT.out
          refine (rsign_any m _ HMM.out).mono ?_
          rintro e w8 ⟨rfl, rfl⟩
          obtain ⟨A9, hfrom, hr9⟩ := Row.run_from rowL_ok L1.out (k) hkk
          rw [show (((k : Nat)) : Int) = (k : Int) by omega] at hfrom
          have HR9 := Lib.hid hr9
          clear hr9
          have ltw := block_lt_of_cell y0
          by_cases hv : val m = 0
          · have s1 : cmpI (val m) 0 = 0 := by rw [hv]; rfl
            rw [s1]
            have HRES2 := Lib.hid (show putL l (a, cu, m) = l.take k ++ l.drop (k) by rw [HRES.out]; unfold putX; rw [if_pos hv, List.append_nil])
            clear HRES s1 hv
            go_wp2_with (at_builtin; go_must (refine Row.wp_append rowL_ok rfl (.tmp 59) (.tmp 62) rfl w1.heap.size _ (l.take k) wt A9 (n - (k)) (c - (k)) (l.drop (k)) rfl HOt.out rfl (HR9.out.below HBt.out) HSt.out (by have := HTL.out; omega) ?_); intro v9 w9 hown9 hg9 _)
            exact HP.out _ _ (by rw [HRES2.out]; exact hown9.mono (by have := S0.out; omega)) (below_own HBt.out (Nat.le_refl _) hg9 (fun g e => by have := (HOt.out.own g e).1; have := S0.out; omega))
          · have sb : (cmpI (val m) 0 != 0) = true := (sign_zero _).2 hv
            have sb2 : (cmpI (val m) 0 == 0) = false := by rw [bne, Bool.not_eq_true'] at sb; exact sb
            have HRES2 := Lib.hid (show putL l (a, cu, m) = (l.take k ++ [(a, cu, m)]) ++ l.drop (k) by rw [HRES.out]; unfold putX; rw [if_neg hv])
            generalize cmpI (val m) 0 = sg at *
            clear HRES hv
            go_wp2_with (first
              | (at_builtin; refine Row.wp_append1 rowL_ok rfl (.tmp 55) (.tmp 57) rfl w1.heap.size _ (l.take k) wt (a, cu, m) _ _ rfl rfl rfl HOt.out rfl HSt.out (by have := HTL.out; omega) ?_; intro v8 w9 ho8 hg8 _; have HB9 := Lib.hid (below_own HBt.out (Nat.le_refl _) hg8 (fun g e => by have := (HOt.out.own g e).1; have := S0.out; omega)); have HO9 := Lib.hid ho8; have HS9 := Lib.hid (Nat.le_trans HSt.out hg8.size); clear ho8 hg8)
              | (at_builtin; refine Row.wp_append rowL_ok rfl (.tmp 59) (.tmp 62) rfl w1.heap.size _ (l.take k ++ [(a, cu, m)]) w9 A9 (n - (k)) (c - (k)) (l.drop (k)) rfl HO9.out rfl (HR9.out.below HB9.out) HS9.out (by have := HTL.out; rw [List.length_append, List.length_singleton]; omega) ?_; intro v9 w10 hown9 hg9 _)
              | fail)
            exact HP.out _ _ (by rw [HRES2.out]; exact hown9.mono (by have := S0.out; omega)) (below_own HB9.out (Nat.le_refl _) hg9 (fun g e => by have := (HO9.out.own g e).1; have := S0.out; omega))
    · have hkn : k = n := by omega
      subst hkn
      have hki : ¬ (k : Int) < (k : Int) := by omega
      have hkn2 : ¬ k < k := by omega
      have hkc : k ≤ c := L1.out.cap
      have hkci : (k : Int) ≤ (c : Int) := by omega
      have hkci2 : ¬ (c : Int) < (k : Int) := by omega
      have HRES := Lib.hid (putL_end (l := l) HZ.out (by rw [ll.out]; exact Nat.le_refl _))
      go_wp2_with fail
      go_quiet (fail)
      have HBn := Lib.hid (show Below w1.heap.size w1 (wr.drewN nq) from ⟨HB.out.os, HB.out.tape, HB.out.output, HB.out.size, HB.out.block⟩)
      generalize wr.drewN nq = wv at *
      obtain ⟨A8, hupto, hr8⟩ := Row.run_upto rowL_ok L1.out k (Nat.le_refl _)
      have HOE := Lib.hid (own_empty w1.heap.size wv HBn.out.size)
      have HBE := Lib.hid (HBn.out.alloc HBn.out.size (.cells #[] 45))
      have HR8 := Lib.hid (hr8.below (below_next B0.out HBE.out ⟨rfl, rfl, rfl, rfl⟩))
      clear hr8 x0 x1 x2
      go_wp2_with (at_builtin; go_must (refine Row.wp_append rowL_ok rfl (.tmp 22) (.tmp 25) rfl w1.heap.size _ [] (wv.alloc (.cells #[] 45)) A8 k c (l.take k) rfl HOE.out rfl HR8.out HBE.out.size (by simp; omega) ?_); intro v6 w5 hown6 hg6 _)
      have HB5 := Lib.hid (own_below HOE.out HBE.out (Nat.le_refl _) hg6)
      have HO5 := Lib.hid hown6
      rw [List.nil_append] at HO5
      clear hown6 hg6 HOE HBE hupto
      go_quiet (fail)
      have HBn5 := Lib.hid (show Below w1.heap.size w1 (w5.drewN nq) from ⟨HB5.out.os, HB5.out.tape, HB5.out.output, HB5.out.size, HB5.out.block⟩)
      have HOt := Lib.hid (HO5.out.dr nq)
      change Hid (rowL.Own w1.heap.size (w5.drewN nq) v6 (List.take k l)) at HOt
      generalize w5.drewN nq = wt at *
      have XT := Lib.hid ((HBn5.out.block w.heap.size l0).trans XR.out)
      have HBt := Lib.hid (below_next B0.out HBn5.out ⟨rfl, rfl, rfl, rfl⟩)
      have HSt := Lib.hid HBn5.out.size
      have hkk : k ≤ k := Nat.le_refl _
      have HMM := Lib.hid HM.out.2
      have HTL := Lib.hid (show (l.take k).length ≤ 1000 by rw [List.length_take]; omega)
      obtain ⟨⟨y0, y1, y2⟩, _⟩ := cells3 XT.out
      go_wp2_with fail
      clear y0 y1 y2
      obtain ⟨⟨y0, y1, y2⟩, _⟩ := cells3 XT.out
      refine (rsign_any m _ HMM.out).mono ?_
      rintro e w8 ⟨rfl, rfl⟩
      obtain ⟨A9, hfrom, hr9⟩ := Row.run_from rowL_ok L1.out (k) hkk
      rw [show (((k : Nat)) : Int) = (k : Int) by omega] at hfrom
      rw [Nat.sub_self] at hr9
      simp only [Nat.sub_self] at hfrom
      have HR9 := Lib.hid hr9
      clear hr9
      have ltw := block_lt_of_cell y0
      by_cases hv : val m = 0
      · have s1 : cmpI (val m) 0 = 0 := by rw [hv]; rfl
        rw [s1]
        have HRES2 := Lib.hid (show putL l (a, cu, m) = l.take k ++ l.drop (k) by rw [HRES.out]; unfold putX; rw [if_pos hv, List.append_nil])
        clear HRES s1 hv
        go_wp2_with (at_builtin; go_must (refine Row.wp_append rowL_ok rfl (.tmp 59) (.tmp 62) rfl w1.heap.size _ (l.take k) wt A9 0 (c - (k)) (l.drop (k)) rfl HOt.out rfl (HR9.out.below HBt.out) HSt.out (by have := HTL.out; omega) ?_); intro v9 w9 hown9 hg9 _)
        exact HP.out _ _ (by rw [HRES2.out]; exact hown9.mono (by have := S0.out; omega)) (below_own HBt.out (Nat.le_refl _) hg9 (fun g e => by have := (HOt.out.own g e).1; have := S0.out; omega))
      · have sb : (cmpI (val m) 0 != 0) = true := (sign_zero _).2 hv
        have sb2 : (cmpI (val m) 0 == 0) = false := by rw [bne, Bool.not_eq_true'] at sb; exact sb
        have HRES2 := Lib.hid (show putL l (a, cu, m) = (l.take k ++ [(a, cu, m)]) ++ l.drop (k) by rw [HRES.out]; unfold putX; rw [if_neg hv])
        generalize cmpI (val m) 0 = sg at *
        clear HRES hv
        go_wp2_with (first
          | (at_builtin; refine Row.wp_append1 rowL_ok rfl (.tmp 55) (.tmp 57) rfl w1.heap.size _ (l.take k) wt (a, cu, m) _ _ rfl rfl rfl HOt.out rfl HSt.out (by have := HTL.out; omega) ?_; intro v8 w9 ho8 hg8 _; have HB9 := Lib.hid (below_own HBt.out (Nat.le_refl _) hg8 (fun g e => by have := (HOt.out.own g e).1; have := S0.out; omega)); have HO9 := Lib.hid ho8; have HS9 := Lib.hid (Nat.le_trans HSt.out hg8.size); clear ho8 hg8)
          | (at_builtin; refine Row.wp_append rowL_ok rfl (.tmp 59) (.tmp 62) rfl w1.heap.size _ (l.take k ++ [(a, cu, m)]) w9 A9 0 (c - (k)) (l.drop (k)) rfl HO9.out rfl (HR9.out.below HB9.out) HS9.out (by have := HTL.out; rw [List.length_append, List.length_singleton]; omega) ?_; intro v9 w10 hown9 hg9 _)
          | fail)
        exact HP.out _ _ (by rw [HRES2.out]; exact hown9.mono (by have := S0.out; omega)) (below_own HB9.out (Nat.le_refl _) hg9 (fun g e => by have := (HO9.out.own g e).1; have := S0.out; omega))
end Go.Proofs.YtdnomfekblmnbaaGreatDoor

/- Contract of the reference's Lines. -/
namespace Go.Proofs.YtdnomfekblmnbaaGreatDoor
open Go.RowKit Go.Maps Num

/-- an amount as it stands in a normal form of k short lines -/
def Amk (k : Nat) (y : Ln) : Prop := (y.2.2.length ≤ 13 ∨ ∃ v, y.2.2 = txt v) ∧ (val y.2.2).natAbs ≤ k * num13
theorem Amk.up {k : Nat} {y : Ln} (h : Amk k y) : Amk (k + 1) y := ⟨h.1, by have := h.2; rw [Nat.add_mul]; omega⟩
theorem val_13 {m : List UInt8} (h : m.length ≤ 13) : (val m).natAbs ≤ num13 :=
  Nat.le_of_lt (Nat.lt_of_lt_of_le (val_bd _) (Nat.pow_le_pow_right (by omega) h))
theorem putL_amk {k : Nat} {l : List Ln} {x : Ln} (h : ∀ y ∈ l, Amk k y) (hx : x.2.2.length ≤ 13) : (putL l x).length ≤ l.length + 1 ∧ ∀ y ∈ putL l x, Amk (k + 1) y := by
  have hx1 := val_13 hx
  have hX : Amk (k + 1) x := ⟨.inl hx, by rw [Nat.add_mul]; omega⟩
  induction l with
  | nil =>
    unfold putL
    split
    · exact ⟨by simp, fun y hy => by cases hy⟩
    · exact ⟨by simp, fun y hy => by rw [List.mem_singleton.1 hy]; exact hX⟩
  | cons z r ih =>
    obtain ⟨i1, i2⟩ := ih fun y hy => h y (List.mem_cons_of_mem _ hy)
    have hz := h z (by simp)
    have hr := fun y hy => (h y (List.mem_cons_of_mem _ hy)).up
    unfold putL
    split
    · refine ⟨by simp only [List.length_cons]; omega, fun y hy => ?_⟩
      rcases List.mem_cons.1 hy with rfl | hy
      · exact hz.up
      · exact i2 y hy
    · split
      · split
        · exact ⟨by simp only [List.length_cons]; omega, hr⟩
        · refine ⟨by simp, fun y hy => ?_⟩
          rcases List.mem_cons.1 hy with rfl | hy
          · refine ⟨.inr ⟨_, rfl⟩, ?_⟩
            simp only [val_txt]
            have := hz.2
            rw [Nat.add_mul]; omega
          · exact hr y hy
      · split
        · refine ⟨by simp, fun y hy => ?_⟩
          rcases List.mem_cons.1 hy with rfl | hy
          · exact hz.up
          · exact hr y hy
        · refine ⟨by simp, fun y hy => ?_⟩
          rcases List.mem_cons.1 hy with rfl | hy
          · exact hX
          · rcases List.mem_cons.1 hy with rfl | hy
            · exact hz.up
            · exact hr y hy
theorem nrmL_amk (l : List Ln) (hl : ∀ x ∈ l, x.2.2.length ≤ 13) (k : Nat) (hk : k ≤ l.length) : (nrmL (l.take k)).length ≤ k ∧ ∀ y ∈ nrmL (l.take k), Amk k y := by
  induction k with
  | zero => exact ⟨by simp [nrmL], fun y hy => by simp [nrmL] at hy⟩
  | succ k ih =>
    obtain ⟨i1, i2⟩ := ih (by omega)
    rw [take_ln l k (by omega), nrmL_snoc]
    obtain ⟨p1, p2⟩ := putL_amk i2 (hl _ (lnAt_mem l k (by omega)))
    exact ⟨by omega, p2⟩
theorem amk_short {k : Nat} {y : Ln} (h : Amk k y) (hk : k ≤ 1000) : (dgs y.2.2).length ≤ 17 ∧ y.2.2.length ≤ 1000000 := by
  obtain ⟨h1, h2⟩ := h
  rcases h1 with h1 | ⟨v, h1⟩
  · exact ⟨dgs_13 h1, by omega⟩
  · rw [h1, val_txt] at h2
    have h3 : k * num13 ≤ 1000 * num13 := Nat.mul_le_mul_right _ hk
    have h4 : 1000 * num13 < 10 ^ 17 := by decide
    have h5 : v.natAbs < 10 ^ 17 := by omega
    rw [h1]
    exact ⟨dgs_txt_len h5, by have := txt_bd h5; omega⟩
theorem amk_100 {k : Nat} {y : Ln} (h : Amk k y) (hk : k ≤ 1000) : y.2.2.length ≤ 20 := by
  obtain ⟨h1, h2⟩ := h
  rcases h1 with h1 | ⟨v, h1⟩
  · omega
  · rw [h1, val_txt] at h2
    have h3 : k * num13 ≤ 1000 * num13 := Nat.mul_le_mul_right _ hk
    have h4 : 1000 * num13 < 10 ^ 17 := by decide
    have := txt_bd (show v.natAbs < 10 ^ 17 by omega)
    rw [h1]; omega
def LinesP (l : List Ln) (w : World) (e : Ending) (w' : World) : Prop := ∃ v, e = .returned v ∧ rowL.Own w.heap.size w' v (nrmL l) ∧ Below w.heap.size w w'
set_option maxRecDepth 100000 in
set_option maxHeartbeats 4000000 in
theorem rlines_any (A : Option Addr) (n c : Nat) (l : List Ln) (w : World) (hl : rowL.Rds w A n c l) (hn : n ≤ 1000) (hs : ∀ x ∈ l, x.2.2.length ≤ 13) : Calls Tryz.prog 68 #[.slice A n c] w (LinesP l w) := by
  have ll := Lib.hid hl.len
  have HP := Lib.hid (fun W v (h : rowL.Own w.heap.size W v (nrmL l)) (hb : Below w.heap.size w W) => (show LinesP l w (.returned v) W from ⟨v, rfl, h, hb⟩))
  generalize LinesP l w = Post at *
  have L1 := Lib.hid hl
  have HS := Lib.hid hs
  have O0 := Lib.hid (own_empty w.heap.size w (Nat.le_refl _))
  have B0 := Lib.hid ((Below.refl w.heap.size w).alloc (Nat.le_refl _) (.cells #[] 45))
  clear hl hs
  go_enter Tryz.func68, Tryz.ntmps68
  go_wp2_with fail
  go_loopw [3, 4] (fun v i wr => ∃ k : Nat, k ≤ n ∧ i = .int .i64 (k : Int) ∧ Hid (rowL.Own w.heap.size wr v (nrmL (l.take k))) ∧ Hid (Below w.heap.size w wr)) (fun _ i _ => n - (intOf i).toNat)
  case atStart => exact ⟨0, by omega, rfl, O0, B0⟩
  case round =>
    obtain ⟨k, hk, rfl, HO, HB⟩ := hrel
    by_cases hlt : k < n
    · have hkl : k < l.length := by rw [ll.out]; exact hlt
      obtain ⟨b1, o1, rfl, hb1, _⟩ := L1.out.at_ (by omega)
      obtain ⟨p0, p1, p2⟩ := rds3 (L1.out.below HB.out) k hlt
      have hki : (k : Int) < (n : Int) := by omega
      obtain ⟨A3, c3, rfl, hr3⟩ := HO.out.rds
      obtain ⟨a1, a2⟩ := nrmL_amk l HS.out k (by omega)
      have h13 := HS.out _ (lnAt_mem l k hkl)
      have e := nrmL_snoc (l.take k) (l.getD k ln0)
      rw [← take_ln l k hkl] at e
      generalize l.getD k ln0 = y at *
      obtain ⟨ya, yc, ym⟩ := y
      simp only at p0 p1 p2 h13
      have HPU := Lib.hid (rput_any A3 _ c3 (nrmL (l.take k)) ya yc ym wr hr3 (by omega) (fun y hy => amk_short (a2 y hy) (by omega)) (dgs_13 h13) (by omega))
      unfold PutP at HPU
      rw [← e] at HPU
      clear a1 a2 e h13 hr3 hkl
      go_wp2_with fail
      refine HPU.out.mono ?_
      rintro e w' ⟨v, rfl, ho, hb⟩
      have HO2 := Lib.hid (ho.mono HB.out.size)
      have HB2 := Lib.hid (HB.out.trans (hb.mono HB.out.size))
      clear ho hb HPU HO
      go_wp2_with fail
      go_roundw
      case rel => exact ⟨k + 1, by omega, by go_num, HO2, HB2⟩
      case measure => simp [intOf]; omega
    · have hkn : k = n := by omega
      subst hkn
      have e : l.take k = l := List.take_of_length_le (by rw [ll.out]; exact Nat.le_refl _)
      rw [e] at HO
      have hki : ¬ (k : Int) < (k : Int) := by omega
      clear e
      go_wp2_with fail
      exact HP.out _ _ HO.out HB.out
end Go.Proofs.YtdnomfekblmnbaaGreatDoor

/- Contract of the reference's Normal. -/
namespace Go.Proofs.YtdnomfekblmnbaaGreatDoor
open Go.RowKit Go.Maps Num

def Acc (y : Ln) : Prop := y.1.length ≤ 1000 ∧ y.2.1.length ≤ 1000
theorem putL_acc {l : List Ln} {x : Ln} (h : ∀ y ∈ l, Acc y) (hx : Acc x) : ∀ y ∈ putL l x, Acc y := by
  induction l with
  | nil =>
    unfold putL
    split
    · intro y hy; cases hy
    · intro y hy; rw [List.mem_singleton.1 hy]; exact hx
  | cons z r ih =>
    have i2 := ih fun y hy => h y (List.mem_cons_of_mem _ hy)
    have hz := h z (by simp)
    have hr := fun y hy => h y (List.mem_cons_of_mem _ hy)
    unfold putL
    split
    · intro y hy
      rcases List.mem_cons.1 hy with rfl | hy
      · exact hz
      · exact i2 y hy
    · split
      · split
        · exact hr
        · intro y hy
          rcases List.mem_cons.1 hy with rfl | hy
          · exact hx
          · exact hr y hy
      · split
        · exact h
        · intro y hy
          rcases List.mem_cons.1 hy with rfl | hy
          · exact hx
          · exact h y hy
theorem nrmL_acc (l : List Ln) (hl : ∀ x ∈ l, Acc x) (k : Nat) (hk : k ≤ l.length) : ∀ y ∈ nrmL (l.take k), Acc y := by
  induction k with
  | zero => intro y hy; simp [nrmL] at hy
  | succ k ih =>
    rw [take_ln l k (by omega), nrmL_snoc]
    exact putL_acc (ih (by omega)) (hl _ (lnAt_mem l k (by omega)))
theorem nrmL_small {l : List Ln} (h : ∀ x ∈ l, Sml x) (h13 : ∀ x ∈ l, x.2.2.length ≤ 13) (hn : l.length ≤ 1000) : (nrmL l).length ≤ l.length ∧ ∀ y ∈ nrmL l, Sml y := by
  have e : l.take l.length = l := List.take_length
  have h1 := nrmL_amk l h13 l.length (Nat.le_refl _)
  have h2 := nrmL_acc l (fun x hx => ⟨(h x hx).1, (h x hx).2.1⟩) l.length (Nat.le_refl _)
  rw [e] at h1 h2
  exact ⟨h1.1, fun y hy => ⟨(h2 y hy).1, (h2 y hy).2, by have := amk_100 (h1.2 y hy) hn; omega⟩⟩
set_option maxRecDepth 100000 in
set_option maxHeartbeats 8000000 in
theorem rnrm_any (d : Int) (cz : List UInt8) (A : Option Addr) (n c : Nat) (l : List Ln) (w : World) (hl : Lns w A n c l) (hcz : cz.length ≤ maxLen) (hs : ∀ x ∈ l, x.2.2.length ≤ 13) :
    Calls Tryz.prog 22 #[.agg (enV d cz A n c)] w (NrmPost d cz l w) := by
  have hn := hl.small
  have ll := Lib.hid hl.len
  have hB0 : Below w.heap.size w ((w.alloc (.cells #[.int .i64 d, .string ⟨cz.toArray⟩, .slice A n c] 32)).alloc (.cells #[.int .i64 0, .string ⟨#[]⟩, .slice none 0 0] 32)) := ((Below.refl _ w).alloc (Nat.le_refl _) _).alloc (by simp) _
  have y0 : ((w.alloc (.cells #[.int .i64 d, .string ⟨cz.toArray⟩, .slice A n c] 32)).alloc (.cells #[.int .i64 0, .string ⟨#[]⟩, .slice none 0 0] 32)).heap[w.heap.size]? = some (.cells #[.int .i64 d, .string ⟨cz.toArray⟩, .slice A n c] 32) := by
    rw [heap_alloc_old _ _ (by simp)]; exact heap_alloc_new w _
  have y1 : ((w.alloc (.cells #[.int .i64 d, .string ⟨cz.toArray⟩, .slice A n c] 32)).alloc (.cells #[.int .i64 0, .string ⟨#[]⟩, .slice none 0 0] 32)).heap[w.heap.size + 1]? = some (.cells #[.int .i64 0, .string ⟨#[]⟩, .slice none 0 0] 32) := by
    have := heap_alloc_new (w.alloc (.cells #[.int .i64 d, .string ⟨cz.toArray⟩, .slice A n c] 32)) (.cells #[.int .i64 0, .string ⟨#[]⟩, .slice none 0 0] 32)
    rwa [show (w.alloc (.cells #[.int .i64 d, .string ⟨cz.toArray⟩, .slice A n c] 32)).heap.size = w.heap.size + 1 by simp] at this
  have hsz : ((w.alloc (.cells #[.int .i64 d, .string ⟨cz.toArray⟩, .slice A n c] 32)).alloc (.cells #[.int .i64 0, .string ⟨#[]⟩, .slice none 0 0] 32)).heap.size = w.heap.size + 2 := by simp
  have HCH := Lib.hid (fun W => rhead_any d cz A n c W hcz)
  have hI := Lib.hid (show nrmI d cz l = if headI d cz ≠ 0 then headI d cz else if fldI l ≠ 0 then fldI l else if balB l = false then 14 else if 64 < (nrmL l).length then 4 else 0 from rfl)
  have HBAD := Lib.hid (fun W e r hz hb h0 hne he => nrm_bad (d := d) (cz := cz) (l := l) (w := w) (W := W) (e := e) (r := r) hz hb h0 hne he)
  have HGOOD := Lib.hid (fun W A' c' (hb : Below w.heap.size w W) (h0 : nrmI d cz l = 0) (hL : Lns W A' (nrmL l).length c' (nrmL l)) => (show NrmPost d cz l w (.returned (.tuple #[.agg (enV d cz A' (nrmL l).length c'), .int .i64 0])) W from ⟨hb, by rw [if_pos h0]; exact ⟨A', c', rfl, hL⟩⟩))
  have HSM := Lib.hid (nrmL_small hl.sml hs (by rw [hl.len]; exact hn))
  have HB0 := Lib.hid hB0
  have Y0 := Lib.hid y0
  have Y1 := Lib.hid y1
  have HZ := Lib.hid hsz
  have L1 := Lib.hid hl
  have HS := Lib.hid hs
  clear hB0 y0 y1 hl hs hsz
  generalize NrmPost d cz l w = Post at *
  generalize nrmI d cz l = ri at *
  generalize headI d cz = hd at *
  unfold enV at HBAD HGOOD ⊢
  go_enter Tryz.func22, Tryz.ntmps22
  go_wp2_with fail
  refine (HCH.out _).mono ?_
  rintro e w1 ⟨rfl, hb1⟩
  have HB1 := Lib.hid (below_next HB0.out hb1 ⟨rfl, rfl, rfl, rfl⟩)
  have z0 := (hb1.block w.heap.size (by rw [HZ.out]; omega)).trans Y0.out
  have z1 := (hb1.block (w.heap.size + 1) (by rw [HZ.out]; omega)).trans Y1.out
  have hs1 : w.heap.size + 2 ≤ w1.heap.size := by have := hb1.size; rw [HZ.out] at this; exact this
  have Z0 := Lib.hid z0
  have Z1 := Lib.hid (show Z3 w w1 from z1)
  obtain ⟨⟨c00, c01, c02⟩, _⟩ := cells3 z0
  clear HCH Y0 Y1 HZ hb1 HB0 z0
  by_cases hz : hd = 0
  case neg =>
    have hzb : (hd == 0) = false := beq_eq_false_iff_ne.2 hz
    have hzb' : (hd != 0) = true := by rw [bne_iff_ne]; exact hz
    have hr := Lib.hid (show ri = hd by rw [hI.out, if_pos hz])
    obtain ⟨⟨c10, c11, c12⟩, f10, f11, f12⟩ := cells3 z1
    obtain ⟨⟨g10, g11, g12⟩, _⟩ := cells3 (set3 z1 (.int .i64 0) (.string ⟨#[]⟩) (.slice none 0 0))
    clear z1
    go_wp2_with fail
    exact bodyPost_ret (v := .tuple #[.agg #[.int .i64 0, .string ⟨#[]⟩, .slice none 0 0], .int .i64 hd]) (by simp [results, Tryz.results22, go_sem, g10, g11, g12]) rfl (HBAD.out w1 _ hd Z1.out HB1.out hr.out hz rfl)
  clear z1
  have hI2 := Lib.hid (show ri = if fldI l ≠ 0 then fldI l else if balB l = false then 14 else if 64 < (nrmL l).length then 4 else 0 by rw [hI.out, if_neg (by omega)])
  subst hz
  clear hI
  have hh := Lib.hid (fun W (h : Below w1.heap.size w1 W) => below_next HB1.out h ⟨rfl, rfl, rfl, rfl⟩)
  have R0 := Lib.hid (show fldI l = fldI (l.drop 0) ∧ Below w1.heap.size w1 w1 from ⟨by rw [List.drop_zero], Below.refl _ _⟩)
  go_wp2_with fail
  go_loopw [5, 6] (fun i _ wr => ∃ k : Nat, k ≤ n ∧ i = .int .i64 (k : Int) ∧ Hid (fldI l = fldI (l.drop k) ∧ Below w1.heap.size w1 wr)) (fun i _ _ => n - (intOf i).toNat)
  case atStart => exact ⟨0, by omega, rfl, R0⟩
  case round =>
    clear R0
    obtain ⟨k, hk, rfl, hR⟩ := hrel
    have HF := Lib.hid hR.out.1
    have HC := Lib.hid hR.out.2
    have HB := Lib.hid (hh.out _ HC.out)
    clear hR
    have a02 := (HC.out.cell (p := ⟨w.heap.size, 2, none⟩) (block_lt_of_cell c02)).trans c02
    by_cases hlt : k < n
    · have hkl : k < l.length := by rw [ll.out]; exact hlt
      obtain ⟨b1, o1, rfl, hb1, hc1⟩ := L1.out.at_ (by omega)
      obtain ⟨q0, q1, q2⟩ := hc1 k hlt
      have r0 := (HB.out.cell (p := ⟨b1, o1 + k * 3, none⟩) hb1).trans q0
      have r1 := (HB.out.cell (p := ⟨b1, o1 + k * 3 + 1, none⟩) hb1).trans q1
      have r2 := (HB.out.cell (p := ⟨b1, o1 + k * 3 + 2, none⟩) hb1).trans q2
      have hsx := Lib.hid (L1.out.sml _ (lnAt_mem l k hkl))
      have hki : (k : Int) < (n : Int) := by omega
      have hgo := Lib.hid (fun h => N1R.step_fld hkl HF.out h)
      have hbd := Lib.hid (fun h => N1R.bad_fld hkl HF.out h)
      clear q0 q1 q2 hc1 hkl
      generalize l.getD k ln0 = x at *
      obtain ⟨a, cu, m⟩ := x
      have CL := Lib.hid (fun W => rfld_any a cu m W hsx.out)
      simp only at r0 r1 r2
      generalize hli : lineI (a, cu, m) = li at *
      go_wp2_with fail
      refine (CL.out _).mono ?_
      rintro e w2 ⟨rfl, hb⟩
      have HB3 := Lib.hid (below_next HB.out hb ⟨rfl, rfl, rfl, rfl⟩)
      have HC3 := Lib.hid (below_next HC.out hb ⟨rfl, rfl, rfl, rfl⟩)
      clear hb CL
      by_cases hz : li = 0
      case neg =>
        have hzb : (li == 0) = false := beq_eq_false_iff_ne.2 hz
        have hzb' : (li != 0) = true := by rw [bne_iff_ne]; exact hz
        have hr := Lib.hid (show ri = li by
          have := hbd.out hz
          rw [hI2.out, if_pos (by rw [this]; exact hz), this])
        have z1 := (HC3.out.block (w.heap.size + 1) (by omega)).trans Z1.out
        obtain ⟨⟨c10, c11, c12⟩, f10, f11, f12⟩ := cells3 z1
        obtain ⟨⟨g10, g11, g12⟩, _⟩ := cells3 (set3 z1 (.int .i64 0) (.string ⟨#[]⟩) (.slice none 0 0))
        have Z2 := Lib.hid (show Z3 w w2 from z1)
        clear z1
        go_wp2_with fail
        exact bodyPost_ret (v := .tuple #[.agg #[.int .i64 0, .string ⟨#[]⟩, .slice none 0 0], .int .i64 li]) (by simp [results, Tryz.results22, go_sem, g10, g11, g12]) rfl (HBAD.out w2 _ li Z2.out HB3.out hr.out hz rfl)
      subst hz
      have RR := Lib.hid (show fldI l = fldI (l.drop (k + 1)) ∧ Below w1.heap.size w1 w2 from ⟨hgo.out rfl, HC3.out⟩)
      clear hgo hbd hli
      go_wp2_with fail
      go_roundw
      case rel => exact ⟨k + 1, by omega, by go_num, RR⟩
      case measure => simp [intOf]; omega
    · obtain ⟨wq, hwq⟩ : ∃ wq, wq = wr := ⟨_, rfl⟩
      subst hwq
      have hkn : k = n := by omega
      subst hkn
      have hI3 := Lib.hid (show ri = if balB l = false then 14 else if 64 < (nrmL l).length then 4 else 0 by
        have h0 : fldI l = 0 := by rw [HF.out, List.drop_of_length_le (by rw [ll.out]; exact Nat.le_refl _)]; rfl
        rw [hI2.out, if_neg (by rw [h0]; decide)])
      have hki : ¬ (k : Int) < (k : Int) := by omega
      have hbal := Lib.hid (rbal_any A k c l wq (L1.out.below HB.out) HS.out)
      clear HF hI2
      generalize balB l = bb at *
      go_wp2_with fail
      refine hbal.out.mono ?_
      rintro e w3 ⟨rfl, hb⟩
      have HB3 := Lib.hid (below_next HB.out hb ⟨rfl, rfl, rfl, rfl⟩)
      have HC3 := Lib.hid (below_next HC.out hb ⟨rfl, rfl, rfl, rfl⟩)
      clear hb hbal a02
      have Z2x := (HC3.out.block (w.heap.size + 1) (by omega)).trans Z1.out
      have hr0 := (HC3.out.block w.heap.size (by omega)).trans Z0.out
      obtain ⟨⟨a00, a01, a02⟩, _⟩ := cells3 hr0
      cases bb
      · have hr := Lib.hid (show ri = 14 by rw [hI3.out, if_pos rfl])
        obtain ⟨⟨c10, c11, c12⟩, f10, f11, f12⟩ := cells3 Z2x
        obtain ⟨⟨g10, g11, g12⟩, _⟩ := cells3 (set3 Z2x (.int .i64 0) (.string ⟨#[]⟩) (.slice none 0 0))
        have Z2 := Lib.hid (show Z3 w w3 from Z2x)
        clear Z2x hr0
        go_wp2_with fail
        exact bodyPost_ret (v := .tuple #[.agg #[.int .i64 0, .string ⟨#[]⟩, .slice none 0 0], .int .i64 14]) (by simp [results, Tryz.results22, go_sem, g10, g11, g12]) rfl (HBAD.out w3 _ 14 Z2.out HB3.out hr.out (by decide) rfl)
      have hI4 := Lib.hid (show ri = if 64 < (nrmL l).length then 4 else 0 by rw [hI3.out, if_neg (by decide)])
      have HLN := Lib.hid (rlines_any A k c l w3 (L1.out.below HB3.out).rds hn HS.out)
      clear Z2x hr0 hI3
      go_wp2_with fail
      refine HLN.out.mono ?_
      rintro e w4 ⟨v4, rfl, ho, hb⟩
      have HB4 := Lib.hid (below_next HB3.out hb ⟨rfl, rfl, rfl, rfl⟩)
      have HC4 := Lib.hid (below_next HC3.out hb ⟨rfl, rfl, rfl, rfl⟩)
      clear hb HLN a00 a01 a02
      obtain ⟨A2, c2, rfl, hrd⟩ := ho.rds
      have z1 := (HC4.out.block (w.heap.size + 1) (by omega)).trans Z1.out
      have hr0 := (HC4.out.block w.heap.size (by omega)).trans Z0.out
      obtain ⟨⟨a00, a01, a02⟩, _⟩ := cells3 hr0
      have Z4 := Lib.hid (show Z3 w w4 from z1)
      have h3w := HC3.out.size
      have HO := Lib.hid ho
      obtain ⟨N, hNe⟩ : ∃ N, (nrmL l).length = N := ⟨_, rfl⟩
      rw [hNe] at hI4 HGOOD HO HSM ⊢
      have HNE := Lib.hid hNe
      clear hNe ho hrd
      by_cases h64 : 64 < N
      · have h64i : decide (64 < (N : Int)) = true := by rw [decide_eq_true_iff]; omega
        have hr := Lib.hid (show ri = 4 by rw [hI4.out, if_pos h64])
        obtain ⟨⟨c10, c11, c12⟩, f10, f11, f12⟩ := cells3 z1
        obtain ⟨⟨g10, g11, g12⟩, _⟩ := cells3 (set3 z1 (.int .i64 0) (.string ⟨#[]⟩) (.slice none 0 0))
        clear z1 h64
        go_wp2_with fail
        exact bodyPost_ret (v := .tuple #[.agg #[.int .i64 0, .string ⟨#[]⟩, .slice none 0 0], .int .i64 4]) (by simp [results, Tryz.results22, go_sem, g10, g11, g12]) rfl (HBAD.out w4 _ 4 Z4.out HB4.out hr.out (by decide) rfl)
      · have h64i : decide (64 < (N : Int)) = false := by rw [decide_eq_false_iff_not]; omega
        have hr := Lib.hid (show ri = 0 by rw [hI4.out, if_neg h64])
        obtain ⟨⟨c10, c11, c12⟩, f10, f11, f12⟩ := cells3 z1
        obtain ⟨⟨g10, g11, g12⟩, _⟩ := cells3 (set3 z1 (.int .i64 d) (.string ⟨cz.toArray⟩) (.slice A2 N c2))
        have hrr : ∀ k, some (w.heap.size + 1) = some k → k < w3.heap.size := fun k e => by have := Option.some.inj e; omega
        have hof := ((HO.out.kept (grown_setCell w4 ⟨w.heap.size + 1, 0, none⟩ (.int .i64 d)) hrr).kept (grown_setCell _ ⟨w.heap.size + 1, 1, none⟩ (.string ⟨cz.toArray⟩)) hrr).kept (grown_setCell _ ⟨w.heap.size + 1, 2, none⟩ (.slice A2 N c2)) hrr
        obtain ⟨A9, c9, e9, hr9⟩ := hof.rds
        rw [HNE.out] at e9 hr9
        injection e9 with e1 e2 e3
        subst e1 e3
        have HL9 := Lib.hid (Lns.of_rds hr9 (by have := HSM.out.1; have := ll.out; omega) HSM.out.2)
        have HB9 := Lib.hid (below_set3 HB4.out (b := w.heap.size + 1) (by omega) (.int .i64 d) (.string ⟨cz.toArray⟩) (.slice A2 N c2))
        clear z1 hof hr9 e2
        go_wp2_with fail
        exact bodyPost_ret (v := .tuple #[.agg #[.int .i64 d, .string ⟨cz.toArray⟩, .slice A2 N c2], .int .i64 0]) (by simp [results, Tryz.results22, go_sem, g10, g11, g12]) rfl (HGOOD.out _ A2 c2 HB9.out hr.out HL9.out)
end Go.Proofs.YtdnomfekblmnbaaGreatDoor

/- Contract of the reference's Amount. -/
namespace Go.Proofs.YtdnomfekblmnbaaGreatDoor
open Go.RowKit Go.Maps Num

theorem tot_13 (l : List Ln) (h : ∀ x ∈ l, x.2.2.length ≤ 13) (k : Ky) : (tot l k).natAbs ≤ l.length * num13 := by
  induction l with
  | nil => simp [tot]
  | cons x r ih =>
    have h1 := val_13 (h x (by simp))
    have h2 := ih fun y hy => h y (List.mem_cons_of_mem _ hy)
    rw [tot_cons, List.length_cons, Nat.add_mul]
    split <;> omega
/-- the amount of a place over the first k lines -/
def amtK (l : List Ln) (q : Ky) (k : Nat) : List UInt8 := txt (tot (l.take k) q)
theorem amtK_zero (l : List Ln) (q : Ky) : amtK l q 0 = [] := txt_zero
theorem amtK_next (l : List Ln) (q : Ky) (k : Nat) (h : k < l.length) : amtK l q (k + 1) = if key (l.getD k ln0) = q then txt (val (amtK l q k) + val (l.getD k ln0).2.2) else amtK l q k := by
  unfold amtK
  rw [take_ln l k h, tot_snoc, val_txt]
  split
  · rfl
  · rw [Int.add_zero]
theorem amtK_sm (l : List Ln) (q : Ky) (k : Nat) (h : ∀ x ∈ l, x.2.2.length ≤ 13) (hn : l.length ≤ 1000) : (dgs (amtK l q k)).length ≤ 17 ∧ (amtK l q k).length ≤ 1000000 := by
  have h1 := tot_13 (l.take k) (fun x hx => h x (List.mem_of_mem_take hx)) q
  have h2 : (l.take k).length * num13 ≤ 1000 * num13 := Nat.mul_le_mul_right _ (by rw [List.length_take]; omega)
  have h3 : 1000 * num13 < 10 ^ 17 := by decide
  have h4 : (tot (l.take k) q).natAbs < 10 ^ 17 := by omega
  exact ⟨dgs_txt_len h4, by have := txt_bd h4; unfold amtK; omega⟩
set_option maxRecDepth 100000 in
set_option maxHeartbeats 4000000 in
theorem ramt_any (d : Int) (cz : List UInt8) (A : Option Addr) (n c : Nat) (l : List Ln) (ka kc : List UInt8) (w : World) (hl : Lns w A n c l) (hs : ∀ x ∈ l, x.2.2.length ≤ 13) :
    Calls Tryz.prog 27 #[.agg (enV d cz A n c), .string ⟨ka.toArray⟩, .string ⟨kc.toArray⟩] w (StrPost (txt (tot l (ka, kc))) w) := by
  have hn := hl.small
  have ll := Lib.hid hl.len
  have hB0 : Below w.heap.size w (w.alloc (.cells #[.int .i64 d, .string ⟨cz.toArray⟩, .slice A n c] 32)) := (Below.refl _ w).alloc (Nat.le_refl _) _
  have hx : (w.alloc (.cells #[.int .i64 d, .string ⟨cz.toArray⟩, .slice A n c] 32)).cell? ⟨w.heap.size, 2, none⟩ = some (.slice A n c) := by go_simp
  have HP := Lib.hid (fun W (hb : Below w.heap.size w W) => (show StrPost (txt (tot l (ka, kc))) w (.returned (.string ⟨(amtK l (ka, kc) n).toArray⟩)) W from ⟨by unfold amtK; rw [List.take_of_length_le (by rw [hl.len]; exact Nat.le_refl _)], hb⟩))
  generalize StrPost (txt (tot l (ka, kc))) w = Post at *
  have B0 := Lib.hid hB0
  have X0 := Lib.hid hx
  have L1 := Lib.hid hl
  have HS := Lib.hid hs
  have Z0 := Lib.hid (amtK_zero l (ka, kc))
  clear hl hs hB0
  unfold enV
  go_enter Tryz.func27, Tryz.ntmps27
  go_wp2_with fail
  generalize w.alloc (.cells #[.int .i64 d, .string ⟨cz.toArray⟩, .slice A n c] 32) = w1 at *
  clear hx
  go_loopw [7, 8] (fun s i wr => ∃ k : Nat, k ≤ n ∧ i = .int .i64 (k : Int) ∧ s = .string ⟨(amtK l (ka, kc) k).toArray⟩ ∧ Hid (Below w1.heap.size w1 wr)) (fun _ i _ => n - (intOf i).toNat)
  case atStart => exact ⟨0, by omega, rfl, by rw [Z0.out], Lib.hid (Below.refl _ _)⟩
  case round =>
    obtain ⟨k, hk, rfl, rfl, HC⟩ := hrel
    have HB := Lib.hid (below_next B0.out HC.out ⟨rfl, rfl, rfl, rfl⟩)
    have a02 := (HC.out.cell (p := ⟨w.heap.size, 2, none⟩) (block_lt_of_cell X0.out)).trans X0.out
    by_cases hlt : k < n
    · have hkl : k < l.length := by rw [ll.out]; exact hlt
      obtain ⟨b1, o1, rfl, hb1, hc1⟩ := L1.out.at_ (by omega)
      obtain ⟨q0, q1, q2⟩ := hc1 k hlt
      have r0 := (HB.out.cell (p := ⟨b1, o1 + k * 3, none⟩) hb1).trans q0
      have r1 := (HB.out.cell (p := ⟨b1, o1 + k * 3 + 1, none⟩) hb1).trans q1
      have r2 := (HB.out.cell (p := ⟨b1, o1 + k * 3 + 2, none⟩) hb1).trans q2
      have hki : (k : Int) < (n : Int) := by omega
      have HNX := Lib.hid (amtK_next l (ka, kc) k hkl)
      have HSM := Lib.hid (amtK_sm l (ka, kc) k HS.out (by rw [ll.out]; exact hn))
      have H13 := Lib.hid (HS.out _ (lnAt_mem l k hkl))
      clear q0 q1 q2 hc1 hkl
      generalize l.getD k ln0 = y at *
      obtain ⟨ya, yc, ym⟩ := y
      simp only at r0 r1 r2 HNX H13
      obtain ⟨S2, hS2⟩ : ∃ S2, amtK l (ka, kc) (k + 1) = S2 := ⟨_, rfl⟩
      rw [hS2] at HNX
      have HS2 := Lib.hid hS2
      clear hS2
      by_cases ha : ya = ka
      · subst ha
        by_cases hc : yc = kc
        · subst hc
          have e := HNX.out
          rw [if_pos (show key (ya, yc, ym) = (ya, yc) from rfl)] at e
          have HA := Lib.hid (fun W => radd_any (amtK l (ya, yc) k) ym W HSM.out.2 (by have := H13.out; omega) HSM.out.1 (dgs_13 H13.out))
          unfold RetP at HA
          rw [← e] at HA
          clear e HNX HSM
          generalize amtK l (ya, yc) k = S at *
          go_wp2_with fail
          refine (HA.out _).mono ?_
          rintro e w' ⟨rfl, rfl⟩
          go_wp2_with fail
          go_roundw
          case rel => exact ⟨k + 1, by omega, by go_num, by rw [HS2.out], HC⟩
          case measure => simp [intOf]; omega
        · have hcb : (yc == kc) = false := beq_eq_false_iff_ne.2 hc
          have e := HNX.out
          rw [if_neg (fun h => hc (congrArg Prod.snd h))] at e
          clear HSM
          generalize amtK l (ya, kc) k = S at *
          subst e
          clear HNX
          go_wp2_with fail
          go_roundw
          case rel => exact ⟨k + 1, by omega, by go_num, by rw [HS2.out], HC⟩
          case measure => simp [intOf]; omega
      · have hab : (ya == ka) = false := beq_eq_false_iff_ne.2 ha
        have e := HNX.out
        rw [if_neg (fun h => ha (congrArg Prod.fst h))] at e
        clear HSM
        generalize amtK l (ka, kc) k = S at *
        subst e
        clear HNX
        go_wp2_with fail
        go_roundw
        case rel => exact ⟨k + 1, by omega, by go_num, by rw [HS2.out], HC⟩
        case measure => simp [intOf]; omega
    · have hkn : k = n := by omega
      subst hkn
      have hki : ¬ (k : Int) < (k : Int) := by omega
      generalize amtK l (ka, kc) k = S at *
      go_wp2_with fail
      exact HP.out _ HB.out
end Go.Proofs.YtdnomfekblmnbaaGreatDoor

/- Contract of the reference's SameOne. -/
namespace Go.Proofs.YtdnomfekblmnbaaGreatDoor
open Go.RowKit Go.Maps Num

set_option maxRecDepth 100000 in
set_option maxHeartbeats 4000000 in
theorem rsame1_any (d1 d2 : Int) (c1 c2 : List UInt8) (A B : Option Addr) (n c p d : Nat) (l m : List Ln) (w : World) (hl : Lns w A n c l) (hm : Lns w B p d m) :
    Calls Tryz.prog 25 #[.agg (enV d1 c1 A n c), .agg (enV d2 c2 B p d)] w (BoolPost (decide ((d1, c1, l) = (d2, c2, m))) w) := by
  have hn := hl.small
  have hp := hm.small
  have ll := Lib.hid hl.len
  have lm := Lib.hid hm.len
  have HP := Lib.hid (fun W b (h : decide ((d1, c1, l) = (d2, c2, m)) = b) (hb : Below w.heap.size w W) => (show BoolPost (decide ((d1, c1, l) = (d2, c2, m))) w (.returned (.bool b)) W from ⟨by rw [h], hb⟩))
  have hB0 : Below w.heap.size w ((w.alloc (.cells #[.int .i64 d1, .string ⟨c1.toArray⟩, .slice A n c] 32)).alloc (.cells #[.int .i64 d2, .string ⟨c2.toArray⟩, .slice B p d] 32)) := ((Below.refl _ w).alloc (Nat.le_refl _) _).alloc (by simp) _
  have y0 : ((w.alloc (.cells #[.int .i64 d1, .string ⟨c1.toArray⟩, .slice A n c] 32)).alloc (.cells #[.int .i64 d2, .string ⟨c2.toArray⟩, .slice B p d] 32)).heap[w.heap.size]? = some (.cells #[.int .i64 d1, .string ⟨c1.toArray⟩, .slice A n c] 32) := by
    rw [heap_alloc_old _ _ (by simp)]; exact heap_alloc_new w _
  have y1 : ((w.alloc (.cells #[.int .i64 d1, .string ⟨c1.toArray⟩, .slice A n c] 32)).alloc (.cells #[.int .i64 d2, .string ⟨c2.toArray⟩, .slice B p d] 32)).heap[w.heap.size + 1]? = some (.cells #[.int .i64 d2, .string ⟨c2.toArray⟩, .slice B p d] 32) := by
    have := heap_alloc_new (w.alloc (.cells #[.int .i64 d1, .string ⟨c1.toArray⟩, .slice A n c] 32)) (.cells #[.int .i64 d2, .string ⟨c2.toArray⟩, .slice B p d] 32)
    rwa [show (w.alloc (.cells #[.int .i64 d1, .string ⟨c1.toArray⟩, .slice A n c] 32)).heap.size = w.heap.size + 1 by simp] at this
  have L1 := Lib.hid hl
  have L2 := Lib.hid hm
  have B0 := Lib.hid hB0
  have HR := Lib.hid (show ∀ b, (d1 = d2 ∧ c1 = c2 ∧ l = m ↔ b = true) → decide ((d1, c1, l) = (d2, c2, m)) = b from fun b h => by
    cases b
    · refine decide_eq_false fun e => ?_
      injection e with e1 e2
      injection e2 with e2 e3
      exact absurd (h.1 ⟨e1, e2, e3⟩) (by decide)
    · obtain ⟨e1, e2, e3⟩ := h.2 rfl
      exact decide_eq_true (by rw [e1, e2, e3]))
  clear hl hm hB0
  generalize decide ((d1, c1, l) = (d2, c2, m)) = r at *
  generalize BoolPost r w = Post at *
  unfold enV
  go_enter Tryz.func25, Tryz.ntmps25
  obtain ⟨⟨c00, c01, c02⟩, _⟩ := cells3 y0
  obtain ⟨⟨c10, c11, c12⟩, _⟩ := cells3 y1
  clear y0 y1
  by_cases h1 : d1 = d2
  case neg =>
    have t1 : (d1 == d2) = false := beq_eq_false_iff_ne.2 h1
    have hv := Lib.hid (HR.out false ⟨fun h => absurd h.1 h1, fun h => by cases h⟩)
    clear c00 c01 c02 c10 c11 c12
    go_wp2_with fail
    exact HP.out _ _ hv.out B0.out
  by_cases h2 : c1 = c2
  case neg =>
    have t1 : (c1 == c2) = false := beq_eq_false_iff_ne.2 h2
    have hv := Lib.hid (HR.out false ⟨fun h => absurd h.2.1 h2, fun h => by cases h⟩)
    subst h1
    clear c00 c01 c02 c10 c11 c12
    go_wp2_with fail
    exact HP.out _ _ hv.out B0.out
  by_cases hnp : n = p
  case neg =>
    have t1 : ((n : Int) == (p : Int)) = false := beq_eq_false_iff_ne.2 (by omega)
    have t2 : (n == p) = false := beq_eq_false_iff_ne.2 hnp
    have hv := Lib.hid (HR.out false ⟨fun h => absurd (by rw [← ll.out, ← lm.out, h.2.2]) hnp, fun h => by cases h⟩)
    subst h1 h2
    clear c00 c01 c02 c10 c11 c12
    go_wp2_with fail
    exact HP.out _ _ hv.out B0.out
  subst h1 h2 hnp
  have HR2 := Lib.hid (show ∀ b, (l = m ↔ b = true) → r = b from fun b h => HR.out b ⟨fun e => h.1 e.2.2, fun e => ⟨rfl, rfl, h.2 e⟩⟩)
  clear HR
  go_wp2_with fail
  generalize (w.alloc (.cells #[.int .i64 d1, .string ⟨c1.toArray⟩, .slice A n c] 32)).alloc (.cells #[.int .i64 d1, .string ⟨c1.toArray⟩, .slice B n d] 32) = w1 at *
  have X0 := Lib.hid c02
  have X1 := Lib.hid c12
  have lb0 : w.heap.size < w1.heap.size := block_lt_of_cell c02
  have lb1 : w.heap.size + 1 < w1.heap.size := block_lt_of_cell c12
  clear c00 c01 c02 c10 c11 c12
  go_loopw [5] (fun i wr => ∃ k : Nat, k ≤ n ∧ i = .int .i64 (k : Int) ∧ Hid (l.take k = m.take k) ∧ Hid (Below w1.heap.size w1 wr)) (fun i _ => n - (intOf i).toNat)
  case atStart => exact ⟨0, by omega, rfl, Lib.hid (by simp), Lib.hid (Below.refl _ _)⟩
  case round =>
    obtain ⟨k, hk, rfl, HE, HC⟩ := hrel
    have HB := Lib.hid (below_next B0.out HC.out ⟨rfl, rfl, rfl, rfl⟩)
    have a02 := (HC.out.cell (p := ⟨w.heap.size, 2, none⟩) lb0).trans X0.out
    have a12 := (HC.out.cell (p := ⟨w.heap.size + 1, 2, none⟩) lb1).trans X1.out
    by_cases hlt : k < n
    · obtain ⟨b1, o1, rfl, hb1, hc1⟩ := L1.out.at_ (by omega)
      obtain ⟨b2, o2, rfl, hb2, hc2⟩ := L2.out.at_ (by omega)
      obtain ⟨q0, q1, q2⟩ := hc1 k hlt
      obtain ⟨v0, v1, v2⟩ := hc2 k hlt
      have r0 := (HB.out.cell (p := ⟨b1, o1 + k * 3, none⟩) hb1).trans q0
      have r1 := (HB.out.cell (p := ⟨b1, o1 + k * 3 + 1, none⟩) hb1).trans q1
      have r2 := (HB.out.cell (p := ⟨b1, o1 + k * 3 + 2, none⟩) hb1).trans q2
      have s0 := (HB.out.cell (p := ⟨b2, o2 + k * 3, none⟩) hb2).trans v0
      have s1 := (HB.out.cell (p := ⟨b2, o2 + k * 3 + 1, none⟩) hb2).trans v1
      have s2 := (HB.out.cell (p := ⟨b2, o2 + k * 3 + 2, none⟩) hb2).trans v2
      have hki : (k : Int) < (n : Int) := by omega
      have hk0 : (0 : Int) ≤ (k : Int) := by omega
      have t1 := Lib.hid (take_ln l k (by rw [ll.out]; exact hlt))
      have t2 := Lib.hid (take_ln m k (by rw [lm.out]; exact hlt))
      have HD := Lib.hid (show l.getD k ln0 ≠ m.getD k ln0 → l ≠ m from fun h e => h (by rw [e]))
      clear q0 q1 q2 v0 v1 v2 hc1 hc2
      generalize l.getD k ln0 = x at *
      generalize m.getD k ln0 = y at *
      obtain ⟨a, cu, u⟩ := x
      obtain ⟨a', cu', u'⟩ := y
      simp only at r0 r1 r2 s0 s1 s2
      by_cases hxy : (a, cu, u) = (a', cu', u')
      · injection hxy with h1 h2
        injection h2 with h2 h3
        subst h1 h2 h3
        have HE2 := Lib.hid (show l.take (k + 1) = m.take (k + 1) by rw [t1.out, t2.out, HE.out])
        clear t1 t2 HD
        go_wp2_with fail
        go_quiet (fail)
        have HC2 := Lib.hid (below_dr HC.out nq)
        go_wp2_with fail
        go_roundw
        case rel => exact ⟨k + 1, by omega, by go_num, HE2, HC2⟩
        case measure => simp [intOf]; omega
      · have hv := Lib.hid (HR2.out false ⟨fun e => absurd e (HD.out hxy), fun h => by cases h⟩)
        clear t1 t2 HD
        by_cases h1 : a = a'
        · subst h1
          by_cases h2 : cu = cu'
          · subst h2
            have h3 : u ≠ u' := fun e => hxy (by rw [e])
            have e3 : (u == u') = false := beq_eq_false_iff_ne.2 h3
            clear hxy
            go_wp2_with fail
            go_quiet (fail)
            have HB2 := Lib.hid (below_dr HB.out nq)
            go_wp2_with fail
            exact HP.out _ _ hv.out HB2.out
          · have e2 : (cu == cu') = false := beq_eq_false_iff_ne.2 h2
            clear hxy
            go_wp2_with fail
            go_quiet (fail)
            have HB2 := Lib.hid (below_dr HB.out nq)
            go_wp2_with fail
            exact HP.out _ _ hv.out HB2.out
        · have e1 : (a == a') = false := beq_eq_false_iff_ne.2 h1
          clear hxy
          go_wp2_with fail
          go_quiet (fail)
          have HB2 := Lib.hid (below_dr HB.out nq)
          go_wp2_with fail
          exact HP.out _ _ hv.out HB2.out
    · have hkn : k = n := by omega
      subst hkn
      have hki : ¬ (k : Int) < (k : Int) := by omega
      have e := HE.out
      rw [List.take_of_length_le (by rw [ll.out]; exact Nat.le_refl _), List.take_of_length_le (by rw [lm.out]; exact Nat.le_refl _)] at e
      have hv := Lib.hid (HR2.out true ⟨fun _ => rfl, fun _ => e⟩)
      clear e HE
      go_wp2_with fail
      exact HP.out _ _ hv.out HB.out
end Go.Proofs.YtdnomfekblmnbaaGreatDoor

/- Contract of the reference's Same. -/
namespace Go.Proofs.YtdnomfekblmnbaaGreatDoor
open Go.RowKit Go.Maps Num

set_option maxRecDepth 100000 in
set_option maxHeartbeats 4000000 in
theorem rsame_any (A B : Option Addr) (n c p d : Nat) (l m : List En) (w : World) (hl : Ens w A n c l) (hm : Ens w B p d m) :
    Calls Tryz.prog 16 #[.slice A n c, .slice B p d] w (BoolPost (decide (l = m)) w) := by
  have hn := hl.small
  have hp := hm.small
  have ll := Lib.hid hl.len
  have lm := Lib.hid hm.len
  have L1 := Lib.hid hl
  have L2 := Lib.hid hm
  have HP := Lib.hid (fun W b (h : decide (l = m) = b) (hb : Below w.heap.size w W) => (show BoolPost (decide (l = m)) w (.returned (.bool b)) W from ⟨by rw [h], hb⟩))
  have HT := Lib.hid (show l = m → decide (l = m) = true from fun e => decide_eq_true e)
  have HF := Lib.hid (show l ≠ m → decide (l = m) = false from fun e => decide_eq_false e)
  clear hl hm
  generalize decide (l = m) = r at *
  generalize BoolPost r w = Post at *
  go_enter Tryz.func16, Tryz.ntmps16
  by_cases hnp : n = p
  case neg =>
    have h1 : ((n : Int) == (p : Int)) = false := beq_eq_false_iff_ne.2 (by omega)
    have h2 : (n == p) = false := beq_eq_false_iff_ne.2 hnp
    have hv := Lib.hid (HF.out (fun e => hnp (by rw [← ll.out, ← lm.out, e])))
    go_wp2_with fail
    exact HP.out _ _ hv.out (Below.refl _ _)
  subst hnp
  go_wp2_with fail
  go_loopw [5] (fun i wr => ∃ k : Nat, k ≤ n ∧ i = .int .i64 (k : Int) ∧ Hid (l.take k = m.take k) ∧ Hid (Below w.heap.size w wr)) (fun i _ => n - (intOf i).toNat)
  case atStart => exact ⟨0, by omega, rfl, Lib.hid (by simp), Lib.hid (Below.refl _ _)⟩
  case round =>
    obtain ⟨k, hk, rfl, HE, HB⟩ := hrel
    by_cases hlt : k < n
    · obtain ⟨b1, o1, rfl, hb1, hc1⟩ := L1.out.at_ (by omega)
      obtain ⟨b2, o2, rfl, hb2, hc2⟩ := L2.out.at_ (by omega)
      obtain ⟨q0, q1, A1, n1, c1, q2, hl1⟩ := hc1 k hlt
      obtain ⟨v0, v1, A2, n2, c2, v2, hl2⟩ := hc2 k hlt
      have r0 := (HB.out.cell (p := ⟨b1, o1 + k * 3, none⟩) hb1).trans q0
      have r1 := (HB.out.cell (p := ⟨b1, o1 + k * 3 + 1, none⟩) hb1).trans q1
      have r2 := (HB.out.cell (p := ⟨b1, o1 + k * 3 + 2, none⟩) hb1).trans q2
      have s0 := (HB.out.cell (p := ⟨b2, o2 + k * 3, none⟩) hb2).trans v0
      have s1 := (HB.out.cell (p := ⟨b2, o2 + k * 3 + 1, none⟩) hb2).trans v1
      have s2 := (HB.out.cell (p := ⟨b2, o2 + k * 3 + 2, none⟩) hb2).trans v2
      have hki : (k : Int) < (n : Int) := by omega
      have hk0 : (0 : Int) ≤ (k : Int) := by omega
      have t1 := Lib.hid (take_en l k (by rw [ll.out]; exact hlt))
      have t2 := Lib.hid (take_en m k (by rw [lm.out]; exact hlt))
      have HD := Lib.hid (show l.getD k en0 ≠ m.getD k en0 → l ≠ m from fun h e => h (by rw [e]))
      have hl1 := hl1.below HB.out
      have hl2 := hl2.below HB.out
      clear q0 q1 q2 v0 v1 v2 hc1 hc2
      generalize l.getD k en0 = x at *
      generalize m.getD k en0 = y at *
      obtain ⟨d1, z1, k1⟩ := x
      obtain ⟨d2, z2, k2⟩ := y
      simp only at r0 r1 r2 s0 s1 s2 hl1 hl2
      have ce := fun W (hW : Below wr.heap.size wr W) => rsame1_any d1 d2 z1 z2 A1 A2 n1 c1 n2 c2 k1 k2 W (hl1.below hW) (hl2.below hW)
      unfold enV at ce
      obtain ⟨sb, hsbe⟩ : ∃ sb, decide ((d1, z1, k1) = (d2, z2, k2)) = sb := ⟨_, rfl⟩
      have hsb := Lib.hid (show sb = true ↔ (d1, z1, k1) = (d2, z2, k2) by rw [← hsbe]; exact decide_eq_true_iff)
      rw [hsbe] at ce
      have CE := Lib.hid ce
      have HXS := Lib.hid (And.intro r0 (And.intro r1 (And.intro r2 (And.intro s0 (And.intro s1 s2)))))
      have ly := block_lt_of_cell r0
      have lx := block_lt_of_cell s0
      have HD2 := Lib.hid (Below.refl wr.heap.size wr)
      clear ce hl1 hl2 hsbe
      go_wp2_with fail
      go_region_held3 (fun w' => w'.cell? ⟨b1, o1 + k * 3, none⟩ = some (.int .i64 d1) ∧ w'.cell? ⟨b1, o1 + k * 3 + 1, none⟩ = some (.string ⟨z1.toArray⟩) ∧ w'.cell? ⟨b1, o1 + k * 3 + 2, none⟩ = some (.slice A1 n1 c1) ∧ w'.cell? ⟨b2, o2 + k * 3, none⟩ = some (.int .i64 d2) ∧ w'.cell? ⟨b2, o2 + k * 3 + 1, none⟩ = some (.string ⟨z2.toArray⟩) ∧ w'.cell? ⟨b2, o2 + k * 3 + 2, none⟩ = some (.slice A2 n2 c2))
        (first | exact ⟨f0, f1, f2, f3, f4, f5⟩ | exact ⟨r0, r1, r2, s0, s1, s2⟩ | go_keep)
        (first
          | (go_at_call 25; refine (CE.out _ (Below.drew (Below.refl _ _))).mono ?_; rintro e w' ⟨rfl, hb⟩; have HD2 := Lib.hid (below_next HD2.out hb ⟨rfl, rfl, rfl, rfl⟩); have f0 := (HD2.out.cell ly).trans HXS.out.1; have f1 := (HD2.out.cell (p := ⟨b1, o1 + k * 3 + 1, none⟩) ly).trans HXS.out.2.1; have f2 := (HD2.out.cell (p := ⟨b1, o1 + k * 3 + 2, none⟩) ly).trans HXS.out.2.2.1; have f3 := (HD2.out.cell lx).trans HXS.out.2.2.2.1; have f4 := (HD2.out.cell (p := ⟨b2, o2 + k * 3 + 1, none⟩) lx).trans HXS.out.2.2.2.2.1; have f5 := (HD2.out.cell (p := ⟨b2, o2 + k * 3 + 2, none⟩) lx).trans HXS.out.2.2.2.2.2; clear hb))
      have HB3 := Lib.hid (HB.out.trans (HD2.out.mono HB.out.size))
      cases sb
      · have hv := Lib.hid (HF.out (HD.out (fun e => by cases hsb.out.2 e)))
        go_wp2_with fail
        exact HP.out _ _ hv.out HB3.out
      · have HE2 := Lib.hid (show l.take (k + 1) = m.take (k + 1) by rw [t1.out, t2.out, HE.out, hsb.out.1 rfl])
        go_wp2_with fail
        go_roundw
        case rel => exact ⟨k + 1, by omega, by go_num, HE2, HB3⟩
        case measure => simp [intOf]; omega
    · have hkn : k = n := by omega
      subst hkn
      have hki : ¬ (k : Int) < (k : Int) := by omega
      have e := HE.out
      rw [List.take_of_length_le (by rw [ll.out]; exact Nat.le_refl _), List.take_of_length_le (by rw [lm.out]; exact Nat.le_refl _)] at e
      have hv := Lib.hid (HT.out e)
      clear e HE
      go_wp2_with fail
      exact HP.out _ _ hv.out HB.out
end Go.Proofs.YtdnomfekblmnbaaGreatDoor

/- Contract of the reference's Compare of entries. -/
namespace Go.Proofs.YtdnomfekblmnbaaGreatDoor
open Go.RowKit Go.Maps Num

theorem cmpLs_out (l m : List Ln) (k : Nat) (hk : k ≤ l.length) (hp : k ≤ m.length) (h : k = l.length ∨ k = m.length) : cmpLs cmpL (l.drop k) (m.drop k) = if l.length < m.length then -1 else if m.length < l.length then 1 else 0 := by
  rcases h with h | h
  · rw [List.drop_of_length_le (by omega)]
    cases e : m.drop k with
    | nil => rw [if_neg (by have := congrArg List.length e; simp at this; omega), if_neg (by omega)]; rfl
    | cons y r => rw [if_pos (by have := congrArg List.length e; simp at this; omega)]; rfl
  · cases e : l.drop k with
    | nil => rw [List.drop_of_length_le (l := m) (by omega), if_neg (by omega), if_neg (by have := congrArg List.length e; simp at this; omega)]; rfl
    | cons y r => rw [List.drop_of_length_le (l := m) (by omega), if_neg (by have := congrArg List.length e; simp at this; omega), if_pos (by have := congrArg List.length e; simp at this; omega)]; rfl
set_option maxRecDepth 100000 in
set_option maxHeartbeats 8000000 in
theorem rcmpE_any (d1 d2 : Int) (c1 c2 : List UInt8) (A B : Option Addr) (n c p d : Nat) (l m : List Ln) (w : World) (hl : Lns w A n c l) (hm : Lns w B p d m) :
    Calls Tryz.prog 15 #[.agg (enV d1 c1 A n c), .agg (enV d2 c2 B p d)] w (IntPost (cmpE (d1, c1, l) (d2, c2, m)) w) := by
  have hn := hl.small
  have hp := hm.small
  have ll := Lib.hid hl.len
  have lm := Lib.hid hm.len
  have HP := Lib.hid (fun W b (h : cmpE (d1, c1, l) (d2, c2, m) = b) (hb : Below w.heap.size w W) => (show IntPost (cmpE (d1, c1, l) (d2, c2, m)) w (.returned (.int .i64 b)) W from ⟨by rw [h], hb⟩))
  have hB0 : Below w.heap.size w ((w.alloc (.cells #[.int .i64 d1, .string ⟨c1.toArray⟩, .slice A n c] 32)).alloc (.cells #[.int .i64 d2, .string ⟨c2.toArray⟩, .slice B p d] 32)) := ((Below.refl _ w).alloc (Nat.le_refl _) _).alloc (by simp) _
  have y0 : ((w.alloc (.cells #[.int .i64 d1, .string ⟨c1.toArray⟩, .slice A n c] 32)).alloc (.cells #[.int .i64 d2, .string ⟨c2.toArray⟩, .slice B p d] 32)).heap[w.heap.size]? = some (.cells #[.int .i64 d1, .string ⟨c1.toArray⟩, .slice A n c] 32) := by
    rw [heap_alloc_old _ _ (by simp)]; exact heap_alloc_new w _
  have y1 : ((w.alloc (.cells #[.int .i64 d1, .string ⟨c1.toArray⟩, .slice A n c] 32)).alloc (.cells #[.int .i64 d2, .string ⟨c2.toArray⟩, .slice B p d] 32)).heap[w.heap.size + 1]? = some (.cells #[.int .i64 d2, .string ⟨c2.toArray⟩, .slice B p d] 32) := by
    have := heap_alloc_new (w.alloc (.cells #[.int .i64 d1, .string ⟨c1.toArray⟩, .slice A n c] 32)) (.cells #[.int .i64 d2, .string ⟨c2.toArray⟩, .slice B p d] 32)
    rwa [show (w.alloc (.cells #[.int .i64 d1, .string ⟨c1.toArray⟩, .slice A n c] 32)).heap.size = w.heap.size + 1 by simp] at this
  have L1 := Lib.hid hl
  have L2 := Lib.hid hm
  have B0 := Lib.hid hB0
  have HR := Lib.hid (show cmpE (d1, c1, l) (d2, c2, m) = if cmpI d1 d2 ≠ 0 then cmpI d1 d2 else if cmpS c1 c2 ≠ 0 then cmpS c1 c2 else cmpLs cmpL l m from rfl)
  clear hl hm hB0
  generalize cmpE (d1, c1, l) (d2, c2, m) = r at *
  generalize IntPost r w = Post at *
  have HI := Lib.hid (show cmpI d1 d2 = if d1 < d2 then -1 else if d2 < d1 then 1 else 0 from rfl)
  have CT := Lib.hid (fun W => rtxt_any c1 c2 W)
  unfold RetP at CT
  generalize cmpS c1 c2 = cs at *
  unfold enV
  go_enter Tryz.func15, Tryz.ntmps15
  obtain ⟨⟨c00, c01, c02⟩, _⟩ := cells3 y0
  obtain ⟨⟨c10, c11, c12⟩, _⟩ := cells3 y1
  clear y0 y1
  by_cases h1 : d1 = d2
  case neg =>
    have t1 : (d1 == d2) = false := beq_eq_false_iff_ne.2 h1
    by_cases h2 : d1 < d2
    · have t2 : decide (d1 < d2) = true := decide_eq_true h2
      have hv := Lib.hid (show r = -1 by
        have e : cmpI d1 d2 = -1 := by rw [HI.out, if_pos h2]
        rw [HR.out, e, if_pos (by decide)])
      clear c00 c01 c02 c10 c11 c12
      go_wp2_with fail
      exact HP.out _ _ hv.out B0.out
    · have t2 : decide (d1 < d2) = false := decide_eq_false h2
      have hv := Lib.hid (show r = 1 by
        have e : cmpI d1 d2 = 1 := by rw [HI.out, if_neg h2, if_pos (by omega)]
        rw [HR.out, e, if_pos (by decide)])
      clear c00 c01 c02 c10 c11 c12
      go_wp2_with fail
      exact HP.out _ _ hv.out B0.out
  have HR2 := Lib.hid (show r = if cs ≠ 0 then cs else cmpLs cmpL l m by
    have e : cmpI d1 d2 = 0 := by rw [HI.out, if_neg (by omega), if_neg (by omega)]
    rw [HR.out, e, if_neg (by decide)])
  subst h1
  clear HR HI
  have X0 := Lib.hid c02
  have X1 := Lib.hid c12
  have lb0 := Lib.hid (block_lt_of_cell c02)
  have lb1 := Lib.hid (block_lt_of_cell c12)
  clear c00 c01 c02 c10 c11 c12
  go_wp2_with fail
  refine (CT.out _).mono ?_
  rintro e w' ⟨rfl, rfl⟩
  by_cases h2 : cs = 0
  case neg =>
    have t1 : (cs == 0) = false := beq_eq_false_iff_ne.2 h2
    have t2 : (cs != 0) = true := by rw [bne_iff_ne]; exact h2
    have hv := Lib.hid (show r = cs by rw [HR2.out, if_pos h2])
    go_wp2_with fail
    exact HP.out _ _ hv.out B0.out
  have HR3 := Lib.hid (show r = cmpLs cmpL l m by rw [HR2.out, if_neg (by omega)])
  subst h2
  clear HR2 CT
  go_wp2_with fail
  generalize (w.alloc (.cells #[.int .i64 d1, .string ⟨c1.toArray⟩, .slice A n c] 32)).alloc (.cells #[.int .i64 d1, .string ⟨c2.toArray⟩, .slice B p d] 32) = w1 at *
  have l0 : w.heap.size < w1.heap.size := lb0.out
  have l1 : w.heap.size + 1 < w1.heap.size := lb1.out
  clear lb0 lb1
  go_loopw [6, 7, 8] (fun i _ _ wr => ∃ k : Nat, k ≤ n ∧ k ≤ p ∧ i = .int .i64 (k : Int) ∧ Hid (r = cmpLs cmpL (l.drop k) (m.drop k)) ∧ Hid (Below w1.heap.size w1 wr)) (fun i _ _ _ => n - (intOf i).toNat)
  case atStart => exact ⟨0, by omega, by omega, rfl, by rw [List.drop_zero, List.drop_zero]; exact HR3, Lib.hid (Below.refl _ _)⟩
  case round =>
    obtain ⟨k, hk, hkp, rfl, HE, HC⟩ := hrel
    have HB := Lib.hid (below_next B0.out HC.out ⟨rfl, rfl, rfl, rfl⟩)
    have a02 := (HC.out.cell (p := ⟨w.heap.size, 2, none⟩) l0).trans X0.out
    have a12 := (HC.out.cell (p := ⟨w.heap.size + 1, 2, none⟩) l1).trans X1.out
    by_cases hend : k = n ∨ k = p
    · have hv := Lib.hid (show r = if n < p then -1 else if p < n then 1 else 0 by
        rw [HE.out, cmpLs_out l m k (by rw [ll.out]; exact hk) (by rw [lm.out]; exact hkp) (by rw [ll.out, lm.out]; exact hend), ll.out, lm.out])
      clear HE HR3
      rcases Nat.lt_trichotomy n p with h | h | h
      · have hkn : k = n := by omega
        subst hkn
        have hki : ¬ (k : Int) < (k : Int) := by omega
        have t2 : decide ((k : Int) < (p : Int)) = true := by rw [decide_eq_true_iff]; omega
        have hv := Lib.hid (show r = -1 by rw [hv.out, if_pos h])
        clear hend
        go_wp2_with fail
        exact HP.out _ _ hv.out HB.out
      · subst h
        have hkn : k = n := by omega
        subst hkn
        have hki : ¬ (k : Int) < (k : Int) := by omega
        have hv := Lib.hid (show r = 0 by rw [hv.out, if_neg (by omega), if_neg (by omega)])
        clear hend
        go_wp2_with fail
        exact HP.out _ _ hv.out HB.out
      · have hkn : k = p := by omega
        subst hkn
        have hki : ¬ (k : Int) < (k : Int) := by omega
        have t1 : decide ((k : Int) < (n : Int)) = true := by rw [decide_eq_true_iff]; omega
        have t2 : decide ((n : Int) < (k : Int)) = false := by rw [decide_eq_false_iff_not]; omega
        have hv := Lib.hid (show r = 1 by rw [hv.out, if_neg (by omega), if_pos h])
        clear hend
        go_wp2_with fail
        exact HP.out _ _ hv.out HB.out
    · have hlt : k < n := by omega
      have hlt2 : k < p := by omega
      clear hend
      obtain ⟨b1, o1, rfl, hb1, hc1⟩ := L1.out.at_ (by omega)
      obtain ⟨b2, o2, rfl, hb2, hc2⟩ := L2.out.at_ (by omega)
      obtain ⟨q0, q1, q2⟩ := hc1 k hlt
      obtain ⟨v0, v1, v2⟩ := hc2 k hlt2
      have HQ := Lib.hid (And.intro q0 (And.intro q1 q2))
      have HV := Lib.hid (And.intro v0 (And.intro v1 v2))
      have hki : (k : Int) < (n : Int) := by omega
      have hki2 : (k : Int) < (p : Int) := by omega
      have hk0 : (0 : Int) ≤ (k : Int) := by omega
      have HDR := Lib.hid (cmpLs_drop l m k (by rw [ll.out]; exact hlt) (by rw [lm.out]; exact hlt2))
      have hsx := Lib.hid (L1.out.sml _ (lnAt_mem l k (by rw [ll.out]; exact hlt)))
      have hsy := Lib.hid (L2.out.sml _ (lnAt_mem m k (by rw [lm.out]; exact hlt2)))
      clear q0 q1 q2 v0 v1 v2 hc1 hc2
      generalize l.getD k ln0 = x at *
      generalize m.getD k ln0 = y at *
      obtain ⟨a, cu, u⟩ := x
      obtain ⟨a', cu', u'⟩ := y
      have HL := Lib.hid (show cmpL (a, cu, u) (a', cu', u') = if cmpKy (a, cu) (a', cu') ≠ 0 then cmpKy (a, cu) (a', cu') else cmpV u u' from rfl)
      have KC := Lib.hid (fun W => rcl_any a cu u a' cu' u' W)
      have VC := Lib.hid (fun W => rcmp_any u u' W (by have := hsx.out.2.2; simp only at this; omega) (by have := hsy.out.2.2; simp only at this; omega))
      unfold RetP at VC
      generalize cmpL (a, cu, u) (a', cu', u') = cl at *
      generalize cmpKy (a, cu) (a', cu') = ck at *
      generalize cmpV u u' = cv at *
      simp only at HQ HV
      have hc : ∀ W, Below w1.heap.size w1 W → Hid (W.cell? ⟨w.heap.size, 2, none⟩ = some (.slice (some ⟨b1, o1, none⟩) n c) ∧ W.cell? ⟨w.heap.size + 1, 2, none⟩ = some (.slice (some ⟨b2, o2, none⟩) p d) ∧ W.cell? ⟨b1, o1 + k * 3, none⟩ = some (.string ⟨a.toArray⟩) ∧ W.cell? ⟨b1, o1 + k * 3 + 1, none⟩ = some (.string ⟨cu.toArray⟩) ∧ W.cell? ⟨b1, o1 + k * 3 + 2, none⟩ = some (.string ⟨u.toArray⟩) ∧ W.cell? ⟨b2, o2 + k * 3, none⟩ = some (.string ⟨a'.toArray⟩) ∧ W.cell? ⟨b2, o2 + k * 3 + 1, none⟩ = some (.string ⟨cu'.toArray⟩) ∧ W.cell? ⟨b2, o2 + k * 3 + 2, none⟩ = some (.string ⟨u'.toArray⟩)) := fun W hW => by
        have hw := below_next B0.out hW ⟨rfl, rfl, rfl, rfl⟩
        exact Lib.hid ⟨(hW.cell (p := ⟨w.heap.size, 2, none⟩) l0).trans X0.out, (hW.cell (p := ⟨w.heap.size + 1, 2, none⟩) l1).trans X1.out, (hw.cell (p := ⟨b1, o1 + k * 3, none⟩) hb1).trans HQ.out.1, (hw.cell (p := ⟨b1, o1 + k * 3 + 1, none⟩) hb1).trans HQ.out.2.1, (hw.cell (p := ⟨b1, o1 + k * 3 + 2, none⟩) hb1).trans HQ.out.2.2, (hw.cell (p := ⟨b2, o2 + k * 3, none⟩) hb2).trans HV.out.1, (hw.cell (p := ⟨b2, o2 + k * 3 + 1, none⟩) hb2).trans HV.out.2.1, (hw.cell (p := ⟨b2, o2 + k * 3 + 2, none⟩) hb2).trans HV.out.2.2⟩
      have HCC := Lib.hid hc
      clear hc a02 a12
      obtain ⟨g0, g1, r0, r1, r2, s0, s1, s2⟩ := (HCC.out _ HC.out).out
      have HD := HC
      go_wp2_with fail
      go_region_held3 (fun W => W.cell? ⟨w.heap.size, 2, none⟩ = some (.slice (some ⟨b1, o1, none⟩) n c) ∧ W.cell? ⟨w.heap.size + 1, 2, none⟩ = some (.slice (some ⟨b2, o2, none⟩) p d) ∧ W.cell? ⟨b1, o1 + k * 3, none⟩ = some (.string ⟨a.toArray⟩) ∧ W.cell? ⟨b1, o1 + k * 3 + 1, none⟩ = some (.string ⟨cu.toArray⟩) ∧ W.cell? ⟨b1, o1 + k * 3 + 2, none⟩ = some (.string ⟨u.toArray⟩) ∧ W.cell? ⟨b2, o2 + k * 3, none⟩ = some (.string ⟨a'.toArray⟩) ∧ W.cell? ⟨b2, o2 + k * 3 + 1, none⟩ = some (.string ⟨cu'.toArray⟩) ∧ W.cell? ⟨b2, o2 + k * 3 + 2, none⟩ = some (.string ⟨u'.toArray⟩))
        (first | exact (HCC.out _ HD.out).out | go_keep)
        (first
          | (go_at_call 52; refine (KC.out _).mono ?_; rintro e w' ⟨rfl, hb⟩; have HD := Lib.hid (below_next HD.out hb ⟨rfl, rfl, rfl, rfl⟩); clear hb))
      clear g0 g1 r0 r1 r2 s0 s1 s2
      have HB2 := Lib.hid (below_next B0.out HD.out ⟨rfl, rfl, rfl, rfl⟩)
      by_cases hk0' : ck = 0
      case neg =>
        have t1 : (ck == 0) = false := beq_eq_false_iff_ne.2 hk0'
        have t2 : (ck != 0) = true := by rw [bne_iff_ne]; exact hk0'
        have hcl := HL.out
        rw [if_pos hk0'] at hcl
        have hv := Lib.hid (show r = ck by rw [HE.out, HDR.out, hcl, if_pos hk0'])
        clear hcl
        go_wp2_with fail
        exact HP.out _ _ hv.out HB2.out
      have hcl := Lib.hid (show cl = cv by rw [HL.out, if_neg (by omega)])
      subst hk0'
      clear HL KC
      obtain ⟨g0, g1, r0, r1, r2, s0, s1, s2⟩ := (HCC.out _ HD.out).out
      go_wp2_with fail
      go_region_held3 (fun W => W.cell? ⟨w.heap.size, 2, none⟩ = some (.slice (some ⟨b1, o1, none⟩) n c) ∧ W.cell? ⟨w.heap.size + 1, 2, none⟩ = some (.slice (some ⟨b2, o2, none⟩) p d) ∧ W.cell? ⟨b1, o1 + k * 3, none⟩ = some (.string ⟨a.toArray⟩) ∧ W.cell? ⟨b1, o1 + k * 3 + 1, none⟩ = some (.string ⟨cu.toArray⟩) ∧ W.cell? ⟨b1, o1 + k * 3 + 2, none⟩ = some (.string ⟨u.toArray⟩) ∧ W.cell? ⟨b2, o2 + k * 3, none⟩ = some (.string ⟨a'.toArray⟩) ∧ W.cell? ⟨b2, o2 + k * 3 + 1, none⟩ = some (.string ⟨cu'.toArray⟩) ∧ W.cell? ⟨b2, o2 + k * 3 + 2, none⟩ = some (.string ⟨u'.toArray⟩))
        (first | exact (HCC.out _ HD.out).out | go_keep)
        (first
          | (go_at_call 53; refine (VC.out _).mono ?_; rintro e w' ⟨rfl, rfl⟩))
      clear g0 g1 r0 r1 r2 s0 s1 s2
      have HD3 := Lib.hid (HD.out.drew)
      have HB3 := Lib.hid (HB2.out.drew)
      by_cases hv0 : cv = 0
      case neg =>
        have t1 : (cv == 0) = false := beq_eq_false_iff_ne.2 hv0
        have t2 : (cv != 0) = true := by rw [bne_iff_ne]; exact hv0
        have hv := Lib.hid (show r = cv by rw [HE.out, HDR.out, hcl.out, if_pos hv0])
        go_wp2_with fail
        exact HP.out _ _ hv.out HB3.out
      have hv := Lib.hid (show r = cmpLs cmpL (l.drop (k + 1)) (m.drop (k + 1)) by rw [HE.out, HDR.out, hcl.out, if_neg (by omega)])
      subst hv0
      go_wp2_with fail
      go_roundw
      case rel => exact ⟨k + 1, by omega, by omega, by go_num, hv, HD3⟩
      case measure => simp [intOf]; omega
end Go.Proofs.YtdnomfekblmnbaaGreatDoor

/- Contract of the reference's GreatOne, for any entry. -/
namespace Go.Proofs.YtdnomfekblmnbaaGreatDoor
open Go.RowKit Go.Maps Num

def lnG (x : Ln) : Bool := decide (60 < x.1.length) || decide (60 < x.2.1.length) || decide (13 < x.2.2.length)
/-- larger than the statements examine -/
def g1B (c : List UInt8) (l : List Ln) : Bool := decide (60 < c.length) || (decide (8 < l.length) && decide (l.length ≤ 64)) || decide (66 < l.length) || l.any lnG
set_option maxRecDepth 100000 in
theorem rlong_all (l : List UInt8) (w : World) : Calls Tryz.prog 57 #[.string ⟨l.toArray⟩] w (RetP (.bool (decide (13 < l.length))) w) := by
  have h : decide (13 < l.length) = decide ((13 : Int) < (l.length : Int)) := by
    rw [Bool.eq_iff_iff, decide_eq_true_iff, decide_eq_true_iff]; omega
  rw [h]
  go_enter Tryz.func57, Tryz.ntmps57
  go_wp2_with fail
  go_ret
  exact ⟨rfl, rfl⟩
theorem any_take {l : List Ln} {k : Nat} (h : k < l.length) (hg : lnG (l.getD k ln0) = true) : l.any lnG = true := List.any_eq_true.2 ⟨_, lnAt_mem l k h, hg⟩
theorem any_none {l : List Ln} (h : ∀ x ∈ l, lnG x = false) : l.any lnG = false := by
  rw [List.any_eq_false]
  exact fun x hx => by rw [h x hx]; decide
set_option maxRecDepth 100000 in
set_option maxHeartbeats 8000000 in
theorem rgreat1_any (d : Int) (cz : List UInt8) (A : Option Addr) (n c : Nat) (l : List Ln) (w : World) (hl : rowL.Rds w A n c l) : Calls Tryz.prog 18 #[.agg (enV d cz A n c)] w (BoolPost (g1B cz l) w) := by
  have ll := Lib.hid hl.len
  have hB0 : Below w.heap.size w (w.alloc (.cells #[.int .i64 d, .string ⟨cz.toArray⟩, .slice A n c] 32)) := (Below.refl _ w).alloc (Nat.le_refl _) _
  obtain ⟨⟨c0, c1, c2⟩, _⟩ := cells3 (heap_alloc_new w (.cells #[.int .i64 d, .string ⟨cz.toArray⟩, .slice A n c] 32))
  have HP := Lib.hid (fun W b (h : g1B cz l = b) (hb : Below w.heap.size w W) => (show BoolPost (g1B cz l) w (.returned (.bool b)) W from ⟨by rw [h], hb⟩))
  have HG := Lib.hid (show g1B cz l = (decide (60 < cz.length) || (decide (8 < n) && decide (n ≤ 64)) || decide (66 < n) || l.any lnG) by rw [← hl.len]; rfl)
  generalize BoolPost (g1B cz l) w = Post at *
  generalize g1B cz l = r at *
  have B0 := Lib.hid hB0
  have L1 := Lib.hid hl
  clear hl hB0
  unfold enV
  go_enter Tryz.func18, Tryz.ntmps18
  by_cases h1 : 60 < cz.length
  · have t1 : decide (60 < (cz.length : Int)) = true := by rw [decide_eq_true_iff]; omega
    have hv := Lib.hid (show r = true by rw [HG.out, decide_eq_true h1]; rfl)
    clear h1
    go_wp2_with fail
    exact HP.out _ _ hv.out B0.out
  have t1 : decide (60 < (cz.length : Int)) = false := by rw [decide_eq_false_iff_not]; omega
  have HG1 := Lib.hid (show r = ((decide (8 < n) && decide (n ≤ 64)) || decide (66 < n) || l.any lnG) by rw [HG.out, decide_eq_false h1, Bool.false_or])
  clear HG h1
  by_cases h2 : 8 < n ∧ n ≤ 64
  · have t2 : decide (8 < (n : Int)) = true := by rw [decide_eq_true_iff]; omega
    have t3 : decide ((n : Int) ≤ 64) = true := by rw [decide_eq_true_iff]; omega
    have hv := Lib.hid (show r = true by rw [HG1.out, decide_eq_true h2.1, decide_eq_true h2.2]; rfl)
    clear h2
    go_wp2_with fail
    exact HP.out _ _ hv.out B0.out
  have HG2 := Lib.hid (show r = (decide (66 < n) || l.any lnG) by
    rw [HG1.out, show (decide (8 < n) && decide (n ≤ 64)) = false by rw [← Bool.decide_and]; exact decide_eq_false h2, Bool.false_or])
  clear HG1
  by_cases h3 : 66 < n
  · have t2 : decide (8 < (n : Int)) = true := by rw [decide_eq_true_iff]; omega
    have t3 : decide ((n : Int) ≤ 64) = false := by rw [decide_eq_false_iff_not]; omega
    have t4 : decide (66 < (n : Int)) = true := by rw [decide_eq_true_iff]; omega
    have hv := Lib.hid (show r = true by rw [HG2.out, decide_eq_true h3]; rfl)
    clear h2 h3
    go_wp2_with fail
    exact HP.out _ _ hv.out B0.out
  have HG3 := Lib.hid (show r = l.any lnG by rw [HG2.out, decide_eq_false h3, Bool.false_or])
  have t4 : decide (66 < (n : Int)) = false := by rw [decide_eq_false_iff_not]; omega
  clear HG2
  have hn66 : n ≤ 66 := by omega
  by_cases h8 : 8 < n
  · have t2 : decide (8 < (n : Int)) = true := by rw [decide_eq_true_iff]; omega
    have t3 : decide ((n : Int) ≤ 64) = false := by rw [decide_eq_false_iff_not]; omega
    clear h8
    go_wp2_with fail
    generalize w.alloc (.cells #[.int .i64 d, .string ⟨cz.toArray⟩, .slice A n c] 32) = w1 at *
    have X0 := Lib.hid c2
    clear c0 c1 c2
    go_loopw [4] (fun i wr => ∃ k : Nat, k ≤ n ∧ i = .int .i64 (k : Int) ∧ Hid (∀ x ∈ l.take k, lnG x = false) ∧ Hid (Below w1.heap.size w1 wr)) (fun i _ => n - (intOf i).toNat)
    case atStart => exact ⟨0, by omega, rfl, Lib.hid (by simp), Lib.hid (Below.refl _ _)⟩
    case round =>
      obtain ⟨k, hk, rfl, HE, HC⟩ := hrel
      have HB := Lib.hid (below_next B0.out HC.out ⟨rfl, rfl, rfl, rfl⟩)
      have a02 := (HC.out.cell (p := ⟨w.heap.size, 2, none⟩) (block_lt_of_cell X0.out)).trans X0.out
      by_cases hlt : k < n
      · have hkl : k < l.length := by rw [ll.out]; exact hlt
        obtain ⟨b1, o1, rfl, hb1, _⟩ := L1.out.at_ (by omega)
        obtain ⟨p0, p1, p2⟩ := rds3 (L1.out.below HB.out) k hlt
        have hki : (k : Int) < (n : Int) := by omega
        have HT := Lib.hid (fun h => HG3.out.trans (any_take hkl h))
        have HTK := Lib.hid (take_ln l k hkl)
        clear hkl
        generalize l.getD k ln0 = y at *
        obtain ⟨ya, yc, ym⟩ := y
        simp only at p0 p1 p2
        have LC := Lib.hid (fun W => rlong_all ym W)
        unfold RetP at LC
        have HY := Lib.hid (show lnG (ya, yc, ym) = (decide (60 < ya.length) || decide (60 < yc.length) || decide (13 < ym.length)) from rfl)
        obtain ⟨gy, hgy⟩ : ∃ gy, lnG (ya, yc, ym) = gy := ⟨_, rfl⟩
        rw [hgy] at HT HY
        have HYG := Lib.hid hgy
        clear hgy
        by_cases g1 : 60 < ya.length
        · have u1 : decide (60 < (ya.length : Int)) = true := by rw [decide_eq_true_iff]; omega
          have hv := Lib.hid (HT.out (by rw [HY.out, decide_eq_true g1]; rfl))
          clear g1
          go_wp2_with fail
          exact HP.out _ _ hv.out HB.out
        have u1 : decide (60 < (ya.length : Int)) = false := by rw [decide_eq_false_iff_not]; omega
        by_cases g2 : 60 < yc.length
        · have u2 : decide (60 < (yc.length : Int)) = true := by rw [decide_eq_true_iff]; omega
          have hv := Lib.hid (HT.out (by rw [HY.out, decide_eq_false g1, decide_eq_true g2]; rfl))
          clear g1 g2
          go_wp2_with fail
          exact HP.out _ _ hv.out HB.out
        have u2 : decide (60 < (yc.length : Int)) = false := by rw [decide_eq_false_iff_not]; omega
        have HY2 := Lib.hid (show gy = decide (13 < ym.length) by rw [HY.out, decide_eq_false g1, decide_eq_false g2]; rfl)
        clear HY g1 g2
        generalize decide (13 < ym.length) = lg at *
        go_wp2_with fail
        refine (LC.out _).mono ?_
        rintro e w' ⟨rfl, rfl⟩
        cases lg
        · have HE2 := Lib.hid (show ∀ x ∈ l.take (k + 1), lnG x = false from fun x hx => by
            rw [HTK.out] at hx
            rcases List.mem_append.1 hx with h | h
            · exact HE.out x h
            · rw [List.mem_singleton.1 h]; exact HYG.out.trans HY2.out)
          go_wp2_with fail
          go_roundw
          case rel => exact ⟨k + 1, by omega, by go_num, HE2, HC⟩
          case measure => simp [intOf]; omega
        · have hv := Lib.hid (HT.out HY2.out)
          go_wp2_with fail
          exact HP.out _ _ hv.out HB.out
      · have hkn : k = n := by omega
        subst hkn
        have hki : ¬ (k : Int) < (k : Int) := by omega
        have e := HE.out
        rw [List.take_of_length_le (by rw [ll.out]; exact Nat.le_refl _)] at e
        have hv := Lib.hid (HG3.out.trans (any_none e))
        clear e HE
        go_wp2_with fail
        exact HP.out _ _ hv.out HB.out
  · have t2 : decide (8 < (n : Int)) = false := by rw [decide_eq_false_iff_not]; omega
    clear h8
    go_wp2_with fail
    generalize w.alloc (.cells #[.int .i64 d, .string ⟨cz.toArray⟩, .slice A n c] 32) = w1 at *
    have X0 := Lib.hid c2
    clear c0 c1 c2
    go_loopw [4] (fun i wr => ∃ k : Nat, k ≤ n ∧ i = .int .i64 (k : Int) ∧ Hid (∀ x ∈ l.take k, lnG x = false) ∧ Hid (Below w1.heap.size w1 wr)) (fun i _ => n - (intOf i).toNat)
    case atStart => exact ⟨0, by omega, rfl, Lib.hid (by simp), Lib.hid (Below.refl _ _)⟩
    case round =>
      obtain ⟨k, hk, rfl, HE, HC⟩ := hrel
      have HB := Lib.hid (below_next B0.out HC.out ⟨rfl, rfl, rfl, rfl⟩)
      have a02 := (HC.out.cell (p := ⟨w.heap.size, 2, none⟩) (block_lt_of_cell X0.out)).trans X0.out
      by_cases hlt : k < n
      · have hkl : k < l.length := by rw [ll.out]; exact hlt
        obtain ⟨b1, o1, rfl, hb1, _⟩ := L1.out.at_ (by omega)
        obtain ⟨p0, p1, p2⟩ := rds3 (L1.out.below HB.out) k hlt
        have hki : (k : Int) < (n : Int) := by omega
        have HT := Lib.hid (fun h => HG3.out.trans (any_take hkl h))
        have HTK := Lib.hid (take_ln l k hkl)
        clear hkl
        generalize l.getD k ln0 = y at *
        obtain ⟨ya, yc, ym⟩ := y
        simp only at p0 p1 p2
        have LC := Lib.hid (fun W => rlong_all ym W)
        unfold RetP at LC
        have HY := Lib.hid (show lnG (ya, yc, ym) = (decide (60 < ya.length) || decide (60 < yc.length) || decide (13 < ym.length)) from rfl)
        obtain ⟨gy, hgy⟩ : ∃ gy, lnG (ya, yc, ym) = gy := ⟨_, rfl⟩
        rw [hgy] at HT HY
        have HYG := Lib.hid hgy
        clear hgy
        by_cases g1 : 60 < ya.length
        · have u1 : decide (60 < (ya.length : Int)) = true := by rw [decide_eq_true_iff]; omega
          have hv := Lib.hid (HT.out (by rw [HY.out, decide_eq_true g1]; rfl))
          clear g1
          go_wp2_with fail
          exact HP.out _ _ hv.out HB.out
        have u1 : decide (60 < (ya.length : Int)) = false := by rw [decide_eq_false_iff_not]; omega
        by_cases g2 : 60 < yc.length
        · have u2 : decide (60 < (yc.length : Int)) = true := by rw [decide_eq_true_iff]; omega
          have hv := Lib.hid (HT.out (by rw [HY.out, decide_eq_false g1, decide_eq_true g2]; rfl))
          clear g1 g2
          go_wp2_with fail
          exact HP.out _ _ hv.out HB.out
        have u2 : decide (60 < (yc.length : Int)) = false := by rw [decide_eq_false_iff_not]; omega
        have HY2 := Lib.hid (show gy = decide (13 < ym.length) by rw [HY.out, decide_eq_false g1, decide_eq_false g2]; rfl)
        clear HY g1 g2
        generalize decide (13 < ym.length) = lg at *
        go_wp2_with fail
        refine (LC.out _).mono ?_
        rintro e w' ⟨rfl, rfl⟩
        cases lg
        · have HE2 := Lib.hid (show ∀ x ∈ l.take (k + 1), lnG x = false from fun x hx => by
            rw [HTK.out] at hx
            rcases List.mem_append.1 hx with h | h
            · exact HE.out x h
            · rw [List.mem_singleton.1 h]; exact HYG.out.trans HY2.out)
          go_wp2_with fail
          go_roundw
          case rel => exact ⟨k + 1, by omega, by go_num, HE2, HC⟩
          case measure => simp [intOf]; omega
        · have hv := Lib.hid (HT.out HY2.out)
          go_wp2_with fail
          exact HP.out _ _ hv.out HB.out
      · have hkn : k = n := by omega
        subst hkn
        have hki : ¬ (k : Int) < (k : Int) := by omega
        have e := HE.out
        rw [List.take_of_length_le (by rw [ll.out]; exact Nat.le_refl _)] at e
        have hv := Lib.hid (HG3.out.trans (any_none e))
        clear e HE
        go_wp2_with fail
        exact HP.out _ _ hv.out HB.out
end Go.Proofs.YtdnomfekblmnbaaGreatDoor

/- Normal forms, reversals and the order of entries: what the laws say of them, plain. -/
namespace Go.Proofs.YtdnomfekblmnbaaGreatDoor
open Go.RowKit Go.Maps Num

/-- the sizes that are examined -/
structure Fit (c : List UInt8) (l : List Ln) : Prop where
  cause : c.length ≤ 60
  len : l.length ≤ 66
  ln : ∀ x ∈ l, x.1.length ≤ 60 ∧ x.2.1.length ≤ 60 ∧ x.2.2.length ≤ 13
theorem g1_fit {c : List UInt8} {l : List Ln} (h : g1B c l = false) : Fit c l := by
  unfold g1B at h
  rw [Bool.or_eq_false_iff, Bool.or_eq_false_iff, Bool.or_eq_false_iff] at h
  obtain ⟨⟨⟨h1, _⟩, h3⟩, h4⟩ := h
  refine ⟨by have := of_decide_eq_false h1; omega, by have := of_decide_eq_false h3; omega, fun x hx => ?_⟩
  have h5 := List.any_eq_false.1 h4 x hx
  unfold lnG at h5
  rw [Bool.not_eq_true, Bool.or_eq_false_iff, Bool.or_eq_false_iff] at h5
  have := of_decide_eq_false h5.1.1
  have := of_decide_eq_false h5.1.2
  have := of_decide_eq_false h5.2
  omega
theorem Fit.sml {c : List UInt8} {l : List Ln} (h : Fit c l) : ∀ x ∈ l, Sml x := fun x hx => by
  obtain ⟨h1, h2, h3⟩ := h.ln x hx
  exact ⟨by omega, by omega, by omega⟩
theorem Fit.lns {w : World} {A : Option Addr} {n k : Nat} {c : List UInt8} {l : List Ln} (h : Fit c l) (hr : rowL.Rds w A n k l) : Lns w A n k l :=
  Lns.of_rds hr (by rw [← hr.len]; have := h.len; omega) h.sml
theorem Lns.none (w : World) : Lns w none 0 0 [] := ⟨rfl, Nat.le_refl _, by unfold maxLen; omega, by omega, fun x hx => (List.not_mem_nil hx).elim, fun h => absurd h (Nat.lt_irrefl 0)⟩
/-- an entry and a code, returned -/
def EnP (y : En) (i : Int) (w : World) (e : Ending) (w' : World) : Prop :=
  ∃ A n c, e = .returned (.tuple #[.agg (enV y.1 y.2.1 A n c), .int .i64 i]) ∧ Lns w' A n c y.2.2 ∧ Below w.heap.size w w'
def nrmY (d : Int) (c : List UInt8) (l : List Ln) : En := if nrmI d c l = 0 then (d, c, nrmL l) else en0
def revY (d : Int) (c : List UInt8) (l : List Ln) : En := if chkE d c l = 0 then (d, c, l.map negL) else en0
def revI (d : Int) (c : List UInt8) (l : List Ln) : Int := if chkE d c l = 0 then 0 else 1
theorem nrm_enp {d : Int} {c : List UInt8} {l : List Ln} {w w' : World} {e : Ending} (h : NrmPost d c l w e w') : EnP (nrmY d c l) (nrmI d c l) w e w' := by
  obtain ⟨hb, h⟩ := h
  unfold nrmY
  split at h
  · rename_i h0
    obtain ⟨A, k, rfl, hL⟩ := h
    rw [if_pos h0, h0]
    exact ⟨A, _, k, rfl, hL, hb⟩
  · rename_i h0
    rw [if_neg h0, h]
    exact ⟨none, 0, 0, rfl, Lns.none _, hb⟩
theorem rev_enp {d : Int} {c : List UInt8} {l : List Ln} {w w' : World} {e : Ending} (h : RevPost d c l w e w') : EnP (revY d c l) (revI d c l) w e w' := by
  obtain ⟨hb, h⟩ := h
  unfold revY revI
  split at h
  · rename_i h0
    obtain ⟨A, k, rfl, hL⟩ := h
    rw [if_pos h0, if_pos h0]
    exact ⟨A, _, k, rfl, hL, hb⟩
  · rename_i h0
    rw [if_neg h0, if_neg h0, h]
    exact ⟨none, 0, 0, rfl, Lns.none _, hb⟩
/-! what a check that succeeds says -/
theorem lineI_iff {x : Ln} : lineI x = 0 ↔ codeB x.1 = true ∧ curB x.2.1 = true ∧ canB x = true := by
  unfold lineI
  constructor
  · intro h
    split at h
    · rename_i h1
      split at h
      · rename_i h2
        unfold chkI at h
        split at h
        · rename_i h3; exact ⟨h1, h2, decide_eq_true h3⟩
        · omega
      · omega
    · omega
  · rintro ⟨h1, h2, h3⟩
    rw [if_pos h1, if_pos h2, chkI, if_pos (of_decide_eq_true h3)]
theorem fldI_of {l : List Ln} (h : ∀ x ∈ l, lineI x = 0) : fldI l = 0 := by
  induction l with
  | nil => rfl
  | cons x r ih => rw [fldI_cons, if_neg (by rw [h x (by simp)]; decide), ih fun y hy => h y (List.mem_cons_of_mem _ hy)]
theorem chkLs_ord {p : Option Ky} {l : List Ln} (h : chkLs p l = 0) : OrdL l ∧ ∀ q, p = some q → ∀ x ∈ l, cmpKy q (key x) = -1 := by
  induction l generalizing p with
  | nil => exact ⟨List.Pairwise.nil, fun q _ x hx => (List.not_mem_nil hx).elim⟩
  | cons y r ih =>
    rw [chkLs_cons] at h
    split at h
    · omega
    · split at h
      · omega
      · split at h
        · omega
        · rename_i h2
          obtain ⟨i1, i2⟩ := ih h
          have i3 := i2 _ rfl
          refine ⟨List.pairwise_cons.2 ⟨i3, i1⟩, fun q hq x hx => ?_⟩
          subst hq
          have h4 : cmpKy q (key y) = -1 := by
            have h5 : ¬ 0 ≤ cmpKy q (key y) := fun hc => h2 (decide_eq_true hc)
            have := cmpKy_cmp.rng q (key y)
            omega
          rcases List.mem_cons.1 hx with e | e
          · subst e; exact h4
          · exact cmpKy_cmp.tr _ _ _ h4 (i3 x e)
theorem chkLs_of {p : Option Ky} {l : List Ln} (h : ∀ x ∈ l, lineI x = 0 ∧ x.2.2 ≠ []) (ho : OrdL l) (hp : ∀ q, p = some q → ∀ x ∈ l, cmpKy q (key x) = -1) : chkLs p l = 0 := by
  induction l generalizing p with
  | nil => unfold chkLs; rfl
  | cons y r ih =>
    unfold OrdL at ho
    rw [List.pairwise_cons] at ho
    obtain ⟨h1, h2⟩ := h y (by simp)
    have h3 : ¬ ordB p (key y) = true := by
      cases p with
      | none => exact fun e => by cases e
      | some q =>
        have := hp q rfl y (by simp)
        intro e
        have : 0 ≤ cmpKy q (key y) := of_decide_eq_true e
        omega
    rw [chkLs_cons, if_neg (by rw [h1]; decide), if_neg h2, if_neg h3]
    exact ih (fun x hx => h x (List.mem_cons_of_mem _ hx)) ho.2 fun q hq x hx => by cases hq; exact ho.1 x hx
structure Vld (d : Int) (c : List UInt8) (l : List Ln) : Prop where
  head : headI d c = 0
  pos : 0 < l.length
  top : l.length ≤ 64
  ln : ∀ x ∈ l, lineI x = 0 ∧ x.2.2 ≠ []
  ord : OrdL l
  bal : balB l = true
theorem chkE_iff {d : Int} {c : List UInt8} {l : List Ln} : chkE d c l = 0 ↔ Vld d c l := by
  constructor
  · intro h
    obtain ⟨h1, h2, h3, h4, h5⟩ := chkE_parts h
    exact ⟨h1, h2, h3, chkLs_zero h4, (chkLs_ord h4).1, h5⟩
  · rintro ⟨h1, h2, h3, h4, h5, h6⟩
    have h7 := chkLs_of (p := none) h4 h5 fun q e => by cases e
    unfold chkE
    rw [if_neg (by rw [h1]; decide), if_neg (by omega), if_neg (by omega), if_neg (by rw [h7]; decide), if_pos h6]
theorem Vld.can {d : Int} {c : List UInt8} {l : List Ln} (h : Vld d c l) : ∀ x ∈ l, canB x = true := fun x hx => (lineI_iff.1 (h.ln x hx).1).2.2
theorem Vld.all {d : Int} {c : List UInt8} {l : List Ln} (h : Vld d c l) : l.all canB = true := List.all_eq_true.2 h.can
/-- the sum of a line's key is its amount -/
theorem Vld.amt {d : Int} {c : List UInt8} {l : List Ln} (h : Vld d c l) {x : Ln} (hx : x ∈ l) : txt (Num.tot l (key x)) = x.2.2 := by
  rw [tot_mem h.ord.keys hx]; exact (canB_txt (h.can x hx)).symm
theorem Vld.ne {d : Int} {c : List UInt8} {l : List Ln} (h : Vld d c l) {x : Ln} (hx : x ∈ l) : val x.2.2 ≠ 0 := val_ne (of_decide_eq_true (h.can x hx)) (h.ln x hx).2
/-! normal forms -/
structure Nrd (d : Int) (c : List UInt8) (l : List Ln) : Prop where
  head : headI d c = 0
  ln : ∀ x ∈ l, lineI x = 0
  bal : balB l = true
  top : (nrmL l).length ≤ 64
theorem nrmI_iff {d : Int} {c : List UInt8} {l : List Ln} : nrmI d c l = 0 ↔ Nrd d c l := by
  unfold nrmI
  constructor
  · intro h
    split at h
    · omega
    · split at h
      · omega
      · split at h
        · omega
        · split at h
          · omega
          · rename_i h1 h2 h3 h4
            exact ⟨by omega, fldI_zero (by omega), by simpa using h3, by omega⟩
  · rintro ⟨h1, h2, h3, h4⟩
    rw [if_neg (by rw [h1]; decide), if_neg (by rw [fldI_of h2]; decide), if_neg (by rw [h3]; decide), if_neg (by omega)]
theorem Nrd.can {d : Int} {c : List UInt8} {l : List Ln} (h : Nrd d c l) : ∀ x ∈ l, canB x = true := fun x hx => (lineI_iff.1 (h.ln x hx)).2.2
theorem Nrd.of {d : Int} {c : List UInt8} {l : List Ln} (h : Nrd d c l) : NormOf l (nrmL l) := nrmL_of l h.can
theorem Vld.nrm {d : Int} {c : List UInt8} {l : List Ln} (h : Vld d c l) : nrmL l = l := nrmL_self h.ord fun x hx => ⟨h.can x hx, (h.ln x hx).2⟩
theorem Vld.nrd {d : Int} {c : List UInt8} {l : List Ln} (h : Vld d c l) : Nrd d c l := ⟨h.head, fun x hx => (h.ln x hx).1, h.bal, by rw [h.nrm]; exact h.top⟩
theorem nrm_key {l out : List Ln} (h : NormOf l out) {z : Ln} (hz : z ∈ out) : ∃ x ∈ l, key x = key z := by
  by_cases e : ∃ x ∈ l, key x = key z
  · exact e
  · exact absurd (tot_none fun x hx ek => e ⟨x, hx, ek⟩) ((h.mem z).1 hz).2
theorem Nrd.nln {d : Int} {c : List UInt8} {l : List Ln} (h : Nrd d c l) : ∀ z ∈ nrmL l, lineI z = 0 ∧ z.2.2 ≠ [] := fun z hz => by
  obtain ⟨x, hx, e⟩ := nrm_key h.of hz
  obtain ⟨h1, h2, _⟩ := lineI_iff.1 (h.ln x hx)
  have h3 := h.of.amt z hz
  simp only [key, Prod.mk.injEq] at e
  exact ⟨lineI_iff.2 ⟨by rw [← e.1]; exact h1, by rw [← e.2]; exact h2, h3.1⟩, h3.2⟩
theorem Nrd.self {d : Int} {c : List UInt8} {l : List Ln} (h : Nrd d c l) : nrmL (nrmL l) = nrmL l := nrmL_self h.of.ord h.of.amt
theorem Nrd.again {d : Int} {c : List UInt8} {l : List Ln} (h : Nrd d c l) : Nrd d c (nrmL l) :=
  ⟨h.head, fun z hz => (h.nln z hz).1, by rw [balB_of_tot h.of.tot]; exact h.bal, by rw [h.self]; exact h.top⟩
theorem Nrd.vld {d : Int} {c : List UInt8} {l : List Ln} (h : Nrd d c l) (h0 : 0 < (nrmL l).length) : Vld d c (nrmL l) :=
  ⟨h.head, h0, h.top, h.nln, h.of.ord, by rw [balB_of_tot h.of.tot]; exact h.bal⟩
/-- a list with the same sums, whose lines are well formed, has the same normal form -/
theorem Nrd.same {d : Int} {c : List UInt8} {l m : List Ln} (h : Nrd d c l) (hm : ∀ x ∈ m, lineI x = 0) (ht : ∀ k, tot m k = tot l k) : Nrd d c m ∧ nrmL m = nrmL l := by
  have e := nrmL_tot (fun x hx => (lineI_iff.1 (hm x hx)).2.2) h.can ht
  exact ⟨⟨h.head, hm, by rw [balB_of_tot ht]; exact h.bal, by rw [e]; exact h.top⟩, e⟩
/-! reversals -/
theorem canB_t {a b : List UInt8} {v : Int} : canB (a, b, txt v) = true := by
  unfold canB can
  rw [val_txt]
  exact decide_eq_true rfl
theorem negL_key (x : Ln) : key (negL x) = key x := rfl
theorem negL_val (x : Ln) : val (negL x).2.2 = - val x.2.2 := val_txt _
theorem negL_twice {x : Ln} (h : canB x = true) : negL (negL x) = x := by
  unfold negL
  rw [val_txt, Int.neg_neg, ← canB_txt h]
theorem Vld.neg {d : Int} {c : List UInt8} {l : List Ln} (h : Vld d c l) : Vld d c (l.map negL) := by
  refine ⟨h.head, by rw [List.length_map]; exact h.pos, by rw [List.length_map]; exact h.top, fun z hz => ?_, ?_, ?_⟩
  · obtain ⟨x, hx, rfl⟩ := List.mem_map.1 hz
    obtain ⟨h1, h2, _⟩ := lineI_iff.1 (h.ln x hx).1
    refine ⟨lineI_iff.2 ⟨h1, h2, canB_t⟩, fun e => ?_⟩
    have := h.ne hx
    have := txt_nil.1 e
    omega
  · exact List.Pairwise.map negL (fun a b h => h) h.ord
  · rw [balB_iff]
    intro q
    have := curT_opp l q
    have h2 := balB_iff.1 h.bal q
    show curT (l.map oppL) q = 0
    omega
theorem Vld.twice {d : Int} {c : List UInt8} {l : List Ln} (h : Vld d c l) : (l.map negL).map negL = l := by
  rw [List.map_map]
  conv => rhs; rw [← List.map_id l]
  exact List.map_congr_left fun x hx => negL_twice (h.can x hx)
theorem Vld.both {d : Int} {c : List UInt8} {l : List Ln} (h : Vld d c l) : Nrd d c (l ++ l.map negL) ∧ nrmL (l ++ l.map negL) = [] := by
  have hl : ∀ x ∈ l ++ l.map negL, lineI x = 0 := fun x hx => by
    rcases List.mem_append.1 hx with e | e
    · exact (h.ln x e).1
    · exact (h.neg.ln x e).1
  have ht : ∀ k, tot (l ++ l.map negL) k = tot [] k := fun k => by
    have := tot_opp l k
    rw [tot_append, tot_nil]
    show tot l k + tot (l.map oppL) k = 0
    omega
  have e : nrmL (l ++ l.map negL) = [] := by
    rw [nrmL_tot (m := []) (fun x hx => (lineI_iff.1 (hl x hx)).2.2) (fun x hx => (List.not_mem_nil hx).elim) ht]; rfl
  exact ⟨⟨h.head, hl, by rw [balB_of_tot ht]; rfl, by rw [e]; decide⟩, e⟩
theorem Vld.opp {d : Int} {c : List UInt8} {l : List Ln} (h : Vld d c l) {x : Ln} (hx : x ∈ l) : Num.tot (l.map negL) (key x) = - val x.2.2 := by
  have := tot_opp l (key x)
  rw [tot_mem h.ord.keys hx] at this
  exact this
theorem neg_len {c : List UInt8} {l : List Ln} (h : Fit c l) : ∀ z ∈ l.map negL, z.2.2.length ≤ 14 := fun z hz => by
  obtain ⟨x, hx, rfl⟩ := List.mem_map.1 hz
  have h1 := val_bd x.2.2
  have h2 : 10 ^ x.2.2.length ≤ 10 ^ 13 := Nat.pow_le_pow_right (by omega) (h.ln x hx).2.2
  have := txt_bd (v := - val x.2.2) (k := 13) (by omega)
  exact this
theorem nrm_len {c : List UInt8} {l : List Ln} (h : Fit c l) : ∀ z ∈ nrmL l, z.2.2.length ≤ 20 := fun z hz => by
  have h1 := (nrmL_amk l (fun x hx => (h.ln x hx).2.2) l.length (Nat.le_refl _)).2
  rw [List.take_length] at h1
  exact amk_100 (h1 z hz) (by have := h.len; omega)
/-! the order -/
theorem cmpE_ne_rev {d : Int} {c : List UInt8} {l : List Ln} (h : Vld d c l) : cmpE (d, c, l) (d, c, l.map negL) ≠ 0 := by
  intro e
  have e1 := (cmpE_zero (a := (d, c, l)) (b := (d, c, l.map negL)) h.all h.neg.all).1 e
  have e2 : l = l.map negL := congrArg (fun q : En => q.2.2) e1
  obtain ⟨x, hx⟩ := List.exists_mem_of_length_pos h.pos
  have h1 := h.opp hx
  rw [← e2, tot_mem h.ord.keys hx] at h1
  have := h.ne hx
  omega
theorem cmp3 {x y z : En} : ¬ (cmpE x y ≤ 0 ∧ cmpE y z ≤ 0 ∧ min (cmpE x y) (cmpE y z) < cmpE x z) ∧ ¬ (0 ≤ cmpE x y ∧ 0 ≤ cmpE y z ∧ cmpE x z < max (cmpE x y) (cmpE y z)) := by
  have hc := cmpE_cmp
  have r1 := hc.rng x y
  have r2 := hc.rng y z
  have r3 := hc.rng x z
  have e1 := hc.eqv x y z
  have e2 := hc.eqv' y z x
  have t1 := hc.tr x y z
  have t2 := hc.ge x y z
  constructor
  · rintro ⟨h1, h2, h3⟩
    rcases r1 with r1 | r1 | r1 <;> rcases r2 with r2 | r2 | r2 <;> omega
  · rintro ⟨h1, h2, h3⟩
    rcases r1 with r1 | r1 | r1 <;> rcases r2 with r2 | r2 | r2 <;> omega
end Go.Proofs.YtdnomfekblmnbaaGreatDoor
