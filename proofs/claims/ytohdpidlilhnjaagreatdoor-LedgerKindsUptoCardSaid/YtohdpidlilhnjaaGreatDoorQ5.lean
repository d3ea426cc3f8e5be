/- Contract of entry.Check. -/
import Derived.Test.YtohdpidlilhnjaaGreatDoorQ4
import Derived.OwnWalk
import Derived.Laws.OwnMore
import Derived.Lib.AppendZeros
import Derived.Maps.AppendAt
import Derived.DeepKeys4
import Derived.RangeFuncNested
import Derived.RangeFuncBound
import Derived.RangeFuncCalls
import Derived.RangeFuncLeaves
import Derived.RangeFuncBox
import Derived.Sort.MapsRangeIn
import Derived.Sort.KeysCollected
import Derived.Maps.OwnIn
import Derived.Shelf.Abstract
import Derived.Shelf.RegionOpen
import Derived.WalkKit
import Derived.OwnWalkIn
import Derived.TacticsInMore
import Derived.LoopNIn
import Derived.LoopIn
import Derived.Shelf.SlSortCmp.NoneTotal
import Derived.Test.YtohdpidlilhnjaaGreatDoorChecked
import Derived.Shelf.SlSortCmp.WholeK
import Derived.Laws.AppendOwn
import Derived.Below
namespace Go.Proofs.YtohdpidlilhnjaaGreatDoor
open Go.RowKit Go.Maps Num

/-- not in order behind p -/
def ordB (p : Option Ky) (q : Ky) : Bool := match p with | none => false | some p => decide (0 ≤ cmpKy p q)
/-- what is wrong with lines: their fields, an amount of 0, their order; p: the place of the line ahead -/
def chkLs : Option Ky → List Ln → Int
  | _, [] => 0
  | p, x :: r => if lineI x ≠ 0 then lineI x else if x.2.2 = [] then 2 else if ordB p (key x) then 8 else chkLs (some (key x)) r
theorem chkLs_cons (p : Option Ky) (x : Ln) (r : List Ln) : chkLs p (x :: r) = if lineI x ≠ 0 then lineI x else if x.2.2 = [] then 2 else if ordB p (key x) then 8 else chkLs (some (key x)) r := rfl
/-- what is wrong with an entry -/
def chkE (d : Int) (c : List UInt8) (l : List Ln) : Int :=
  if headI d c ≠ 0 then headI d c else if l.length = 0 then 11 else if 64 < l.length then 4 else if chkLs none l ≠ 0 then chkLs none l else if balB l then 0 else 14
def prevAt (l : List Ln) : Nat → Option Ky
  | 0 => none
  | k + 1 => some (key (l.getD k ln0))
theorem drop_ln (l : List Ln) (k : Nat) (h : k < l.length) : l.drop k = l.getD k ln0 :: l.drop (k + 1) := by
  rw [List.drop_eq_getElem_cons h, List.getD_eq_getElem?_getD, List.getElem?_eq_getElem h]; rfl
def ChkR (w : World) (l : List Ln) (k : Nat) (W : World) : Prop := chkLs none l = chkLs (prevAt l k) (l.drop k) ∧ Below w.heap.size w W
set_option maxRecDepth 100000 in
set_option maxHeartbeats 4000000 in
theorem Chk_any (d : Int) (cz : List UInt8) (A : Option Addr) (n c : Nat) (l : List Ln) (w : World) (hl : Lns w A n c l) (hcz : cz.length ≤ maxLen) (ht : Tab w) (hm : ML w) :
    Calls Tryz.prog 89 #[.agg (enV d cz A n c)] w (IntPost (chkE d cz l) w) := by
  have hn := hl.small
  have ll := Lib.hid hl.len
  have hB0 : Below w.heap.size w (w.alloc (.cells #[.int .i64 d, .string ⟨cz.toArray⟩, .slice A n c] 39)) := (Below.refl _ w).alloc (Nat.le_refl _) _
  have hx : (w.alloc (.cells #[.int .i64 d, .string ⟨cz.toArray⟩, .slice A n c] 39)).cell? ⟨w.heap.size, 2, none⟩ = some (.slice A n c) := by go_simp
  have c0 := fun W => checkHead_any d cz A n c W hcz
  have hE := Lib.hid (show chkE d cz l = if headI d cz ≠ 0 then headI d cz else if l.length = 0 then 11 else if 64 < l.length then 4 else if chkLs none l ≠ 0 then chkLs none l else if balB l then 0 else 14 from rfl)
  generalize chkE d cz l = r at *
  generalize headI d cz = hd at *
  have H0 := Lib.hid hB0
  have HT := Lib.hid ht
  have HM := Lib.hid hm
  have L1 := Lib.hid hl
  have l0 := Lib.hid (block_lt_of_cell hx)
  have hx0 := Lib.hid hx
  clear hl ht hm
  unfold enV
  go_enter Tryz.func89, Tryz.ntmps89
  go_wp2_with fail
  refine (c0 _).mono ?_
  rintro e w1 ⟨rfl, hb1⟩
  have hx1 := (hb1.cell l0.out).trans hx
  have HB1 := Lib.hid (below_next H0.out hb1 ⟨rfl, rfl, rfl, rfl⟩)
  have HB1' := Lib.hid hb1
  clear hb1 hx
  by_cases hz : hd = 0
  case neg =>
    have hzb : (hd == 0) = false := beq_eq_false_iff_ne.2 hz
    have hzb' : (hd != 0) = true := by rw [bne_iff_ne]; exact hz
    have hv := Lib.hid (show r = hd by rw [hE.out, if_pos hz])
    go_wp2_with fail
    go_ret
    exact ⟨by rw [hv.out]; rfl, HB1.out⟩
  subst hz
  by_cases h0 : n = 0
  · have hv := Lib.hid (show r = 11 by rw [hE.out, if_neg (by omega), if_pos (by rw [ll.out]; exact h0)])
    subst h0
    go_wp2_with fail
    go_ret
    exact ⟨by rw [hv.out]; rfl, HB1.out⟩
  have h0i : ((n : Int) == 0) = false := beq_eq_false_iff_ne.2 (by omega)
  have h0j : (n == 0) = false := beq_eq_false_iff_ne.2 (by omega)
  by_cases h64 : 64 < n
  · have hv := Lib.hid (show r = 4 by rw [hE.out, if_neg (by omega), if_neg (by rw [ll.out]; exact h0), if_pos (by rw [ll.out]; exact h64)])
    have h64i : (64 : Int) < (n : Int) := by omega
    go_wp2_with fail
    go_ret
    exact ⟨by rw [hv.out]; rfl, HB1.out⟩
  have hv := Lib.hid (show r = if chkLs none l ≠ 0 then chkLs none l else if balB l then 0 else 14 by rw [hE.out, if_neg (by omega), if_neg (by rw [ll.out]; exact h0), if_neg (by rw [ll.out]; exact h64)])
  have h64i : ¬ (64 : Int) < (n : Int) := by omega
  go_wp2_with fail
  have l1 := Lib.hid (block_lt_of_cell hx1)
  have hx1h := Lib.hid hx1
  have hh := Lib.hid (fun W (h : Below w1.heap.size w1 W) => below_next HB1.out h ⟨rfl, rfl, rfl, rfl⟩)
  have R0 := Lib.hid (show ChkR w1 l 0 w1 from ⟨by rw [List.drop_zero]; rfl, Below.refl _ _⟩)
  go_loopw [23] (fun i wr => ∃ k : Nat, k ≤ n ∧ i = .int .i64 (k : Int) ∧ Hid (ChkR w1 l k wr)) (fun i _ => n - (intOf i).toNat)
  case atStart => exact ⟨0, by omega, rfl, R0⟩
  case round =>
    obtain ⟨k, hk, rfl, hR⟩ := hrel
    have hch := Lib.hid hR.out.1
    have HC := Lib.hid hR.out.2
    have HB := Lib.hid (hh.out _ hR.out.2)
    have xb := (HC.out.cell l1.out).trans hx1h.out
    clear hR R0
    by_cases hlt : k < n
    · obtain ⟨b1, o1, rfl, hb1, hc1⟩ := L1.out.at_ (by omega)
      obtain ⟨q0, q1, q2⟩ := hc1 k hlt
      have r0 := (HB.out.cell (p := ⟨b1, o1 + k * 3, none⟩) hb1).trans q0
      have r1 := (HB.out.cell (p := ⟨b1, o1 + k * 3 + 1, none⟩) hb1).trans q1
      have r2 := (HB.out.cell (p := ⟨b1, o1 + k * 3 + 2, none⟩) hb1).trans q2
      have hsx := Lib.hid (L1.out.sml _ (lnAt_mem l k (by rw [ll.out]; exact hlt)))
      have hki : (k : Int) < (n : Int) := by omega
      have hdr := drop_ln l k (by rw [ll.out]; exact hlt)
      have hch2 := hch.out
      rw [hdr, chkLs_cons] at hch2
      have hpk : prevAt l (k + 1) = some (key (l.getD k ln0)) := rfl
      clear q0 q1 q2 hdr
      generalize hxe : l.getD k ln0 = x at *
      have cl := fun W hW1 hW2 => checkLine_any x W hsx.out hW1 hW2
      obtain ⟨a, cu, m⟩ := x
      unfold lnV at cl
      simp only at r0 r1 r2 cl
      generalize hli : lineI (a, cu, m) = li at *
      have l2 := HB.out.size
      have HB2 := Lib.hid (show Below w.heap.size w (wr.alloc (.cells #[.string ⟨a.toArray⟩, .string ⟨cu.toArray⟩, .string ⟨m.toArray⟩] 40)) from HB.out.alloc l2 _)
      have HC2 := Lib.hid (show Below w1.heap.size w1 (wr.alloc (.cells #[.string ⟨a.toArray⟩, .string ⟨cu.toArray⟩, .string ⟨m.toArray⟩] 40)) from HC.out.alloc HC.out.size _)
      have x0 : (wr.alloc (.cells #[.string ⟨a.toArray⟩, .string ⟨cu.toArray⟩, .string ⟨m.toArray⟩] 40)).cell? ⟨wr.heap.size, 0, none⟩ = some (.string ⟨a.toArray⟩) := by go_simp
      have x1 : (wr.alloc (.cells #[.string ⟨a.toArray⟩, .string ⟨cu.toArray⟩, .string ⟨m.toArray⟩] 40)).cell? ⟨wr.heap.size, 1, none⟩ = some (.string ⟨cu.toArray⟩) := by go_simp
      have x2 : (wr.alloc (.cells #[.string ⟨a.toArray⟩, .string ⟨cu.toArray⟩, .string ⟨m.toArray⟩] 40)).cell? ⟨wr.heap.size, 2, none⟩ = some (.string ⟨m.toArray⟩) := by go_simp
      have HX := Lib.hid (And.intro x0 (And.intro x1 x2))
      have l3 := Lib.hid (block_lt_of_cell x0)
      have hT := Lib.hid (HT.out.below HB2.out)
      have hM := Lib.hid (HM.out.below HB2.out)
      clear x0 x1 x2
      go_wp2_with fail
      refine (cl _ hM.out hT.out).mono ?_
      rintro e w2 ⟨rfl, hb⟩
      have HB3 := Lib.hid (below_next HB2.out hb ⟨rfl, rfl, rfl, rfl⟩)
      have HC3 := Lib.hid (below_next HC2.out hb ⟨rfl, rfl, rfl, rfl⟩)
      have d0 := (hb.cell l3.out).trans HX.out.1
      have d1 := (hb.cell (p := ⟨wr.heap.size, 1, none⟩) l3.out).trans HX.out.2.1
      have d2 := (hb.cell (p := ⟨wr.heap.size, 2, none⟩) l3.out).trans HX.out.2.2
      clear hb
      by_cases hz : li = 0
      case neg =>
        have hzb : (li == 0) = false := beq_eq_false_iff_ne.2 hz
        have hzb' : (li != 0) = true := by rw [bne_iff_ne]; exact hz
        have hv1 := Lib.hid (show r = li by rw [hv.out, hch2, if_pos hz, if_pos hz])
        go_wp2_with fail
        go_ret
        exact ⟨by rw [hv1.out]; rfl, HB3.out⟩
      subst hz
      rw [if_neg (by omega)] at hch2
      rcases m with _ | ⟨m0, mr⟩
      · rw [if_pos rfl] at hch2
        have hv1 := Lib.hid (show r = 2 by rw [hv.out, hch2, if_pos (by omega)])
        go_wp2_with fail
        go_ret
        exact ⟨by rw [hv1.out]; rfl, HB3.out⟩
      rw [if_neg (by simp)] at hch2
      go_upto_region 16 with fail
      have xb2 : w2.cell? ⟨w.heap.size, 2, none⟩ = some (.slice (some ⟨b1, o1, none⟩) n c) := (HC3.out.cell l1.out).trans hx1h.out
      by_cases hk0 : k = 0
      · have hf : ordB (prevAt l k) (key (a, cu, m0 :: mr)) = false := by rw [hk0]; rfl
        rw [hf, if_neg (by decide)] at hch2
        have hk0i : ¬ (0 : Int) < (k : Int) := by omega
        have hk0n : ¬ 0 < k := by omega
        clear hk0
        go_quiet (fail)
        have HC4 := Lib.hid (below_dr HC3.out nq)
        have RR := Lib.hid (show ChkR w1 l (k + 1) (w2.drewN nq) from ⟨by rw [hpk]; exact hch2, HC4.out⟩)
        clear hch2 hpk
        go_wp2_with fail
        go_roundw
        case rel => exact ⟨k + 1, by omega, by go_num, RR⟩
        case measure => simp [intOf]; omega
      · obtain ⟨j, hj⟩ : ∃ j, k = j + 1 := ⟨k - 1, by omega⟩
        have hHj := Lib.hid hj
        obtain ⟨q0, q1, q2⟩ := hc1 j (by omega)
        have p0 := (HB3.out.cell (p := ⟨b1, o1 + j * 3, none⟩) hb1).trans q0
        have p1 := (HB3.out.cell (p := ⟨b1, o1 + j * 3 + 1, none⟩) hb1).trans q1
        have p2 := (HB3.out.cell (p := ⟨b1, o1 + j * 3 + 2, none⟩) hb1).trans q2
        have hpv : prevAt l k = some (key (l.getD j ln0)) := by rw [hj]; rfl
        rw [hpv] at hch2
        have hw : IntKind.i64.wrap ((k : Int) - 1) = (j : Int) := (IntWalk.i64_in _ (by omega)).trans (by omega)
        have hji : (j : Int) < (n : Int) := by omega
        have hk0i : (0 : Int) < (k : Int) := by omega
        have hk0n : 0 < k := by omega
        clear q0 q1 q2 hpv hj hk0 r0 r1 r2 hc1
        generalize l.getD j ln0 = y at *
        obtain ⟨ya, yc, ym⟩ := y
        simp only at p0 p1 p2
        have HS := Lib.hid (And.intro xb2 (And.intro p0 (And.intro p1 (And.intro p2 (And.intro d0 (And.intro d1 d2))))))
        have lb := block_lt_of_cell xb2
        have ly := block_lt_of_cell p0
        have lx := block_lt_of_cell d0
        have HD := Lib.hid (Below.refl w2.heap.size w2)
        generalize hcv : cmpKy (ya, yc) (a, cu) = cv at *
        go_region_held3 (fun w' => w'.cell? ⟨w.heap.size, 2, none⟩ = some (.slice (some ⟨b1, o1, none⟩) n c) ∧ w'.cell? ⟨b1, o1 + j * 3, none⟩ = some (.string ⟨ya.toArray⟩) ∧ w'.cell? ⟨b1, o1 + j * 3 + 1, none⟩ = some (.string ⟨yc.toArray⟩) ∧ w'.cell? ⟨b1, o1 + j * 3 + 2, none⟩ = some (.string ⟨ym.toArray⟩) ∧ w'.cell? ⟨wr.heap.size, 0, none⟩ = some (.string ⟨a.toArray⟩) ∧ w'.cell? ⟨wr.heap.size, 1, none⟩ = some (.string ⟨cu.toArray⟩) ∧ w'.cell? ⟨wr.heap.size, 2, none⟩ = some (.string ⟨(m0 :: mr).toArray⟩))
          (first | exact ⟨f0, f1, f2, f3, f4, f5, f6⟩ | exact ⟨xb2, p0, p1, p2, d0, d1, d2⟩ | go_keep)
          (first
            | (go_at_call 139; refine (place3 _ _ _ _).mono ?_; rintro e w' ⟨rfl, hb⟩; have HD := Lib.hid (below_next HD.out hb ⟨rfl, rfl, rfl, rfl⟩); have f0 := (HD.out.cell lb).trans HS.out.1; have f1 := (HD.out.cell ly).trans HS.out.2.1; have f2 := (HD.out.cell (p := ⟨b1, o1 + j * 3 + 1, none⟩) ly).trans HS.out.2.2.1; have f3 := (HD.out.cell (p := ⟨b1, o1 + j * 3 + 2, none⟩) ly).trans HS.out.2.2.2.1; have f4 := (HD.out.cell lx).trans HS.out.2.2.2.2.1; have f5 := (HD.out.cell (p := ⟨wr.heap.size, 1, none⟩) lx).trans HS.out.2.2.2.2.2.1; have f6 := (HD.out.cell (p := ⟨wr.heap.size, 2, none⟩) lx).trans HS.out.2.2.2.2.2.2; clear hb)
            | (go_at_call 140; refine (kcmp3 _ _ _ _ _).mono ?_; rintro e w' ⟨rfl, hb⟩; have HD := Lib.hid (below_next HD.out hb ⟨rfl, rfl, rfl, rfl⟩); have f0 := (HD.out.cell lb).trans HS.out.1; have f1 := (HD.out.cell ly).trans HS.out.2.1; have f2 := (HD.out.cell (p := ⟨b1, o1 + j * 3 + 1, none⟩) ly).trans HS.out.2.2.1; have f3 := (HD.out.cell (p := ⟨b1, o1 + j * 3 + 2, none⟩) ly).trans HS.out.2.2.2.1; have f4 := (HD.out.cell lx).trans HS.out.2.2.2.2.1; have f5 := (HD.out.cell (p := ⟨wr.heap.size, 1, none⟩) lx).trans HS.out.2.2.2.2.2.1; have f6 := (HD.out.cell (p := ⟨wr.heap.size, 2, none⟩) lx).trans HS.out.2.2.2.2.2.2; clear hb))
        have hf : ordB (some (key (ya, yc, ym))) (key (a, cu, m0 :: mr)) = decide (0 ≤ cv) := by
          show decide (0 ≤ cmpKy (ya, yc) (a, cu)) = _
          rw [hcv]
        rw [hf] at hch2
        by_cases hc0 : 0 ≤ cv
        · rw [decide_eq_true hc0, if_pos rfl] at hch2
          have hv1 := Lib.hid (show r = 8 by rw [hv.out, hch2, if_pos (by omega)])
          have HB4 := Lib.hid (HB3.out.trans (HD.out.mono HB3.out.size))
          go_wp2_with fail
          go_ret
          exact ⟨by rw [hv1.out]; rfl, HB4.out⟩
        · rw [decide_eq_false hc0, if_neg (by decide)] at hch2
          have HC4 := Lib.hid (HC3.out.trans (HD.out.mono HC3.out.size))
          have RR := Lib.hid (fun W (h : Below w1.heap.size w1 W) => show ChkR w1 l (k + 1) W from ⟨by rw [hpk]; exact hch2, h⟩)
          clear hch2 hpk hf hcv
          go_wp2_with fail
          go_roundw
          case rel => exact ⟨k + 1, by omega, by go_num, Lib.hid (RR.out _ HC4.out)⟩
          case measure => simp [intOf]; omega
    · have hkn : k = n := by omega
      subst hkn
      have hki : ¬ (k : Int) < (k : Int) := by omega
      have e : List.drop k l = [] := List.drop_eq_nil_of_le (by rw [ll.out]; exact Nat.le_refl _)
      have hch3 := hch.out
      rw [e] at hch3
      have hv1 := hv.out
      rw [show chkLs none l = 0 from hch3, if_neg (by omega)] at hv1
      have hv2 := Lib.hid hv1
      have cb := balances_any A k c l wr (L1.out.below HB.out) (HT.out.below HB.out)
      have HCB := Lib.hid cb
      generalize balB l = bb at *
      clear hv1 hch3 e hv cb
      cases bb
      · go_wp2_with fail
        refine HCB.out.mono ?_
        rintro e w2 ⟨rfl, hb⟩
        have HB3 := Lib.hid (below_next HB.out hb ⟨rfl, rfl, rfl, rfl⟩)
        clear hb
        go_wp2_with fail
        go_ret
        exact ⟨by rw [hv2.out]; rfl, HB3.out⟩
      · go_wp2_with fail
        refine HCB.out.mono ?_
        rintro e w2 ⟨rfl, hb⟩
        have HB3 := Lib.hid (below_next HB.out hb ⟨rfl, rfl, rfl, rfl⟩)
        clear hb
        go_wp2_with fail
        go_ret
        exact ⟨by rw [hv2.out]; rfl, HB3.out⟩
end Go.Proofs.YtohdpidlilhnjaaGreatDoor

/- Slices of lines of the call's own. -/
namespace Go.Proofs.YtohdpidlilhnjaaGreatDoor
open Go.RowKit Go.Maps Num

def LV (x : Ln) : List Value := [.string ⟨x.1.toArray⟩, .string ⟨x.2.1.toArray⟩, .string ⟨x.2.2.toArray⟩]
def LVs (l : List Ln) : List Value := l.flatMap LV
theorem LVs_cons (x : Ln) (l : List Ln) : LVs (x :: l) = LV x ++ LVs l := rfl
theorem LVs_append (a b : List Ln) : LVs (a ++ b) = LVs a ++ LVs b := List.flatMap_append
theorem LVs_len (l : List Ln) : (LVs l).length = l.length * 3 := by
  induction l with
  | nil => rfl
  | cons x r ih => rw [LVs_cons, List.length_append, ih, List.length_cons]; simp [LV]; omega
theorem LVs_at (l : List Ln) (k j : Nat) (hk : k < l.length) (hj : j < 3) : (LVs l)[k * 3 + j]? = (LV (l.getD k ln0))[j]? := by
  induction l generalizing k with
  | nil => cases hk
  | cons x r ih =>
    rw [LVs_cons]
    cases k with
    | zero => rw [List.getElem?_append_left (by simp [LV]; omega)]; simp
    | succ k =>
      rw [List.getElem?_append_right (by simp [LV]; omega), show (k + 1) * 3 + j - (LV x).length = k * 3 + j by simp [LV]; omega, ih k (by simpa using hk)]
      simp
theorem LVs_one (l : List Ln) : ∀ u ∈ LVs l, u.oneCell' = true := by
  intro u hu
  obtain ⟨x, _, hx⟩ := List.mem_flatMap.1 hu
  simp only [LV, List.mem_cons, List.not_mem_nil, or_false] at hx
  rcases hx with rfl | rfl | rfl <;> rfl
/-- v is a slice of lines of the call's own (from block B on). -/
def OwnL (B : Nat) (w : World) (v : Value) (l : List Ln) : Prop := w.ownsRow B 40 3 v l.length (LVs l)
theorem OwnL.nil (B : Nat) (w : World) : OwnL B w (.slice none 0 0) [] := World.ownsRow_nil w B 40 3
set_option maxRecDepth 100000 in
theorem info45 : (Tryz.prog.info? 40).map (fun i => (i.zero, i.size, i.bytes)) = some (some (.agg #[.string ⟨#[]⟩, .string ⟨#[]⟩, .string ⟨#[]⟩]), 3, 48) := by kernel_rfl
/-- append(s, x): x lies in a block of its own -/
theorem op_append_l {o : Oper} {a : Act} {K : Act → World → Prop} {Q : Exit → Act → World → Prop} (s x : Operand)
    (ho : o.op = .call { callee := .builtin .append, args := #[s, x], argTypes := #[37, 37] })
    (B : Nat) (v : Value) (ns : List Ln) (w : World) (z : Ln) (hs : a.eval s = v) (hown : OwnL B w v ns) (hx : a.eval x = .slice (some ⟨w.heap.size, 0, none⟩) 1 1)
    (hB : B ≤ w.heap.size) (hn : ns.length ≤ 1000)
    (h : ∀ v' w', OwnL B w' v' (ns ++ [z]) → w.grownBy w' v.ownBlock → K (a.put o.dst v') w') : o.wp Tryz.prog a (w.alloc (.cells #[.string ⟨z.1.toArray⟩, .string ⟨z.2.1.toArray⟩, .string ⟨z.2.2.toArray⟩] 40)) K Q := by
  obtain ⟨i0, hi, hz0, hz1, hz2⟩ := info_parts info45
  refine wp_append_own _ s x 37 ho B 40 i0 _ 3 48 Tryz.underlying37 hi hz0 hz1 hz2 rfl (by decide) v ns.length (LVs ns) hs (World.ownsRow.alloc hown _) ⟨w.heap.size, 0, none⟩ 1 1 (LVs [z]) hx (by simp [LVs, LV]) ?_ ?_ ?_ ?_ ?_ ?_
  · intro j u hu
    have hadd : (⟨w.heap.size, 0, none⟩ : Addr).add j = ⟨w.heap.size, j, none⟩ := by unfold Addr.add; split <;> simp_all
    rw [hadd, cell_of_row _ _ _ _ _ _ (heap_alloc_new w _), ← hu]
    simp [LVs, LV]
  · exact LVs_one [z]
  · simp only [maxLen]; omega
  · omega
  · simp; omega
  · intro v' w' h2 h3 _
    refine h v' w' ?_ ?_
    · unfold OwnL
      rw [List.length_append, LVs_append]
      exact h2
    · exact (World.grownBy_alloc w _ _).trans h3
theorem OwnL.cells {B : Nat} {w : World} {v : Value} {l : List Ln} (h : OwnL B w v l) (hn : l.length ≤ 1000) (hs : ∀ x ∈ l, Sml x) : ∃ A c, v = .slice A l.length c ∧ Lns w A l.length c l := by
  rcases h.2 with ⟨rfl, h0⟩ | ⟨g, cap, cur, rfl, _, hg, hc, hm, hsz, htake⟩
  · exact ⟨none, 0, by rw [h0], rfl, by omega, by omega, hn, hs, fun hh => by omega⟩
  · refine ⟨_, _, rfl, rfl, hc, hm, hn, hs, fun _ => ⟨g, 0, rfl, ?_, fun k hk => ?_⟩⟩
    · rcases Nat.lt_or_ge g w.heap.size with h' | h'
      · exact h'
      · rw [Array.getElem?_eq_none h'] at hg; cases hg
    · have hc1 : ∀ j, j < 3 → w.cell? ⟨g, k * 3 + j, none⟩ = (LV (l.getD k ln0))[j]? := fun j hj => by
        rw [cell_of_row _ _ _ _ _ _ hg, ← LVs_at l k j hk hj, ← htake, List.getElem?_take, if_pos (by omega), Array.getElem?_toList]
      simp only [Nat.zero_add]
      exact ⟨hc1 0 (by omega), hc1 1 (by omega), hc1 2 (by omega)⟩
theorem OwnL.kept {B : Nat} {w w' : World} {v : Value} {l : List Ln} {row : Option Nat} (h : OwnL B w v l) (hg : w.grownBy w' row) (hr : ∀ k, row = some k → k < B) : OwnL B w' v l :=
  World.ownsRow.kept h hg (by
    cases hv : v.ownBlock with
    | none => exact .inl rfl
    | some g =>
      refine .inr fun e => ?_
      have := hr g e.symm
      have := (World.ownsRow.lt h g hv).1
      omega)
theorem OwnL.below {B : Nat} {w w' : World} {v : Value} {l : List Ln} (h : OwnL B w v l) (hb : Below w.heap.size w w') : OwnL B w' v l := h.kept (row := none) (grown_of_below hb) (fun _ e => by cases e)
theorem OwnL.own {B : Nat} {w : World} {v : Value} {l : List Ln} (h : OwnL B w v l) : ∀ k, v.ownBlock = some k → B ≤ k := fun k hk => (World.ownsRow.lt h k hk).1
theorem grown_setCell (w : World) (a : Addr) (u : Value) : w.grownBy (w.setCell a u) (some a.block) :=
  ⟨rfl, rfl, rfl, by simp, fun k _ hk => Below.heap_setCell w a u k (fun e => hk (by rw [e]))⟩
end Go.Proofs.YtohdpidlilhnjaaGreatDoor

/- Contract of entry.Reverse. -/
namespace Go.Proofs.YtohdpidlilhnjaaGreatDoor
open Go.RowKit Go.Maps Num

def negL (x : Ln) : Ln := (x.1, x.2.1, txt (- val x.2.2))
theorem negL_sml {x : Ln} (h : Sml x) (hl : x.2.2.length ≤ 60) : Sml (negL x) := by
  refine ⟨h.1, h.2.1, ?_⟩
  have h1 := val_bd x.2.2
  have h2 : 10 ^ x.2.2.length ≤ 10 ^ 60 := Nat.pow_le_pow_right (by omega) hl
  have := txt_bd (v := - val x.2.2) (k := 60) (by omega)
  show (txt _).length ≤ 100
  omega
def RevPost (d : Int) (cz : List UInt8) (l : List Ln) (w : World) (e : Ending) (w' : World) : Prop :=
  Below w.heap.size w w' ∧ if chkE d cz l = 0 then ∃ A c, e = .returned (.tuple #[.agg (enV d cz A l.length c), .int .i64 0]) ∧ Lns w' A l.length c (l.map negL)
  else e = .returned (.tuple #[.agg (enV 0 [] none 0 0), .int .i64 1])
/-- the lines made so far, in the block B -/
def RevR (d : Int) (cz : List UInt8) (l : List Ln) (w1 : World) (k : Nat) (W : World) : Prop :=
  ∃ v, W.heap[w1.heap.size]? = some (.cells #[.int .i64 d, .string ⟨cz.toArray⟩, v] 39) ∧ OwnL (w1.heap.size + 1) W v ((l.take k).map negL) ∧ Below w1.heap.size w1 W
theorem cells3 {W : World} {b : Nat} {x y z : Value} {t : TypeId} (h : W.heap[b]? = some (.cells #[x, y, z] t)) : (W.cell? ⟨b, 0, none⟩ = some x ∧ W.cell? ⟨b, 1, none⟩ = some y ∧ W.cell? ⟨b, 2, none⟩ = some z) ∧ (W.frozen? ⟨b, 0, none⟩ = false ∧ W.frozen? ⟨b, 1, none⟩ = false ∧ W.frozen? ⟨b, 2, none⟩ = false) :=
  ⟨⟨cell_of_row _ _ _ _ _ _ h, cell_of_row _ _ _ _ _ _ h, cell_of_row _ _ _ _ _ _ h⟩, frozen_of_row _ _ _ _ _ h, frozen_of_row _ _ _ _ _ h, frozen_of_row _ _ _ _ _ h⟩
theorem set2 {W : World} {b : Nat} {x y z : Value} {t : TypeId} (h : W.heap[b]? = some (.cells #[x, y, z] t)) (u : Value) : (W.setCell ⟨b, 2, none⟩ u).heap[b]? = some (.cells #[x, y, u] t) := by
  unfold World.setCell
  simp [Array.getElem?_modify, h]
theorem set3 {W : World} {b : Nat} {x y z : Value} {t : TypeId} (h : W.heap[b]? = some (.cells #[x, y, z] t)) (p q u : Value) : (((W.setCell ⟨b, 0, none⟩ p).setCell ⟨b, 1, none⟩ q).setCell ⟨b, 2, none⟩ u).heap[b]? = some (.cells #[p, q, u] t) := by
  unfold World.setCell
  simp [Array.getElem?_modify, h]
theorem wpList_append_l {ops : Array Oper} {rest : List Oper} {o : Oper} {a : Act} {Q : Exit → Act → World → Prop} (hgd : o.guard = none) (s x : Operand)
    (ho : o.op = .call { callee := .builtin .append, args := #[s, x], argTypes := #[37, 37] })
    (B : Nat) (v : Value) (ns : List Ln) (w : World) (z : Ln) (hs : a.eval s = v) (hown : OwnL B w v ns) (hx : a.eval x = .slice (some ⟨w.heap.size, 0, none⟩) 1 1)
    (hB : B ≤ w.heap.size) (hn : ns.length ≤ 1000)
    (h : ∀ v' w', OwnL B w' v' (ns ++ [z]) → w.grownBy w' v.ownBlock → wpList Tryz.prog ops Q rest (a.put o.dst v') w') : wpList Tryz.prog ops Q (o :: rest) a (w.alloc (.cells #[.string ⟨z.1.toArray⟩, .string ⟨z.2.1.toArray⟩, .string ⟨z.2.2.toArray⟩] 40)) :=
  wpList_plain hgd fun _ hK => op_append_l s x ho B v ns w z hs hown hx hB hn fun v' w' h2 h3 => hK _ _ (h v' w' h2 h3)
theorem OwnL.slice {B : Nat} {w : World} {v : Value} {l : List Ln} (h : OwnL B w v l) : ∃ A n c, v = .slice A n c := by
  rcases h.2 with ⟨rfl, _⟩ | ⟨g, cap, cur, rfl, _⟩
  · exact ⟨_, _, _, rfl⟩
  · exact ⟨_, _, _, rfl⟩
theorem below_own {B : Nat} {w W U : World} {row : Option Nat} (h : Below B w W) (hB : B ≤ w.heap.size) (hg : W.grownBy U row) (hr : ∀ k, row = some k → B ≤ k) : Below B w U := by
  have hs := h.size
  refine ⟨hg.os.trans h.os, hg.tape.trans h.tape, hg.output.trans h.output, Nat.le_trans hs hg.size, fun k hk => ?_⟩
  rw [hg.block k (by omega) (fun e => by have := hr k e.symm; omega), h.block k hk]
theorem below_set3 {w W : World} (h : Below w.heap.size w W) {b : Nat} (hb : w.heap.size ≤ b) (p q u : Value) : Below w.heap.size w (((W.setCell ⟨b, 0, none⟩ p).setCell ⟨b, 1, none⟩ q).setCell ⟨b, 2, none⟩ u) :=
  below_grown (below_grown (below_grown h (Nat.le_refl _) (grown_setCell _ _ _) hb) (Nat.le_refl _) (grown_setCell _ _ _) hb) (Nat.le_refl _) (grown_setCell _ _ _) hb
set_option maxRecDepth 100000 in
set_option maxHeartbeats 4000000 in
theorem Rev_any (d : Int) (cz : List UInt8) (A : Option Addr) (n c : Nat) (l : List Ln) (w : World) (hl : Lns w A n c l) (hcz : cz.length ≤ maxLen) (hs : ∀ x ∈ l, x.2.2.length ≤ 60) (ht : Tab w) (hm : ML w) :
    Calls Tryz.prog 39 #[.agg (enV d cz A n c)] w (RevPost d cz l w) := by
  have hn := hl.small
  have ll := Lib.hid hl.len
  have hB0 : Below w.heap.size w ((w.alloc (.cells #[.int .i64 d, .string ⟨cz.toArray⟩, .slice A n c] 39)).alloc (.cells #[.int .i64 0, .string ⟨#[]⟩, .slice none 0 0] 39)) := ((Below.refl _ w).alloc (Nat.le_refl _) _).alloc (by simp) _
  have y0 : ((w.alloc (.cells #[.int .i64 d, .string ⟨cz.toArray⟩, .slice A n c] 39)).alloc (.cells #[.int .i64 0, .string ⟨#[]⟩, .slice none 0 0] 39)).heap[w.heap.size]? = some (.cells #[.int .i64 d, .string ⟨cz.toArray⟩, .slice A n c] 39) := by
    rw [heap_alloc_old _ _ (by simp)]; exact heap_alloc_new w _
  have y1 : ((w.alloc (.cells #[.int .i64 d, .string ⟨cz.toArray⟩, .slice A n c] 39)).alloc (.cells #[.int .i64 0, .string ⟨#[]⟩, .slice none 0 0] 39)).heap[w.heap.size + 1]? = some (.cells #[.int .i64 0, .string ⟨#[]⟩, .slice none 0 0] 39) := by
    have := heap_alloc_new (w.alloc (.cells #[.int .i64 d, .string ⟨cz.toArray⟩, .slice A n c] 39)) (.cells #[.int .i64 0, .string ⟨#[]⟩, .slice none 0 0] 39)
    rwa [show (w.alloc (.cells #[.int .i64 d, .string ⟨cz.toArray⟩, .slice A n c] 39)).heap.size = w.heap.size + 1 by simp] at this
  have hsz : ((w.alloc (.cells #[.int .i64 d, .string ⟨cz.toArray⟩, .slice A n c] 39)).alloc (.cells #[.int .i64 0, .string ⟨#[]⟩, .slice none 0 0] 39)).heap.size = w.heap.size + 2 := by simp
  have hch := Chk_any d cz A n c l _ (hl.below hB0) hcz (ht.below hB0) (hm.below hB0)
  have HCH := Lib.hid hch
  have HB0 := Lib.hid hB0
  have Y0 := Lib.hid y0
  have Y1 := Lib.hid y1
  have HZ := Lib.hid hsz
  have HP := Lib.hid (show ∀ e w', RevPost d cz l w e w' ↔ (Below w.heap.size w w' ∧ if chkE d cz l = 0 then ∃ A c, e = .returned (.tuple #[.agg (enV d cz A l.length c), .int .i64 0]) ∧ Lns w' A l.length c (l.map negL) else e = .returned (.tuple #[.agg (enV 0 [] none 0 0), .int .i64 1])) from fun _ _ => Iff.rfl)
  have L1 := Lib.hid hl
  have HS := Lib.hid hs
  have HT := Lib.hid ht
  have HM := Lib.hid hm
  clear hch hB0 y0 y1 hl hs ht hm hsz
  generalize RevPost d cz l w = Post at *
  generalize chkE d cz l = ce at *
  unfold enV at HCH ⊢
  go_enter Tryz.func39, Tryz.ntmps39
  go_wp2_with fail
  refine HCH.out.mono ?_
  rintro e w1 ⟨rfl, hb1⟩
  have HB1 := Lib.hid (below_next HB0.out hb1 ⟨rfl, rfl, rfl, rfl⟩)
  have z0 := (hb1.block w.heap.size (by rw [HZ.out]; omega)).trans Y0.out
  have z1 := (hb1.block (w.heap.size + 1) (by rw [HZ.out]; omega)).trans Y1.out
  have hs1 : w.heap.size + 2 ≤ w1.heap.size := by have := hb1.size; rw [HZ.out] at this; exact this
  have Z1 := Lib.hid z1
  obtain ⟨⟨c00, c01, c02⟩, _⟩ := cells3 z0
  clear HCH Y0 Y1 HZ hb1 HB0
  by_cases hz : ce = 0
  case neg =>
    have hzb : (ce == 0) = false := beq_eq_false_iff_ne.2 hz
    have hzb' : (ce != 0) = true := by rw [bne_iff_ne]; exact hz
    obtain ⟨⟨c10, c11, c12⟩, f10, f11, f12⟩ := cells3 z1
    obtain ⟨⟨g10, g11, g12⟩, _⟩ := cells3 (set3 z1 (.int .i64 0) (.string ⟨#[]⟩) (.slice none 0 0))
    clear z0 z1
    go_wp2_with fail
    have hb := below_set3 HB1.out (b := w.heap.size + 1) (by omega) (.int .i64 0) (.string ⟨#[]⟩) (.slice none 0 0)
    exact bodyPost_ret (v := .tuple #[.agg (enV 0 [] none 0 0), .int .i64 1]) (by simp [results, Tryz.results39, go_sem, g10, g11, g12, enV]) rfl ((HP.out _ _).2 ⟨hb, by rw [if_neg hz]⟩)
  subst hz
  clear z0 z1
  have HC0 : Below w1.heap.size w1 (w1.alloc (.cells #[.int .i64 d, .string ⟨cz.toArray⟩, .slice none 0 0] 39)) := (Below.refl _ _).alloc (Nat.le_refl _) _
  have R0 := Lib.hid (show RevR d cz l w1 0 (w1.alloc (.cells #[.int .i64 d, .string ⟨cz.toArray⟩, .slice none 0 0] 39)) from ⟨_, heap_alloc_new w1 _, OwnL.nil _ _, HC0⟩)
  have c02' := (HC0.cell (p := ⟨w.heap.size, 2, none⟩) (block_lt_of_cell c02)).trans c02
  have hh := Lib.hid (fun W (h : Below w1.heap.size w1 W) => below_next HB1.out h ⟨rfl, rfl, rfl, rfl⟩)
  clear HC0
  go_wp2_with fail
  go_loopw [19] (fun i wr => ∃ k : Nat, k ≤ n ∧ i = .int .i64 (k : Int) ∧ Hid (RevR d cz l w1 k wr)) (fun i _ => n - (intOf i).toNat)
  case atStart => exact ⟨0, by omega, rfl, R0⟩
  case round =>
    obtain ⟨k, hk, rfl, hR⟩ := hrel
    obtain ⟨v, hbx, hov, hbw⟩ := hR.out
    have HC := Lib.hid hbw
    have HB := Lib.hid (hh.out _ hbw)
    have HO := Lib.hid hov
    have HX := Lib.hid hbx
    clear hR R0 hbw hov hbx
    by_cases hlt : k < n
    · obtain ⟨b1, o1, rfl, hb1, hc1⟩ := L1.out.at_ (by omega)
      obtain ⟨q0, q1, q2⟩ := hc1 k hlt
      have r0 := (HB.out.cell (p := ⟨b1, o1 + k * 3, none⟩) hb1).trans q0
      have r1 := (HB.out.cell (p := ⟨b1, o1 + k * 3 + 1, none⟩) hb1).trans q1
      have r2 := (HB.out.cell (p := ⟨b1, o1 + k * 3 + 2, none⟩) hb1).trans q2
      have hki : (k : Int) < (n : Int) := by omega
      have htk := Lib.hid (take_ln l k (by rw [ll.out]; exact hlt))
      have hmem := lnAt_mem l k (by rw [ll.out]; exact hlt)
      have h60 := HS.out _ hmem
      have hlk : ((l.take k).map negL).length ≤ 1000 := by rw [List.length_map, List.length_take]; omega
      clear q0 q1 q2 hc1 hmem
      generalize l.getD k ln0 = x at *
      obtain ⟨a, cu, m⟩ := x
      simp only at r0 r1 r2 h60
      have cn := fun W hW => Neg_any ⟨m.toArray⟩ W (show m.length ≤ 120 by omega) hW
      rw [show (⟨m.toArray⟩ : ByteArray).data.toList = m from rfl] at cn
      have HC2 := Lib.hid (show Below w1.heap.size w1 (wr.alloc (.cells #[.string ⟨a.toArray⟩, .string ⟨cu.toArray⟩, .string ⟨m.toArray⟩] 40)) from HC.out.alloc HC.out.size _)
      have x0 := Lib.hid (heap_alloc_new wr (.cells #[.string ⟨a.toArray⟩, .string ⟨cu.toArray⟩, .string ⟨m.toArray⟩] 40))
      have hlw : Below wr.heap.size wr (wr.alloc (.cells #[.string ⟨a.toArray⟩, .string ⟨cu.toArray⟩, .string ⟨m.toArray⟩] 40)) := (Below.refl _ _).alloc (Nat.le_refl _) _
      have HLW := Lib.hid hlw
      clear hlw
      go_wp2_with fail
      refine (cn _ (HT.out.below (hh.out _ HC2.out))).mono ?_
      rintro e w2 ⟨rfl, hb⟩
      have HC3 := Lib.hid (below_next HC2.out hb ⟨rfl, rfl, rfl, rfl⟩)
      have HL3 := Lib.hid (below_next HLW.out hb ⟨rfl, rfl, rfl, rfl⟩)
      have x2 := (hb.block wr.heap.size (by simp)).trans x0.out
      obtain ⟨⟨d0, d1, d2⟩, e0, e1, e2⟩ := cells3 x2
      clear hb cn
      go_upto_region 8 with fail
      have h3 : Below wr.heap.size wr (w2.setCell ⟨wr.heap.size, 2, none⟩ (.string ⟨(txt (-val m)).toArray⟩)) := below_grown HL3.out (Nat.le_refl _) (grown_setCell _ _ _) (Nat.le_refl _)
      have x3 := set2 x2 (.string ⟨(txt (-val m)).toArray⟩)
      generalize (w2.setCell ⟨wr.heap.size, 2, none⟩ (.string ⟨(txt (-val m)).toArray⟩)) = W3 at *
      have hlw1 : w1.heap.size < wr.heap.size := by
        rcases Nat.lt_or_ge w1.heap.size wr.heap.size with h | h
        · exact h
        · have := HX.out; rw [Array.getElem?_eq_none h] at this; cases this
      have hB3 := (h3.block _ hlw1).trans HX.out
      have ho3 := Lib.hid (HO.out.below h3)
      have HC4 := Lib.hid (HC.out.trans (h3.mono HC.out.size))
      have hsz3 := h3.size
      have hB3h := Lib.hid hB3
      obtain ⟨⟨p0, p1, p2⟩, s0, s1, s2⟩ := cells3 hB3
      obtain ⟨⟨t0, t1, t2⟩, _⟩ := cells3 x3
      have hne : some w1.heap.size ≠ v.ownBlock := fun e => by have := ho3.out.own _ e.symm; omega
      clear d0 d1 d2 e0 e1 e2 x2 x3 hB3 h3 r0 r1 r2
      go_wp2_with (first | (refine wpList_append_l rfl (.tmp 28) (.tmp 30) rfl (w1.heap.size + 1) v _ W3 (a, cu, txt (-val m)) rfl ho3.out rfl (by omega) hlk ?_; intro v' w4 ho4 hg4; obtain ⟨A4, n4, c4, rfl⟩ := ho4.slice; have hB4 := (hg4.block _ (by omega) hne).trans hB3h.out; obtain ⟨⟨u0, u1, u2⟩, m0, m1, m2⟩ := cells3 hB4) | fail)
      have hb4 := below_own HC4.out (Nat.le_refl _) hg4 (fun q e => Nat.le_of_succ_le (ho3.out.own q e))
      have hb5 := below_grown hb4 (Nat.le_refl _) (grown_setCell w4 ⟨w1.heap.size, 2, none⟩ (.slice A4 n4 c4)) (Nat.le_refl _)
      have ho5 : OwnL (w1.heap.size + 1) (w4.setCell ⟨w1.heap.size, 2, none⟩ (.slice A4 n4 c4)) (.slice A4 n4 c4) ((l.take (k + 1)).map negL) := by
        rw [htk.out, List.map_append]
        exact ho4.kept (grown_setCell w4 ⟨w1.heap.size, 2, none⟩ (.slice A4 n4 c4)) (fun q e => by have := Option.some.inj e; simp only at this; omega)
      exact ⟨⟨k + 1, by omega, by go_num, Lib.hid ⟨_, set2 hB4 _, ho5, hb5⟩⟩, by simp [intOf]; omega⟩
    · have hkn : k = n := by omega
      subst hkn
      have hki : ¬ (k : Int) < (k : Int) := by omega
      have e : List.take k l = l := List.take_of_length_le (by rw [ll.out]; exact Nat.le_refl _)
      have ho := HO.out
      rw [e] at ho
      have hlen : (l.map negL).length = k := by rw [List.length_map, ll.out]
      have hsm : ∀ y ∈ l.map negL, Sml y := fun y hy => by
        obtain ⟨x, hx, rfl⟩ := List.mem_map.1 hy
        exact negL_sml (L1.out.sml x hx) (HS.out x hx)
      obtain ⟨A', c', rfl, _⟩ := ho.cells (by rw [hlen]; exact hn) hsm
      have hr : ∀ q, some (w.heap.size + 1) = some q → q < w1.heap.size + 1 := fun q e => by have := Option.some.inj e; omega
      have ho' := ((ho.kept (grown_setCell wr ⟨w.heap.size + 1, 0, none⟩ (.int .i64 d)) hr).kept (grown_setCell _ ⟨w.heap.size + 1, 1, none⟩ (.string ⟨cz.toArray⟩)) hr).kept (grown_setCell _ ⟨w.heap.size + 1, 2, none⟩ (.slice A' k c')) hr
      obtain ⟨A2, c2, e2, hln⟩ := ho'.cells (by rw [hlen]; exact hn) hsm
      injection e2 with e3 _ e4
      subst e3
      subst e4
      rw [hlen] at hln HX
      have hL := Lib.hid hln
      have z1 := (HC.out.block (w.heap.size + 1) (by omega)).trans Z1.out
      obtain ⟨⟨c10, c11, c12⟩, f10, f11, f12⟩ := cells3 z1
      obtain ⟨⟨b10, b11, b12⟩, _⟩ := cells3 HX.out
      obtain ⟨⟨g10, g11, g12⟩, _⟩ := cells3 (set3 z1 (.int .i64 d) (.string ⟨cz.toArray⟩) (.slice A' k c'))
      have hb := below_set3 HB.out (b := w.heap.size + 1) (by omega) (.int .i64 d) (.string ⟨cz.toArray⟩) (.slice A' k c')
      clear z1 hln ho ho' e hlen hsm hr
      go_wp2_with fail
      exact bodyPost_ret (v := .tuple #[.agg (enV d cz A' k c'), .int .i64 0]) (by simp [results, Tryz.results39, go_sem, g10, g11, g12, enV]) rfl ((HP.out _ _).2 ⟨hb, by
        rw [if_pos trivial, ll.out]
        exact ⟨A', c', rfl, hL.out⟩⟩)
end Go.Proofs.YtohdpidlilhnjaaGreatDoor

/- Slices of the call's own, and slices that are read, whatever their elements. -/
namespace Go.Proofs.YtohdpidlilhnjaaGreatDoor
open Go.RowKit Go.Maps Num

theorem grown_tr {w w1 w2 : World} {row : Option Nat} (h : w.grownBy w1 row) (h2 : w1.grownBy w2 row) : w.grownBy w2 row :=
  ⟨h2.os.trans h.os, h2.tape.trans h.tape, h2.output.trans h.output, Nat.le_trans h.size h2.size, fun k hk hr => (h2.block k (Nat.lt_of_lt_of_le hk h.size) hr).trans (h.block k hk hr)⟩
theorem grown_refl (w : World) (row : Option Nat) : w.grownBy w row := ⟨rfl, rfl, rfl, Nat.le_refl _, fun _ _ _ => rfl⟩
theorem grown_below {w w1 w2 : World} {row : Option Nat} (h : w.grownBy w1 row) (hb : Below w1.heap.size w1 w2) : w.grownBy w2 row :=
  grown_tr h ⟨hb.os, hb.tape, hb.output, hb.size, fun k hk _ => hb.block k hk⟩
/-- how elements lie in a slice: the slice's type, the element's, its zero value, its cells, its bytes -/
structure Row (α : Type) where
  S : TypeId
  E : TypeId
  z : Value
  k : Nat
  by_ : Nat
  enc : α → List Value
structure Row.Ok {α : Type} (R : Row α) : Prop where
  hS : Tryz.prog.underlying R.S = some (.slice R.E)
  info : (Tryz.prog.info? R.E).map (fun i => (i.zero, i.size, i.bytes)) = some (some R.z, R.k, R.by_)
  zc : R.z.cells.size = R.k
  k0 : 0 < R.k
  b1 : R.by_ ≤ 64
  hk : ∀ x, (R.enc x).length = R.k
  h1 : ∀ x, ∀ v ∈ R.enc x, v.oneCell' = true
namespace Row
variable {α : Type} {R : Row α}
def vs (R : Row α) (l : List α) : List Value := l.flatMap R.enc
theorem vs_nil : R.vs [] = [] := rfl
theorem vs_cons (x : α) (l : List α) : R.vs (x :: l) = R.enc x ++ R.vs l := rfl
theorem vs_append (a b : List α) : R.vs (a ++ b) = R.vs a ++ R.vs b := List.flatMap_append
theorem vs_len (ok : R.Ok) (l : List α) : (R.vs l).length = l.length * R.k := by
  induction l with
  | nil => simp [vs]
  | cons x r ih => rw [vs_cons, List.length_append, ih, ok.hk, List.length_cons, Nat.add_mul]; omega
theorem vs_at (ok : R.Ok) (x0 : α) (l : List α) (i j : Nat) (hi : i < l.length) (hj : j < R.k) : (R.vs l)[i * R.k + j]? = (R.enc (l.getD i x0))[j]? := by
  induction l generalizing i with
  | nil => cases hi
  | cons x r ih =>
    rw [vs_cons]
    cases i with
    | zero => rw [List.getElem?_append_left (by rw [ok.hk]; omega)]; simp
    | succ i =>
      rw [List.getElem?_append_right (by rw [ok.hk, Nat.add_mul]; omega), ok.hk, show (i + 1) * R.k + j - R.k = i * R.k + j by rw [Nat.add_mul]; omega, ih i (by simpa using hi)]
      simp
theorem vs_one (ok : R.Ok) (l : List α) : ∀ u ∈ R.vs l, u.oneCell' = true := by
  intro u hu
  obtain ⟨x, _, hx⟩ := List.mem_flatMap.1 hu
  exact ok.h1 x u hx
/-- the slice '.slice A n c' reads as l -/
structure Rds (R : Row α) (w : World) (A : Option Addr) (n c : Nat) (l : List α) : Prop where
  len : l.length = n
  cap : n ≤ c
  top : c ≤ maxLen
  at_ : 0 < n → ∃ b o, A = some ⟨b, o, none⟩ ∧ b < w.heap.size ∧ ∀ (j : Nat) (u : Value), (R.vs l)[j]? = some u → w.cell? ⟨b, o + j, none⟩ = some u
theorem Rds.below {w w' : World} {A : Option Addr} {n c : Nat} {l : List α} (h : R.Rds w A n c l) (hb : Below w.heap.size w w') : R.Rds w' A n c l :=
  ⟨h.len, h.cap, h.top, fun h0 => by
    obtain ⟨b, o, e, hlt, hc⟩ := h.at_ h0
    exact ⟨b, o, e, Nat.lt_of_lt_of_le hlt hb.size, fun j u hu => (hb.cell (p := ⟨b, o + j, none⟩) hlt).trans (hc j u hu)⟩⟩
/-- a slice of the call's own, from block B on -/
def Own (R : Row α) (B : Nat) (w : World) (v : Value) (l : List α) : Prop := w.ownsRow B R.E R.k v l.length (R.vs l)
namespace Own
variable {B : Nat} {w w' : World} {v : Value} {l : List α}
theorem nil (B : Nat) (w : World) : R.Own B w (.slice none 0 0) [] := World.ownsRow_nil w B R.E R.k
theorem slice (h : R.Own B w v l) : ∃ A c, v = .slice A l.length c := by
  rcases h.2 with ⟨rfl, h0⟩ | ⟨g, cap, cur, rfl, _⟩
  · exact ⟨_, _, by rw [h0]⟩
  · exact ⟨_, _, rfl⟩
theorem rds (h : R.Own B w v l) : ∃ A c, v = .slice A l.length c ∧ R.Rds w A l.length c l := by
  rcases h.2 with ⟨rfl, h0⟩ | ⟨g, cap, cur, rfl, _, hg, hc, hm, hsz, htake⟩
  · exact ⟨none, 0, by rw [h0], rfl, by omega, by omega, fun hh => by omega⟩
  · refine ⟨_, _, rfl, rfl, hc, hm, fun _ => ⟨g, 0, rfl, ?_, fun j u hu => ?_⟩⟩
    · rcases Nat.lt_or_ge g w.heap.size with h' | h'
      · exact h'
      · rw [Array.getElem?_eq_none h'] at hg; cases hg
    · have hj := (List.getElem?_eq_some_iff.1 hu).1
      rw [← htake, List.getElem?_take] at hu
      split at hu
      · rw [Nat.zero_add, cell_of_row _ _ _ _ _ _ hg, ← hu, Array.getElem?_toList]
      · cases hu
theorem kept {row : Option Nat} (h : R.Own B w v l) (hg : w.grownBy w' row) (hr : ∀ k, row = some k → k < B) : R.Own B w' v l :=
  World.ownsRow.kept h hg (by
    cases hv : v.ownBlock with
    | none => exact .inl rfl
    | some g =>
      refine .inr fun e => ?_
      have := hr g e.symm
      have := (World.ownsRow.lt h g hv).1
      omega)
theorem kept' {row : Option Nat} (h : R.Own B w v l) (hg : w.grownBy w' row) (hr : v.ownBlock = none ∨ v.ownBlock ≠ row) : R.Own B w' v l := World.ownsRow.kept h hg hr
theorem below (h : R.Own B w v l) (hb : Below w.heap.size w w') : R.Own B w' v l := h.kept (row := none) (grown_of_below hb) (fun _ e => by cases e)
theorem own (h : R.Own B w v l) : ∀ k, v.ownBlock = some k → B ≤ k ∧ k < w.heap.size := fun k hk => World.ownsRow.lt h k hk
theorem mono {B' : Nat} (h : R.Own B w v l) (hb : B' ≤ B) : R.Own B' w v l := by
  rcases h.2 with ⟨rfl, h0⟩ | ⟨g, cap, cur, rfl, hB, hr⟩
  · exact ⟨h.1, .inl ⟨rfl, h0⟩⟩
  · exact ⟨h.1, .inr ⟨g, cap, cur, rfl, Nat.le_trans hb hB, hr⟩⟩
theorem alloc (h : R.Own B w v l) (o : Obj) : R.Own B (w.alloc o) v l := World.ownsRow.alloc h o
theorem dr (h : R.Own B w v l) (k : Nat) : R.Own B (w.drewN k) v l := h
/-- what was set up anew from the heap's size on, and kept, is the call's own of any lower block -/
theorem pos (h : R.Own B w v l) (hne : 0 < l.length) : ∃ g cap, v = .slice (some ⟨g, 0, none⟩) l.length cap ∧ B ≤ g ∧ g < w.heap.size ∧ l.length ≤ cap ∧ cap ≤ maxLen ∧ ∀ j, j < cap * R.k → (w.cell? ⟨g, j, none⟩).isSome = true ∧ w.frozen? ⟨g, j, none⟩ = false := by
  rcases h.2 with ⟨_, h0⟩ | ⟨g, cap, cur, hv, hB, hg, hc, hm, hsz, htake⟩
  · omega
  · refine ⟨g, cap, hv, hB, ?_, hc, hm, fun j hj => ⟨?_, frozen_of_row _ _ _ _ _ hg⟩⟩
    · rcases Nat.lt_or_ge g w.heap.size with h' | h'
      · exact h'
      · rw [Array.getElem?_eq_none h'] at hg; cases hg
    · rw [cell_of_row _ _ _ _ _ _ hg, Array.getElem?_eq_getElem (by omega)]; rfl
end Own
theorem run_append_none (ok : R.Ok) (w : World) (B : Nat) (ty : TypeId) (v : Value) (n : Nat) (xs : List Value) (hown : w.ownsRow B R.E R.k v n xs) (c : Nat) : (Builtin.append_ #[R.S, R.S] ty #[v, .slice none 0 c]).run Tryz.prog w = .ok v w := by
  obtain ⟨i0, hi, hz0, hz1, hz2⟩ := info_parts ok.info
  rcases hown.2 with ⟨rfl, rfl⟩ | ⟨g, cap, cur, rfl, _, _, hnc, _⟩
  · simp [Builtin.append_, run_underlying ok.hS, sizeOf, typeInfo, hi, Builtin.lenOf, Builtin.firstCells]
  · simp [Builtin.append_, run_underlying ok.hS, sizeOf, typeInfo, hi, Builtin.lenOf, Builtin.firstCells, hnc, storeCells]
/-- append(s, t...) -/
theorem run_append (ok : R.Ok) (B : Nat) (ty : TypeId) (v : Value) (ns : List α) (w : World) (A : Option Addr) (m c : Nat) (zs : List α) (hown : R.Own B w v ns) (hz : R.Rds w A m c zs) (hB : B ≤ w.heap.size) (hn : ns.length + m ≤ 1000000) :
    ∃ v' w', (Builtin.append_ #[R.S, R.S] ty #[v, .slice A m c]).run Tryz.prog w = .ok v' w' ∧ R.Own B w' v' (ns ++ zs) ∧ w.grownBy w' v.ownBlock ∧ (v'.ownBlock = v.ownBlock ∨ v'.ownBlock = some w.heap.size) := by
  obtain ⟨i0, hi, hz0, hz1, hz2⟩ := info_parts ok.info
  by_cases hA : ∃ ad, A = some ad
  · obtain ⟨ad, rfl⟩ := hA
    have hb := ok.b1
    obtain ⟨v', w', hr, h2, h3, _, h5⟩ := run_append_own_at (P := Tryz.prog) w B R.S ty R.E i0 _ R.k R.by_ ok.hS hi hz0 hz1 hz2 ok.zc ok.k0 v ns.length (R.vs ns) hown ad m c (R.vs zs) (by rw [vs_len ok, hz.len]) (fun j u hu => by
        have hj := (List.getElem?_eq_some_iff.1 hu).1
        rw [vs_len ok, hz.len] at hj
        obtain ⟨b, off, e, _, hc⟩ := hz.at_ (by
          rcases Nat.eq_zero_or_pos m with h0 | h0
          · rw [h0] at hj; omega
          · exact h0)
        cases e
        have hadd : (⟨b, off, none⟩ : Addr).add j = ⟨b, off + j, none⟩ := by unfold Addr.add; split <;> simp_all
        rw [hadd]
        exact hc j u hu) (vs_one ok zs) (by simp only [maxLen]; omega) (by
        have h64 : (ns.length + m) * R.by_ ≤ 1000000 * 64 := Nat.mul_le_mul hn hb
        omega) hB
    refine ⟨v', w', hr, ?_, h3, h5⟩
    unfold Own
    rw [List.length_append, hz.len, vs_append]
    exact h2
  · have hA2 : A = none := by
      cases A with
      | none => rfl
      | some ad => exact absurd ⟨ad, rfl⟩ hA
    subst hA2
    have hm : m = 0 := by
      rcases Nat.eq_zero_or_pos m with h0 | h0
      · exact h0
      · obtain ⟨b, off, e, _⟩ := hz.at_ h0
        cases e
    subst hm
    have : zs = [] := List.eq_nil_of_length_eq_zero hz.len
    subst this
    exact ⟨v, w, run_append_none ok w B ty v _ _ hown c, by rw [List.append_nil]; exact hown, ⟨rfl, rfl, rfl, Nat.le_refl _, fun _ _ _ => rfl⟩, .inl rfl⟩
theorem op_append (ok : R.Ok) {o : Oper} {a : Act} {K : Act → World → Prop} {Q : Exit → Act → World → Prop} (s x : Operand)
    (ho : o.op = .call { callee := .builtin .append, args := #[s, x], argTypes := #[R.S, R.S] })
    (B : Nat) (v : Value) (ns : List α) (w : World) (A : Option Addr) (m c : Nat) (zs : List α) (hs : a.eval s = v) (hown : R.Own B w v ns) (hx : a.eval x = .slice A m c) (hz : R.Rds w A m c zs)
    (hB : B ≤ w.heap.size) (hn : ns.length + m ≤ 1000000)
    (h : ∀ v' w', R.Own B w' v' (ns ++ zs) → w.grownBy w' v.ownBlock → (v'.ownBlock = v.ownBlock ∨ v'.ownBlock = some w.heap.size) → K (a.put o.dst v') w') : o.wp Tryz.prog a w K Q := by
  obtain ⟨v', w', hr, h2, h3, h5⟩ := run_append ok B o.type v ns w A m c zs hown hz hB hn
  unfold Oper.wp execOp
  simp only [ho, resolve, invoke, builtin, Sem.run_bind, Sem.run_pure, Result.andThen_ok, List.map_toArray, List.map_cons, List.map_nil, hs, hx, hr]
  exact h v' w' h2 h3 h5
theorem wp_append (ok : R.Ok) {ops : Array Oper} {rest : List Oper} {o : Oper} {a : Act} {Q : Exit → Act → World → Prop} (hgd : o.guard = none) (s x : Operand)
    (ho : o.op = .call { callee := .builtin .append, args := #[s, x], argTypes := #[R.S, R.S] })
    (B : Nat) (v : Value) (ns : List α) (w : World) (A : Option Addr) (m c : Nat) (zs : List α) (hs : a.eval s = v) (hown : R.Own B w v ns) (hx : a.eval x = .slice A m c) (hz : R.Rds w A m c zs)
    (hB : B ≤ w.heap.size) (hn : ns.length + m ≤ 1000000)
    (h : ∀ v' w', R.Own B w' v' (ns ++ zs) → w.grownBy w' v.ownBlock → (v'.ownBlock = v.ownBlock ∨ v'.ownBlock = some w.heap.size) → wpList Tryz.prog ops Q rest (a.put o.dst v') w') : wpList Tryz.prog ops Q (o :: rest) a w :=
  wpList_plain hgd fun _ hK => op_append ok s x ho B v ns w A m c zs hs hown hx hz hB hn fun v' w' h2 h3 h5 => hK _ _ (h v' w' h2 h3 h5)
theorem step_append (ok : R.Ok) {ops : Array Oper} {o : Oper} {a : Act} {K : Act → World → Prop} {Q : Exit → Act → World → Prop} {E : Prop} (hgd : o.guard = none) (s x : Operand)
    (ho : o.op = .call { callee := .builtin .append, args := #[s, x], argTypes := #[R.S, R.S] })
    (B : Nat) (v : Value) (ns : List α) (w : World) (A : Option Addr) (m c : Nat) (zs : List α) (hs : a.eval s = v) (hown : R.Own B w v ns) (hx : a.eval x = .slice A m c) (hz : R.Rds w A m c zs)
    (hB : B ≤ w.heap.size) (hn : ns.length + m ≤ 1000000)
    (h : ∀ v' w', R.Own B w' v' (ns ++ zs) → w.grownBy w' v.ownBlock → (v'.ownBlock = v.ownBlock ∨ v'.ownBlock = some w.heap.size) → K (a.put o.dst v') w') :
    if Region.wanted o (yielded ops a.tmps) = true then Oper.wp Tryz.prog o a w K Q else E := by
  have hw : Region.wanted o (yielded ops a.tmps) = true := by simp [Region.wanted, hgd]
  rw [if_pos hw]
  exact op_append ok s x ho B v ns w A m c zs hs hown hx hz hB hn h
/-- one element in a block of its own -/
theorem rds_one (_ok : R.Ok) (w : World) (x : α) (t : TypeId) : R.Rds (w.alloc (.cells (R.enc x).toArray t)) (some ⟨w.heap.size, 0, none⟩) 1 1 [x] :=
  ⟨rfl, Nat.le_refl _, by unfold maxLen; omega, fun _ => ⟨w.heap.size, 0, rfl, by simp, fun j u hu => by
    rw [Nat.zero_add, cell_of_row _ _ _ _ _ _ (heap_alloc_new w _)]
    rw [vs_cons, vs_nil, List.append_nil] at hu
    simpa using hu⟩⟩
/-- append(s, x): x lies in a block of its own -/
theorem op_append1 (ok : R.Ok) {o : Oper} {a : Act} {K : Act → World → Prop} {Q : Exit → Act → World → Prop} (s t : Operand)
    (ho : o.op = .call { callee := .builtin .append, args := #[s, t], argTypes := #[R.S, R.S] })
    (B : Nat) (v : Value) (ns : List α) (w : World) (x : α) (cs : Array Value) (E' : TypeId) (hcs : cs = (R.enc x).toArray) (hE : E' = R.E) (hs : a.eval s = v) (hown : R.Own B w v ns) (hx : a.eval t = .slice (some ⟨w.heap.size, 0, none⟩) 1 1)
    (hB : B ≤ w.heap.size) (hn : ns.length + 1 ≤ 1000000)
    (h : ∀ v' w', R.Own B w' v' (ns ++ [x]) → w.grownBy w' v.ownBlock → (v'.ownBlock = v.ownBlock ∨ ∃ g, v'.ownBlock = some g ∧ w.heap.size ≤ g) → K (a.put o.dst v') w') : o.wp Tryz.prog a (w.alloc (.cells cs E')) K Q := by
  subst hcs hE
  refine op_append ok s t ho B v ns (w.alloc (.cells (R.enc x).toArray R.E)) _ 1 1 [x] hs (hown.alloc _) hx (rds_one ok w x R.E) (by simp; omega) hn fun v' w' h1 h2 h3 => h v' w' h1 (grown_tr (World.grownBy_alloc w _ _) h2) ?_
  rcases h3 with h3 | h3
  · exact .inl h3
  · exact .inr ⟨_, h3, by simp⟩
theorem wp_append1 (ok : R.Ok) {ops : Array Oper} {rest : List Oper} {o : Oper} {a : Act} {Q : Exit → Act → World → Prop} (hgd : o.guard = none) (s t : Operand)
    (ho : o.op = .call { callee := .builtin .append, args := #[s, t], argTypes := #[R.S, R.S] })
    (B : Nat) (v : Value) (ns : List α) (w : World) (x : α) (cs : Array Value) (E' : TypeId) (hcs : cs = (R.enc x).toArray) (hE : E' = R.E) (hs : a.eval s = v) (hown : R.Own B w v ns) (hx : a.eval t = .slice (some ⟨w.heap.size, 0, none⟩) 1 1)
    (hB : B ≤ w.heap.size) (hn : ns.length + 1 ≤ 1000000)
    (h : ∀ v' w', R.Own B w' v' (ns ++ [x]) → w.grownBy w' v.ownBlock → (v'.ownBlock = v.ownBlock ∨ ∃ g, v'.ownBlock = some g ∧ w.heap.size ≤ g) → wpList Tryz.prog ops Q rest (a.put o.dst v') w') : wpList Tryz.prog ops Q (o :: rest) a (w.alloc (.cells cs E')) :=
  wpList_plain hgd fun _ hK => op_append1 ok s t ho B v ns w x cs E' hcs hE hs hown hx hB hn fun v' w' h2 h3 h5 => hK _ _ (h v' w' h2 h3 h5)
theorem step_append1 (ok : R.Ok) {ops : Array Oper} {o : Oper} {a : Act} {K : Act → World → Prop} {Q : Exit → Act → World → Prop} {E : Prop} (hgd : o.guard = none) (s t : Operand)
    (ho : o.op = .call { callee := .builtin .append, args := #[s, t], argTypes := #[R.S, R.S] })
    (B : Nat) (v : Value) (ns : List α) (w : World) (x : α) (cs : Array Value) (E' : TypeId) (hcs : cs = (R.enc x).toArray) (hE : E' = R.E) (hs : a.eval s = v) (hown : R.Own B w v ns) (hx : a.eval t = .slice (some ⟨w.heap.size, 0, none⟩) 1 1)
    (hB : B ≤ w.heap.size) (hn : ns.length + 1 ≤ 1000000)
    (h : ∀ v' w', R.Own B w' v' (ns ++ [x]) → w.grownBy w' v.ownBlock → (v'.ownBlock = v.ownBlock ∨ ∃ g, v'.ownBlock = some g ∧ w.heap.size ≤ g) → K (a.put o.dst v') w') :
    if Region.wanted o (yielded ops a.tmps) = true then Oper.wp Tryz.prog o a (w.alloc (.cells cs E')) K Q else E := by
  have hw : Region.wanted o (yielded ops a.tmps) = true := by simp [Region.wanted, hgd]
  rw [if_pos hw]
  exact op_append1 ok s t ho B v ns w x cs E' hcs hE hs hown hx hB hn h
theorem step_append1d (ok : R.Ok) {ops : Array Oper} {o : Oper} {a : Act} {K : Act → World → Prop} {Q : Exit → Act → World → Prop} {E : Prop} (hgd : o.guard = none) (s t : Operand)
    (ho : o.op = .call { callee := .builtin .append, args := #[s, t], argTypes := #[R.S, R.S] })
    (B : Nat) (v : Value) (ns : List α) (w : World) (x : α) (cs : Array Value) (E' : TypeId) (hcs : cs = (R.enc x).toArray) (hE : E' = R.E) (hs : a.eval s = v) (hown : R.Own B w v ns) (hx : a.eval t = .slice (some ⟨w.heap.size, 0, none⟩) 1 1)
    (hB : B ≤ w.heap.size) (hn : ns.length + 1 ≤ 1000000)
    (h : ∀ v' w', R.Own B w' v' (ns ++ [x]) → w.grownBy w' v.ownBlock → (v'.ownBlock = v.ownBlock ∨ ∃ g, v'.ownBlock = some g ∧ w.heap.size ≤ g) → K (a.put o.dst v') w') :
    if Region.wanted o (yielded ops a.tmps) = true then Oper.wp Tryz.prog o a (w.alloc (.cells cs E')).drew K Q else E := by
  have hw : Region.wanted o (yielded ops a.tmps) = true := by simp [Region.wanted, hgd]
  rw [if_pos hw]
  subst hcs hE
  have hr := rds_one ok w x R.E
  refine op_append ok s t ho B v ns (w.alloc (.cells (R.enc x).toArray R.E)).drew _ 1 1 [x] hs (hown.alloc _) hx ⟨hr.len, hr.cap, hr.top, hr.at_⟩ (by show B ≤ (w.alloc (.cells (R.enc x).toArray R.E)).heap.size; simp; omega) hn fun v' w' h1 h2 h3 => h v' w' h1 (grown_tr (World.grownBy_alloc w (.cells (R.enc x).toArray R.E) _) ⟨h2.os, h2.tape, h2.output, h2.size, h2.block⟩) ?_
  rcases h3 with h3 | h3
  · exact .inl h3
  · exact .inr ⟨_, h3, by show w.heap.size ≤ (w.alloc (.cells (R.enc x).toArray R.E)).heap.size; simp⟩
/-- a part of a slice that is read -/
theorem Rds.drop (ok : R.Ok) {w : World} {b o n c : Nat} {l : List α} (h : R.Rds w (some ⟨b, o, none⟩) n c l) (i : Nat) (hi : i ≤ n) : R.Rds w (some ⟨b, o + i * R.k, none⟩) (n - i) (c - i) (l.drop i) := by
  have hl := h.len
  have hcap := h.cap
  have htop := h.top
  refine ⟨by rw [List.length_drop, hl], by omega, by omega, fun h0 => ?_⟩
  obtain ⟨b', o', e, hlt, hc⟩ := h.at_ (by omega)
  cases e
  refine ⟨b, _, rfl, hlt, fun j u hu => ?_⟩
  have e1 : R.vs l = R.vs (l.take i) ++ R.vs (l.drop i) := by rw [← vs_append, List.take_append_drop]
  have e2 : (R.vs (l.take i)).length = i * R.k := by rw [vs_len ok, List.length_take, hl, Nat.min_eq_left hi]
  have := hc (i * R.k + j) u (by rw [e1, List.getElem?_append_right (by rw [e2]; omega), e2, Nat.add_sub_cancel_left]; exact hu)
  rw [show o + i * R.k + j = o + (i * R.k + j) by omega]
  exact this
theorem Rds.take (_ok : R.Ok) {w : World} {A : Option Addr} {n c : Nat} {l : List α} (h : R.Rds w A n c l) (i : Nat) (hi : i ≤ n) : R.Rds w A i c (l.take i) := by
  have hl := h.len
  have hcap := h.cap
  have htop := h.top
  refine ⟨by rw [List.length_take, hl]; omega, by omega, by omega, fun h0 => ?_⟩
  obtain ⟨b, o, e, hlt, hc⟩ := h.at_ (by omega)
  refine ⟨b, o, e, hlt, fun j u hu => hc j u ?_⟩
  have e1 : R.vs l = R.vs (l.take i) ++ R.vs (l.drop i) := by rw [← vs_append, List.take_append_drop]
  rw [e1, List.getElem?_append_left (List.getElem?_eq_some_iff.1 hu).1]
  exact hu
/-- one element that is read -/
theorem Rds.cell (ok : R.Ok) (x0 : α) {w : World} {b o n c : Nat} {l : List α} (h : R.Rds w (some ⟨b, o, none⟩) n c l) (i j : Nat) (u : Value) (hi : i < n) (hu : (R.enc (l.getD i x0))[j]? = some u) : w.cell? ⟨b, o + i * R.k + j, none⟩ = some u := by
  obtain ⟨b', o', e, _, hc⟩ := h.at_ (by omega)
  cases e
  have hj : j < R.k := by rw [← ok.hk (l.getD i x0)]; exact (List.getElem?_eq_some_iff.1 hu).1
  have := hc (i * R.k + j) u (by rw [vs_at ok x0 l i j (by rw [h.len]; exact hi) hj]; exact hu)
  rw [show o + i * R.k + j = o + (i * R.k + j) by omega]
  exact this
theorem Rds.nil (w : World) (A : Option Addr) (c : Nat) (hc : c ≤ maxLen) : R.Rds w A 0 c [] := ⟨rfl, Nat.zero_le _, hc, fun h => by omega⟩
theorem size_run (ok : R.Ok) (W : World) : (sizeOf R.E).run Tryz.prog W = .ok R.k W := by
  obtain ⟨i0, hi, hz0, hz1, hz2⟩ := info_parts ok.info
  simp [sizeOf, typeInfo, hi, hz1]
theorem elem_of (ok : R.Ok) : Tryz.prog.elem R.S = R.E := by simp [Program.elem, ok.hS]
/-- s[i:] -/
theorem run_from (ok : R.Ok) {w : World} {A : Option Addr} {n c : Nat} {l : List α} (h : R.Rds w A n c l) (i : Nat) (hi : i ≤ n) :
    ∃ A', (∀ W, (Instr.sliceAt R.S (.slice A n c) (some (.int .i64 (i : Int))) none none).run Tryz.prog W = .ok (.slice A' (n - i) (c - i)) W) ∧ R.Rds w A' (n - i) (c - i) (l.drop i) := by
  have hcap := h.cap
  refine ⟨if c = i then A else A.map (·.add (i * R.k)), fun W => ?_, ?_⟩
  · rw [run_sliceAt_slice W R.S _ _ _ _ (by rw [elem_of ok]; exact ok.hS), run_slice_l W R.S A n c (by rw [elem_of ok]; exact ok.hS) .i64 (i : Int) (by omega) (by omega), elem_of ok, size_run ok W]
    simp [Result.andThen, sliced]
  · by_cases h0 : n - i = 0
    · have hl : l.drop i = [] := List.drop_of_length_le (by rw [h.len]; omega)
      rw [hl, h0]
      exact Rds.nil w _ _ (by have := h.top; omega)
    · rw [if_neg (by omega)]
      obtain ⟨b, o, rfl, _⟩ := h.at_ (by omega)
      have hadd : (⟨b, o, none⟩ : Addr).add (i * R.k) = ⟨b, o + i * R.k, none⟩ := by unfold Addr.add; split <;> simp_all
      rw [Option.map_some, hadd]
      exact h.drop ok i hi
/-- s[:i] -/
theorem run_upto (ok : R.Ok) {w : World} {A : Option Addr} {n c : Nat} {l : List α} (h : R.Rds w A n c l) (i : Nat) (hi : i ≤ n) :
    ∃ A', (∀ W, (Instr.sliceAt R.S (.slice A n c) none (some (.int .i64 (i : Int))) none).run Tryz.prog W = .ok (.slice A' i c) W) ∧ R.Rds w A' i c (l.take i) := by
  have hcap := h.cap
  refine ⟨if c = 0 then A else A.map (·.add (0 * R.k)), fun W => ?_, ?_⟩
  · rw [run_sliceAt_slice W R.S _ _ _ _ (by rw [elem_of ok]; exact ok.hS), run_slice_h W R.S A n c (by rw [elem_of ok]; exact ok.hS) .i64 (i : Int) (by omega) (by omega), elem_of ok, size_run ok W]
    simp [Result.andThen, sliced]
  · by_cases h0 : n = 0
    · have hi0 : i = 0 := by omega
      subst hi0
      rw [List.take_zero]
      exact Rds.nil w _ _ h.top
    · rw [if_neg (by omega)]
      obtain ⟨b, o, rfl, _⟩ := h.at_ (by omega)
      have hadd : (⟨b, o, none⟩ : Addr).add (0 * R.k) = ⟨b, o, none⟩ := by unfold Addr.add; split <;> simp_all
      rw [Option.map_some, hadd]
      exact h.take ok i hi
theorem vs_set3 (hk : ∀ x : α, (R.enc x).length = 3) (l : List α) (i : Nat) (x : α) (a b c : Value) (hi : i < l.length) (hx : R.enc x = [a, b, c]) : (((R.vs l).set (i * 3) a).set (i * 3 + 1) b).set (i * 3 + 2) c = R.vs (l.set i x) := by
  induction l generalizing i with
  | nil => cases hi
  | cons y r ih =>
    obtain ⟨y0, y1, y2, hy⟩ : ∃ y0 y1 y2, R.enc y = [y0, y1, y2] := by
      have h := hk y
      match he : R.enc y, h with
      | [p, q, s], _ => exact ⟨p, q, s, rfl⟩
    rw [vs_cons, hy]
    cases i with
    | zero => rw [List.set_cons_zero, vs_cons, hx]; rfl
    | succ i =>
      rw [List.set_cons_succ, vs_cons, hy, ← ih i (by simpa using hi), show (i + 1) * 3 = i * 3 + 3 by omega]
      rfl
/-- an element of a slice of the call's own is written -/
theorem Own.set3 (hk : ∀ x : α, (R.enc x).length = 3) (_h3 : R.k = 3) {B : Nat} {w : World} {g n cap : Nat} {l : List α} (h : R.Own B w (.slice (some ⟨g, 0, none⟩) n cap) l) (i : Nat) (x : α) (a b c : Value) (hi : i < l.length) (hx : R.enc x = [a, b, c]) :
    R.Own B (((w.setCell ⟨g, i * 3, none⟩ a).setCell ⟨g, i * 3 + 1, none⟩ b).setCell ⟨g, i * 3 + 2, none⟩ c) (.slice (some ⟨g, 0, none⟩) n cap) (l.set i x) ∧ w.grownBy (((w.setCell ⟨g, i * 3, none⟩ a).setCell ⟨g, i * 3 + 1, none⟩ b).setCell ⟨g, i * 3 + 2, none⟩ c) (some g) := by
  have hn : n = l.length := by
    rcases h.2 with ⟨e, _⟩ | ⟨g', cap', cur, e, _⟩
    · cases e
    · injection e
  subst hn
  have h' : w.ownsRow B R.E R.k (.slice (some ⟨g, 0, none⟩) l.length cap) l.length (R.vs l) := h
  obtain ⟨s1, t1⟩ := h'.stored (i * 3) a
  obtain ⟨s2, t2⟩ := s1.stored (i * 3 + 1) b
  obtain ⟨s3, t3⟩ := s2.stored (i * 3 + 2) c
  rw [vs_set3 hk l i x a b c hi hx] at s3
  refine ⟨?_, grown_tr (grown_tr t1 t2) t3⟩
  unfold Own
  rw [List.length_set]
  exact s3
theorem Own.frz {B : Nat} {w : World} {g n cap : Nat} {l : List α} (h : R.Own B w (.slice (some ⟨g, 0, none⟩) n cap) l) (j : Nat) : w.frozen? ⟨g, j, none⟩ = false := by
  have hn : n = l.length := by
    rcases h.2 with ⟨e, _⟩ | ⟨g', cap', cur, e, _⟩
    · cases e
    · injection e
  subst hn
  exact World.ownsRow.frozenAt h j
end Row
end Go.Proofs.YtohdpidlilhnjaaGreatDoor

/- Lists of entries in memory. -/
namespace Go.Proofs.YtohdpidlilhnjaaGreatDoor
open Go.RowKit Go.Maps Num

def BoolPost (b : Bool) (w : World) (e : Ending) (w' : World) : Prop := e = .returned (.bool b) ∧ Below w.heap.size w w'
abbrev En : Type := Int × List UInt8 × List Ln
set_option synthInstance.maxHeartbeats 200000 in
set_option synthInstance.maxSize 1000 in
instance decEn : DecidableEq En := inferInstanceAs (DecidableEq (Int × List UInt8 × List Ln))
instance decEns : DecidableEq (List En) := fun a b => @instDecidableEqList En decEn a b
def en0 : En := (0, [], [])
/-- The slice value '.slice A n c' reads as the entries l in w. -/
structure Ens (w : World) (A : Option Addr) (n c : Nat) (l : List En) : Prop where
  len : l.length = n
  cap : n ≤ c
  top : c ≤ maxLen
  small : n ≤ 1000
  at_ : 0 < n → ∃ b o, A = some ⟨b, o, none⟩ ∧ b < w.heap.size ∧ ∀ k, k < n → w.cell? ⟨b, o + k * 3, none⟩ = some (.int .i64 (l.getD k en0).1) ∧ w.cell? ⟨b, o + k * 3 + 1, none⟩ = some (.string ⟨(l.getD k en0).2.1.toArray⟩) ∧
    ∃ A' n' c', w.cell? ⟨b, o + k * 3 + 2, none⟩ = some (.slice A' n' c') ∧ Lns w A' n' c' (l.getD k en0).2.2
theorem Ens.below {w w' : World} {A : Option Addr} {n c : Nat} {l : List En} (h : Ens w A n c l) (hb : Below w.heap.size w w') : Ens w' A n c l :=
  ⟨h.len, h.cap, h.top, h.small, fun h0 => by
    obtain ⟨b, o, e, hlt, hc⟩ := h.at_ h0
    refine ⟨b, o, e, Nat.lt_of_lt_of_le hlt hb.size, fun k hk => ?_⟩
    obtain ⟨c0, c1, A', n', c', c2, hl⟩ := hc k hk
    exact ⟨(hb.cell (p := ⟨b, o + k * 3, none⟩) hlt).trans c0, (hb.cell (p := ⟨b, o + k * 3 + 1, none⟩) hlt).trans c1, A', n', c', (hb.cell (p := ⟨b, o + k * 3 + 2, none⟩) hlt).trans c2, hl.below hb⟩⟩
theorem take_en (l : List En) (k : Nat) (h : k < l.length) : l.take (k + 1) = l.take k ++ [l.getD k en0] := by
  rw [List.take_succ_eq_append_getElem h, List.getD_eq_getElem?_getD, List.getElem?_eq_getElem h]; rfl
end Go.Proofs.YtohdpidlilhnjaaGreatDoor

/- Rows of lines, entries, keys. -/
namespace Go.Proofs.YtohdpidlilhnjaaGreatDoor
open Go.RowKit Go.Maps Num

abbrev rowL : Row Ln := ⟨37, 40, .agg #[.string ⟨#[]⟩, .string ⟨#[]⟩, .string ⟨#[]⟩], 3, 48, LV⟩
theorem rowL_ok : rowL.Ok where
  hS := Tryz.underlying37
  info := by kernel_rfl
  zc := rfl
  k0 := by decide
  b1 := by decide
  hk _ := rfl
  h1 x v hv := by
    simp only [LV, List.mem_cons, List.not_mem_nil, or_false] at hv
    rcases hv with rfl | rfl | rfl <;> rfl
/-- an entry as it lies, and as it reads -/
abbrev Raw := Int × List UInt8 × Option Addr × Nat × Nat
abbrev RE := Raw × En
def rawA (r : Raw) : Option Addr := r.2.2.1
def rawN (r : Raw) : Nat := r.2.2.2.1
def rawC (r : Raw) : Nat := r.2.2.2.2
def encE (p : RE) : List Value := [.int .i64 p.1.1, .string ⟨p.1.2.1.toArray⟩, .slice (rawA p.1) (rawN p.1) (rawC p.1)]
abbrev rowE : Row RE := ⟨22, 39, .agg #[.int .i64 0, .string ⟨#[]⟩, .slice none 0 0], 3, 48, encE⟩
theorem rowE_ok : rowE.Ok where
  hS := Tryz.underlying22
  info := by kernel_rfl
  zc := rfl
  k0 := by decide
  b1 := by decide
  hk _ := rfl
  h1 x v hv := by
    simp only [encE, List.mem_cons, List.not_mem_nil, or_false] at hv
    rcases hv with rfl | rfl | rfl <;> rfl
def encK (q : Ky) : List Value := [.string ⟨q.1.toArray⟩, .string ⟨q.2.toArray⟩]
abbrev rowK : Row Ky := ⟨160, 111, .agg #[.string ⟨#[]⟩, .string ⟨#[]⟩], 2, 32, encK⟩
theorem rowK_ok : rowK.Ok where
  hS := Tryz.underlying160
  info := by kernel_rfl
  zc := rfl
  k0 := by decide
  b1 := by decide
  hk _ := rfl
  h1 x v hv := by
    simp only [encK, List.mem_cons, List.not_mem_nil, or_false] at hv
    rcases hv with rfl | rfl <;> rfl
/-! lines -/
theorem Lns.rds {w : World} {A : Option Addr} {n c : Nat} {l : List Ln} (h : Lns w A n c l) : rowL.Rds w A n c l :=
  ⟨h.len, h.cap, h.top, fun h0 => by
    obtain ⟨b, o, e, hlt, hc⟩ := h.at_ h0
    refine ⟨b, o, e, hlt, fun j u hu => ?_⟩
    have hj := (List.getElem?_eq_some_iff.1 hu).1
    rw [Row.vs_len rowL_ok, h.len] at hj
    have hj2 : j / 3 < n := by have : j < n * 3 := hj; omega
    have e1 := Row.vs_at rowL_ok ln0 l (j / 3) (j % 3) (by rw [h.len]; exact hj2) (by show j % 3 < 3; omega)
    rw [show j / 3 * rowL.k + j % 3 = j by show j / 3 * 3 + j % 3 = j; omega, hu] at e1
    obtain ⟨c0, c1, c2⟩ := hc (j / 3) hj2
    have h3 : j % 3 < 3 := by omega
    generalize hq : j % 3 = q at *
    rw [show o + j = o + j / 3 * 3 + q by omega]
    rcases q with _ | _ | _ | q
    · rw [Nat.add_zero, c0]; exact e1.symm
    · rw [c1]; exact e1.symm
    · rw [c2]; exact e1.symm
    · omega⟩
theorem Lns.of_rds {w : World} {A : Option Addr} {n c : Nat} {l : List Ln} (h : rowL.Rds w A n c l) (hn : n ≤ 1000) (hs : ∀ x ∈ l, Sml x) : Lns w A n c l :=
  ⟨h.len, h.cap, h.top, hn, hs, fun h0 => by
    obtain ⟨b, o, rfl, hlt, _⟩ := h.at_ h0
    exact ⟨b, o, rfl, hlt, fun k hk => ⟨h.cell rowL_ok ln0 k 0 _ hk rfl, h.cell rowL_ok ln0 k 1 _ hk rfl, h.cell rowL_ok ln0 k 2 _ hk rfl⟩⟩⟩
/-! entries -/
/-- what the entry reads as -/
def RdE (w : World) (p : RE) : Prop := p.1.1 = p.2.1 ∧ p.1.2.1 = p.2.2.1 ∧ Lns w (rawA p.1) (rawN p.1) (rawC p.1) p.2.2.2
theorem RdE.below {w w' : World} {p : RE} (h : RdE w p) (hb : Below w.heap.size w w') : RdE w' p := ⟨h.1, h.2.1, h.2.2.below hb⟩
def re0 : RE := ((0, [], none, 0, 0), en0)
/-- the slice reads as the entries -/
structure Res (w : World) (A : Option Addr) (n c : Nat) (ps : List RE) : Prop where
  rds : rowE.Rds w A n c ps
  all : ∀ p ∈ ps, RdE w p
theorem Res.below {w w' : World} {A : Option Addr} {n c : Nat} {ps : List RE} (h : Res w A n c ps) (hb : Below w.heap.size w w') : Res w' A n c ps :=
  ⟨h.rds.below hb, fun p hp => (h.all p hp).below hb⟩
theorem Ens.res {w : World} {A : Option Addr} {n c : Nat} {l : List En} (h : Ens w A n c l) : ∃ ps : List RE, ps.map Prod.snd = l ∧ Res w A n c ps := by
  by_cases h0 : 0 < n
  case neg =>
    have hl : l = [] := List.eq_nil_of_length_eq_zero (by rw [h.len]; omega)
    subst hl
    exact ⟨[], rfl, ⟨h.len, h.cap, h.top, fun hh => absurd hh h0⟩, fun p hp => by cases hp⟩
  obtain ⟨b, o, rfl, hlt, hc⟩ := h.at_ h0
  have hx : ∀ k, ∃ t : Option Addr × Nat × Nat, k < n → w.cell? ⟨b, o + k * 3 + 2, none⟩ = some (.slice t.1 t.2.1 t.2.2) ∧ Lns w t.1 t.2.1 t.2.2 (l.getD k en0).2.2 := by
    intro k
    by_cases hk : k < n
    · obtain ⟨_, _, A', n', c', c2, hl⟩ := hc k hk
      exact ⟨(A', n', c'), fun _ => ⟨c2, hl⟩⟩
    · exact ⟨(none, 0, 0), fun h => absurd h hk⟩
  obtain ⟨f, hf⟩ := Classical.axiomOfChoice hx
  have hlen := h.len
  refine ⟨(List.range n).map fun k => (((l.getD k en0).1, (l.getD k en0).2.1, f k), l.getD k en0), ?_, ⟨by simp, h.cap, h.top, fun _ => ⟨b, o, rfl, hlt, fun j u hu => ?_⟩⟩, fun p hp => ?_⟩
  · rw [List.map_map]
    refine List.ext_getElem (by simp [hlen]) fun k h1 h2 => ?_
    simp [h2]
  · have hj := (List.getElem?_eq_some_iff.1 hu).1
    rw [Row.vs_len rowE_ok, List.length_map, List.length_range] at hj
    have hj2 : j / 3 < n := by have : j < n * 3 := hj; omega
    have e1 := Row.vs_at rowE_ok re0 ((List.range n).map fun k => (((l.getD k en0).1, (l.getD k en0).2.1, f k), l.getD k en0)) (j / 3) (j % 3) (by simpa using hj2) (by show j % 3 < 3; omega)
    rw [show j / 3 * rowE.k + j % 3 = j by show j / 3 * 3 + j % 3 = j; omega, hu] at e1
    have e2 : ((List.range n).map fun k => (((l.getD k en0).1, (l.getD k en0).2.1, f k), l.getD k en0)).getD (j / 3) re0 = (((l.getD (j / 3) en0).1, (l.getD (j / 3) en0).2.1, f (j / 3)), l.getD (j / 3) en0) := by
      rw [List.getD_eq_getElem?_getD, List.getElem?_map, List.getElem?_range hj2]; rfl
    rw [e2] at e1
    obtain ⟨c0, c1, _⟩ := hc (j / 3) hj2
    have c2 := (hf (j / 3) hj2).1
    have h3 : j % 3 < 3 := by omega
    generalize hq : j % 3 = q at *
    rw [show o + j = o + j / 3 * 3 + q by omega]
    rcases q with _ | _ | _ | q
    · rw [Nat.add_zero, c0]; exact e1.symm
    · rw [c1]; exact e1.symm
    · rw [c2]; exact e1.symm
    · omega
  · obtain ⟨k, hk, rfl⟩ := List.mem_map.1 hp
    exact ⟨rfl, rfl, (hf k (List.mem_range.1 hk)).2⟩
theorem Res.ens {w : World} {A : Option Addr} {n c : Nat} {ps : List RE} (h : Res w A n c ps) (hn : n ≤ 1000) : Ens w A n c (ps.map Prod.snd) :=
  ⟨by rw [List.length_map]; exact h.rds.len, h.rds.cap, h.rds.top, hn, fun h0 => by
    obtain ⟨b, o, rfl, hlt, _⟩ := h.rds.at_ h0
    refine ⟨b, o, rfl, hlt, fun k hk => ?_⟩
    have hk2 : k < ps.length := by rw [h.rds.len]; exact hk
    have e : (ps.map Prod.snd).getD k en0 = (ps.getD k re0).2 := by
      rw [List.getD_eq_getElem?_getD, List.getElem?_map, List.getD_eq_getElem?_getD, List.getElem?_eq_getElem hk2]; rfl
    have hm : ps.getD k re0 ∈ ps := by
      rw [List.getD_eq_getElem?_getD, List.getElem?_eq_getElem hk2]
      exact List.getElem_mem hk2
    obtain ⟨r1, r2, r3⟩ := h.all _ hm
    have c0 := h.rds.cell rowE_ok re0 k 0 _ hk rfl
    have c1 := h.rds.cell rowE_ok re0 k 1 _ hk rfl
    have c2 := h.rds.cell rowE_ok re0 k 2 _ hk rfl
    rw [e, ← r1, ← r2]
    exact ⟨c0, c1, _, _, _, c2, r3⟩⟩
theorem rds_cells3 {w : World} {b o n c : Nat} {ps : List RE} (h : rowE.Rds w (some ⟨b, o, none⟩) n c ps) (k : Nat) (hk : k < n) :
    w.cell? ⟨b, o + k * 3, none⟩ = some (.int .i64 (ps.getD k re0).1.1) ∧ w.cell? ⟨b, o + k * 3 + 1, none⟩ = some (.string ⟨(ps.getD k re0).1.2.1.toArray⟩) ∧ w.cell? ⟨b, o + k * 3 + 2, none⟩ = some (.slice (ps.getD k re0).1.2.2.1 (ps.getD k re0).1.2.2.2.1 (ps.getD k re0).1.2.2.2.2) :=
  ⟨h.cell rowE_ok re0 k 0 _ hk rfl, h.cell rowE_ok re0 k 1 _ hk rfl, h.cell rowE_ok re0 k 2 _ hk rfl⟩
theorem own_cells3 {w : World} {B g n cap : Nat} {ps : List RE} (h : rowE.Own B w (.slice (some ⟨g, 0, none⟩) n cap) ps) (k : Nat) (hk : k < n) :
    w.cell? ⟨g, k * 3, none⟩ = some (.int .i64 (ps.getD k re0).1.1) ∧ w.cell? ⟨g, k * 3 + 1, none⟩ = some (.string ⟨(ps.getD k re0).1.2.1.toArray⟩) ∧ w.cell? ⟨g, k * 3 + 2, none⟩ = some (.slice (ps.getD k re0).1.2.2.1 (ps.getD k re0).1.2.2.2.1 (ps.getD k re0).1.2.2.2.2) := by
  obtain ⟨A, c, e, hr⟩ := h.rds
  injection e with e1 e2 e3
  subst e1 e2 e3
  have := rds_cells3 hr k hk
  simpa only [Nat.zero_add] using this
theorem own_len {w : World} {B g n cap : Nat} {ps : List RE} (h : rowE.Own B w (.slice (some ⟨g, 0, none⟩) n cap) ps) : ps.length = n := by
  obtain ⟨A, c, e, hr⟩ := h.rds
  injection e with e1 e2 e3
  exact e2.symm
end Go.Proofs.YtohdpidlilhnjaaGreatDoor

/- Keys of Normal's map: accounts in currencies. -/
namespace Go.Proofs.YtohdpidlilhnjaaGreatDoor
open Go.RowKit Go.Maps Num
theorem laidOut : laidOutB Tryz.prog = true := by kernel_rfl
theorem row75 : 111 < Tryz.prog.types.size := of_decide_eq_true (by kernel_rfl)
theorem wide75 : (match Tryz.prog.underlying 111 with | some (.array _ _) | some (.struct _) => true | _ => false) = true := by rw [Tryz.underlying111]
set_option maxRecDepth 100000 in
theorem keyed75 : Keyed Tryz.prog 111 := Keyed.of_law (deep_law_laid laidOut (m := 2) (by omega) row75 (by kernel_rfl) wide75)
theorem cells75 : Tryz.prog.cellsOf 111 = 2 := by kernel_rfl
theorem cells9 : Tryz.prog.cellsOf 9 = 1 := by kernel_rfl
theorem kt75 : Tryz.prog.keyType 111 = true := by kernel_rfl
set_option maxRecDepth 100000 in
theorem lits9 (d : Nat) (s : List UInt8) (hs : s.length ≤ 100000) : Tryz.prog.keyLits (d + 1) 9 [.string ⟨s.toArray⟩] = some [.string s] := by
  have : (⟨s.toArray⟩ : ByteArray).size ≤ maxLen := by unfold maxLen; show s.length ≤ _; omega
  unfold Program.keyLits
  rw [Tryz.underlying9]
  simp [this]
set_option maxRecDepth 100000 in
theorem lits75 (d : Nat) (a c : List UInt8) (ha : a.length ≤ 100000) (hc : c.length ≤ 100000) : Tryz.prog.keyLits (d + 2) 111 [.string ⟨a.toArray⟩, .string ⟨c.toArray⟩] = some [.string a, .string c] := by
  unfold Program.keyLits
  rw [Tryz.underlying111]
  simp [cells75, cells9, lits9, ha, hc]
/-- how the map tells a key -/
def kb (q : Ky) : List UInt8 := keyBytes [.string q.1, .string q.2]
set_option maxRecDepth 100000 in
theorem key75 (a c : List UInt8) (ha : a.length ≤ 100000) (hc : c.length ≤ 100000) : keyOf Tryz.prog 111 (.agg #[.string ⟨a.toArray⟩, .string ⟨c.toArray⟩]) = some (.string (kb (a, c))) := by
  obtain ⟨d, hd⟩ : ∃ d, Tryz.prog.types.size + 1 = d + 2 := ⟨Tryz.prog.types.size - 1, by have := row75; omega⟩
  have hf : (Value.agg #[.string ⟨a.toArray⟩, .string ⟨c.toArray⟩]).formed Tryz.prog 111 = true := by simp [Value.formed, Tryz.underlying111, cells75]
  have hc' : (Value.agg #[.string ⟨a.toArray⟩, .string ⟨c.toArray⟩]).cells.toList = [.string ⟨a.toArray⟩, .string ⟨c.toArray⟩] := by simp [Value.cells]
  unfold keyOf
  rw [Tryz.underlying111]
  simp only
  rw [kt75, hf, hc', hd, lits75 d a c ha hc]
  rfl
theorem kb_inj {a c a' c' : List UInt8} (h1 : a.length ≤ 100000) (h2 : c.length ≤ 100000) (h3 : a'.length ≤ 100000) (h4 : c'.length ≤ 100000) (h : kb (a, c) = kb (a', c')) : (a, c) = (a', c') := by
  have e := keyed75.inj (key75 a c h1 h2) (by rw [h]; exact key75 a' c' h3 h4)
  simpa using e
end Go.Proofs.YtohdpidlilhnjaaGreatDoor

/- Contracts of maps.Keys at the map of sums, its iterator, slices.AppendSeq and Collect at keys. -/
namespace Go.Proofs.YtohdpidlilhnjaaGreatDoor
open Go.RowKit Go.Maps Go.Shelf Num
attribute [local go_sem] Oper.semAt_some

theorem encK_inj {p q : Ky} (h : Value.agg (encK p).toArray = .agg (encK q).toArray) : p = q := by
  obtain ⟨p1, p2⟩ := p
  obtain ⟨q1, q2⟩ := q
  simp [encK] at h
  rw [h.1, h.2]
set_option maxRecDepth 100000 in
theorem lits9_inv {d : Nat} {x : Value} {z : List Lit} (h : Tryz.prog.keyLits (d + 1) 9 [x] = some z) : ∃ s : List UInt8, x = .string ⟨s.toArray⟩ ∧ z = [.string s] := by
  unfold Program.keyLits at h
  rw [Tryz.underlying9] at h
  cases x with
  | string s =>
    simp only at h
    split at h
    · exact ⟨s.data.toList, rfl, (Option.some.inj h).symm⟩
    · cases h
  | _ => simp at h
set_option maxRecDepth 100000 in
theorem key75_inv {v : Value} {kl : Lit} (h : keyOf Tryz.prog 111 v = some kl) : ∃ q : Ky, v = .agg (encK q).toArray ∧ kl = .string (kb q) := by
  obtain ⟨d, hd⟩ : ∃ d, Tryz.prog.types.size + 1 = d + 2 := ⟨Tryz.prog.types.size - 1, by have := row75; omega⟩
  unfold keyOf at h
  rw [Tryz.underlying111] at h
  simp only at h
  rw [kt75] at h
  split at h
  case isFalse => cases h
  rename_i hf
  rw [Bool.true_and] at hf
  cases v with
  | agg cs =>
    simp only [Value.formed, Tryz.underlying111, cells75, beq_iff_eq] at hf
    obtain ⟨x, y, e⟩ : ∃ x y, cs = #[x, y] := by
      match cs, hf with
      | ⟨[x, y]⟩, _ => exact ⟨x, y, rfl⟩
    subst e
    have hc : (Value.agg #[x, y]).cells.toList = [x, y] := by simp [Value.cells]
    rw [hd, hc] at h
    cases hl : Tryz.prog.keyLits (d + 2) 111 [x, y] with
    | none => rw [hl] at h; cases h
    | some ls =>
      rw [hl] at h
      unfold Program.keyLits at hl
      rw [Tryz.underlying111] at hl
      simp [cells75, cells9] at hl
      cases h1 : Tryz.prog.keyLits (d + 1) 9 [x] with
      | none => rw [h1] at hl; cases hl
      | some a =>
        cases h2 : Tryz.prog.keyLits (d + 1) 9 [y] with
        | none => rw [h1, h2] at hl; cases hl
        | some b =>
          rw [h1, h2] at hl
          obtain ⟨s1, rfl, rfl⟩ := lits9_inv h1
          obtain ⟨s2, rfl, rfl⟩ := lits9_inv h2
          have e1 := Option.some.inj hl
          have e2 := Option.some.inj h
          exact ⟨(s1, s2), rfl, by rw [← e2, ← e1]; rfl⟩
  | _ => simp [Value.formed, Tryz.underlying111] at hf
/-- the keys met so far: no one twice; a key is there just where the map has it and it is no longer to come -/
def ColK (D : DataW Nat) (left : Lit → Bool) (ss : List Ky) : Prop := (ss.map kb).Nodup ∧ (∀ k, k ∈ ss.map kb ↔ (has D (.string k) = true ∧ left (.string k) = false)) ∧ ∀ q ∈ ss, keyOf Tryz.prog 111 (.agg (encK q).toArray) = some (.string (kb q))
theorem ColK.start (D : DataW Nat) : ColK D (has D) [] := ⟨List.nodup_nil, fun k => by cases has D (.string k) <;> simp, fun q hq => by cases hq⟩
theorem ColK.step {D : DataW Nat} {left : Lit → Bool} {ss : List Ky} (h : ColK D left ss) {q : Ky} {y : DataW Nat} (hky : keyOf Tryz.prog 111 (.agg (encK q).toArray) = some (.string (kb q))) (hlk : left (.string (kb q)) = true) (hat : ∀ zd, D.atKey (.string (kb q)) zd = y) : ColK D (fun z => left z && !z.sameKey (.string (kb q))) (ss ++ [q]) := by
  have hhas : has D (.string (kb q)) = true := has_true_of_atKey hat
  have hnew : kb q ∉ ss.map kb := fun hx => by have := ((h.2.1 (kb q)).1 hx).2; rw [hlk] at this; cases this
  rw [ColK, List.map_append]
  refine ⟨List.nodup_append.2 ⟨h.1, by simp, fun a ha b hb => by simp at hb; subst hb; exact fun e => hnew (e ▸ ha)⟩, fun y => ?_, fun p hp => ?_⟩
  · by_cases hy : y = kb q
    · subst hy; simp [hhas, Lit.sameKey]
    · rw [List.mem_append, h.2.1 y]; simp [hy, Lit.sameKey]
  · rcases List.mem_append.1 hp with hp | hp
    · exact h.2.2 p hp
    · rw [List.mem_singleton.1 hp]; exact hky
/-- what the iterator gave: each key of the map once -/
def KeysD (D : DataW Nat) (ss : List Ky) : Prop := (ss.map kb).Nodup ∧ (∀ k, k ∈ ss.map kb ↔ has D (.string k) = true) ∧ ss.length ≤ Maps.size D ∧ ∀ q ∈ ss, keyOf Tryz.prog 111 (.agg (encK q).toArray) = some (.string (kb q))
set_option maxRecDepth 100000 in
set_option maxHeartbeats 2000000 in
theorem keys_in (d : Nat) (hd : 1 ≤ d) (l Bm b nn : Nat) (D : DataW Nat) (J Jx : List Ky → World → Prop)
    (hY : ∀ pre x W, J pre W → pre.length < Maps.size D → YieldAt Fence.wide (d - 1) Tryz.prog l #[.agg (encK x).toArray] W fun e W' =>
      (e = .returned (.bool true) ∧ J (pre ++ [x]) W' ∧ KeepsWalks W W') ∨ (e = .returned (.bool false) ∧ Jx (pre ++ [x]) W'))
    (W : World) (hJ : AbidesFrom W.heap.size J) (hm : W.cell? ⟨Bm, 0, none⟩ = some (.map (some b))) (hown : W.ownsMap Tryz.prog 111 (plainElem Tryz.prog 31) b nn D) (h0 : J [] W) :
    CallsIn Fence.wide d Tryz.prog 181 #[.func (.yield l) #[] #[], .pointer (some ⟨Bm, 0, none⟩)] W fun e W' => (∃ v, e = .returned v) ∧ ((∃ ss : List Ky, KeysD D ss ∧ J ss W') ∨ (∃ pre : List Ky, True ∧ Jx pre W')) := by
  refine callsIn_of_wp Tryz.func181 rfl trivial ?_ rfl
  simp only [Tryz.ntmps181, List.size_toArray, List.length_cons, List.length_nil, Nat.reduceAdd, Nat.reduceSub, Array.replicate_succ, Array.replicate_zero, List.push_toArray, List.append_toArray, List.nil_append, List.cons_append]
  gi_wp2_with (first
    | (gi_at_range; refine wpListIn_range_own _ rfl _ 105 rfl 111 31 keyed75 Tryz.underlying105 _ b nn _ rfl hown ?_; intro w0 hrg0 hg0 hs0)
    | gi_in)
  go_frame
  gi_loopw [3] (fun _ wr => ∃ (left : Lit → Bool) (cnt : Nat) (ss : List Ky), wr.ranges Tryz.prog 111 (plainElem Tryz.prog 31) b W.heap.size nn D left cnt ∧ ss.length + cnt ≤ Maps.size D ∧ ColK D left ss ∧ J ss wr ∧ W.heap.size < wr.heap.size)
    (fun _ wr => wr.rangeLeft b W.heap.size)
  case atStart =>
    exact ⟨_, _, [], hrg0, by simp, ColK.start D, hJ [] W w0 none h0 hg0 (fun r e => by cases e), by omega⟩
  case round =>
    obtain ⟨left, cnt, ss, hrg, hcs, hC, hJs, hlt0⟩ := hrel
    gi_wp2_with (first
      | (gi_at_next; refine wpListIn_next_ranges _ rfl _ rfl 111 keyed75 (plainElem Tryz.prog 31) (fun q : Ky => Value.agg (encK q).toArray) Value.string (fun key kl hk => by obtain ⟨q, hq, _⟩ := key75_inv hk; exact ⟨q, hq⟩) (fun v y hv => by obtain ⟨c, rfl, _⟩ := plain_str_inv hv; exact ⟨c, rfl⟩) b W.heap.size nn _ _ _ rfl hrg ?_ ?_)
      | gi_in)
    · intro hc0 hl0
      gi_wp2
      go_end0
      exact ⟨⟨_, rfl⟩, .inl ⟨ss, ⟨hC.1, fun k => by rw [hC.2.1 k, hl0]; simp, by omega, hC.2.2⟩, hJs⟩⟩
    · intro xa xc c kl yd yp w2 cnt2 hkey hlk hv hat hrg2 hlt hg2 hs2 hen
      obtain ⟨x, hx⟩ : ∃ x : Ky, x = (xa, xc) := ⟨_, rfl⟩
      rw [← hx] at hkey hen ⊢
      obtain ⟨x', ex, rfl⟩ := key75_inv hkey
      obtain rfl : x = x' := encK_inj ex
      have hJ2 : J ss w2 := hJ ss wr w2 (some W.heap.size) hJs hg2 (fun r e => by cases e; exact ⟨Nat.le_refl _, hrg.iter_walk⟩)
      have hJ3 : J ss (w2.alloc (.cells (encK x).toArray 111)) := hJ ss w2 _ none hJ2 (World.grownBy_alloc _ _ _) (fun r e => by cases e)
      obtain ⟨fn, tmps, assign, body, hy, hR⟩ := hY ss x (w2.alloc (.cells (encK x).toArray 111)) hJ3 (by omega)
      have hrg3 := hrg2.of_walks (KeepsWalks.alloc w2 (.cells (encK x).toArray 111))
      have hC2 := hC.step hkey hlk hat
      have hsz : W.heap.size < (w2.alloc (.cells (encK x).toArray 111)).heap.size := by simp; omega
      have hme := hrg.left_eq
      clear hs2 hC hJ2 hJ3 hkey
      subst hx
      simp only [encK] at *
      gi_wp2
      refine hR.mono ?_
      rintro e W3 (⟨rfl, hJ3, hk3⟩ | ⟨rfl, hJx3⟩)
      · gi_wp2
        have hrg4 := hrg3.of_walks hk3
        go_roundw
        case rel => exact ⟨_, cnt2, ss ++ [(xa, xc)], hrg4, by simp; omega, hC2, hJ3, Nat.lt_of_lt_of_le hsz hk3.size⟩
        case measure => rw [hrg4.left_eq, hme]; exact hlt
      · gi_wp2
        refine bodyPost_ret (results_none rfl _ _ _) rfl ?_
        exact ⟨⟨_, rfl⟩, .inr ⟨ss ++ [(xa, xc)], trivial, hJx3⟩⟩
theorem keys_stops (d : Nat) (hd : 1 ≤ d) (Bm b nn : Nat) (D : DataW Nat) (w : World) (hBm : Bm < w.heap.size) (hm : w.cell? ⟨Bm, 0, none⟩ = some (.map (some b))) (hown : w.ownsMap Tryz.prog 111 (plainElem Tryz.prog 31) b nn D) :
    SeqStopsK Fence.wide d Tryz.prog 181 #[.pointer (some ⟨Bm, 0, none⟩)] (fun q : Ky => #[Value.agg (encK q).toArray]) KeepsWalks (KeysD D) (fun _ => True) (Maps.size D) w := fun l J Jx W hW hJ _ hY h0 => by
  have hown' : W.ownsMap Tryz.prog 111 (plainElem Tryz.prog 31) b nn D := hown.kept (grown_of_below hW) (by simp)
  exact keys_in d hd l Bm b nn D J Jx hY W hJ ((hW.cell (p := ⟨Bm, 0, none⟩) hBm).trans hm) hown' h0
theorem Keys_any (b : Nat) (w : World) : Calls Tryz.prog 129 #[.map (some b)] w fun e w' => e = .returned (.func (.func 181) #[] #[.pointer (some ⟨w.heap.size, 0, none⟩)]) ∧ w' = w.alloc (.cells #[.map (some b)] 105) := by
  go_enter Tryz.func129, Tryz.ntmps129
  go_wp2
  go_ret
  exact ⟨rfl, rfl⟩
/-- what the collecting loop keeps: the slice in its box -/
structure CoI (w : World) (pre : List Ky) (W : World) : Prop where
  box : ∃ v, Boxed W w.heap.size 160 v ∧ rowK.Own w.heap.size W v pre
  bel : Below w.heap.size w W
theorem own_ne {α : Type} {R : Row α} {B : Nat} {W : World} {v : Value} {l : List α} (h : R.Own B W v l) {row : Option Nat} (hr : ∀ r, row = some r → ∃ o : Obj, W.heap[r]? = some o ∧ o.isCells = false) : v.ownBlock = none ∨ v.ownBlock ≠ row := by
  rcases h.2 with ⟨rfl, _⟩ | ⟨g, cap, cur, rfl, _, hg, _⟩
  · exact .inl rfl
  · refine .inr fun e => ?_
    obtain ⟨o, ho, hc⟩ := hr g e.symm
    rw [hg] at ho; cases ho; cases hc
theorem CoI.own (w : World) (B : Nat) (hB : w.heap.size < B) : OwnFrom B (CoI w) := fun s A C row hs hg hr => by
  obtain ⟨v, hb, ho⟩ := hs.box
  refine ⟨⟨v, hb.kept hg (fun e => ?_), ho.kept' hg (own_ne ho fun r e => (hr r e).2)⟩, hs.bel.grown hg hs.bel.size (fun k e => by have := (hr k e).1; omega)⟩
  obtain ⟨o, h1, h2⟩ := (hr _ e.symm).2
  have h3 : A.heap[w.heap.size]? = some (.cells #[v] 160 (0, 0)) := hb
  rw [h3] at h1; cases h1; cases h2
/-- the round's variable lies in a block of its own -/
def CoA (w : World) (tm : Value → Value → Array Value) (x : Ky) (a : Act) (W : World) : Prop :=
  ∃ b, w.heap.size < b ∧ W.heap[b]? = some (.cells (encK x).toArray 111 (0, 0)) ∧ a = { tmps := tm (.pointer (some ⟨b, 0, none⟩)) (.agg (encK x).toArray), defers := [] }
theorem CoA.own (w : World) (tm : Value → Value → Array Value) (x : Ky) (a : Act) (B : Nat) : OwnFrom B (fun (_ : Unit) W => CoA w tm x a W) := fun s A C row hs hg hr => by
  obtain ⟨b, h1, h2, h3⟩ := hs
  refine ⟨b, h1, ?_, h3⟩
  rw [hg.block b (Array.getElem?_eq_some_iff.1 h2).1 (fun e => ?_)]
  · exact h2
  · obtain ⟨o, h4, h5⟩ := (hr _ e.symm).2
    rw [h2] at h4; cases h4; cases h5
theorem boxed_setCell {W : World} {B : Nat} {t : TypeId} {v : Value} (h : Boxed W B t v) (v' : Value) : Boxed (W.setCell ⟨B, 0, none⟩ v') B t v' := h.set v'
theorem wpIn_append1 {α : Type} {R : Row α} (ok : R.Ok) {F : Fence} {nF : Nat} {ops : Array Oper} {rest : List Oper} {o : Oper} {a : Act} {Q : Exit → Act → World → Prop} (hgd : o.guard = none) (s t : Operand)
    (ho : o.op = .call { callee := .builtin .append, args := #[s, t], argTypes := #[R.S, R.S] })
    (B : Nat) (v : Value) (ns : List α) (w : World) (x : α) (cs : Array Value) (E' : TypeId) (hcs : cs = (R.enc x).toArray) (hE : E' = R.E) (hs : a.eval s = v) (hown : R.Own B w v ns) (hx : a.eval t = .slice (some ⟨w.heap.size, 0, none⟩) 1 1)
    (hB : B ≤ w.heap.size) (hn : ns.length + 1 ≤ 1000000)
    (h : ∀ v' w', R.Own B w' v' (ns ++ [x]) → (w.alloc (.cells cs E')).grownBy w' v.ownBlock → wpListIn F nF Tryz.prog ops Q rest (a.put o.dst v') w') : wpListIn F nF Tryz.prog ops Q (o :: rest) a (w.alloc (.cells cs E')) := by
  refine wpListIn_plain hgd fun K hK => ?_
  subst hcs hE
  obtain ⟨v', w', hr, h2, h3, h5⟩ := Row.run_append ok B o.type v ns (w.alloc (.cells (R.enc x).toArray R.E)) _ 1 1 [x] (hown.alloc _) (Row.rds_one ok w x R.E) (by simp; omega) hn
  unfold Oper.wpIn
  refine ⟨by simp [Oper.about, ho, resolve, Target.leads, Sem.run_pure], ?_⟩
  rw [Oper.semAt_plain F _ _ (by rw [ho]; intro c hc'; cases hc')]
  simp [execOp, ho, resolve, invoke, builtin, hs, hx, hr, Result.andThen]
  exact hK _ _ (h v' w' h2 h3)
set_option maxRecDepth 100000 in
set_option maxHeartbeats 4000000 in
theorem appSeq_in (d : Nat) (hd : 3 ≤ d) (gf : Nat) (lb : Array Value) (S : List Ky → Prop) (N : Nat) (hN : N ≤ 10000) (w : World) (eg : ∀ args w, (callFunc gf args).run Tryz.prog w = .ok (.enter gf args) w)
    (hseq : SeqStopsK Fence.wide (d - 1) Tryz.prog gf lb (fun q : Ky => #[Value.agg (encK q).toArray]) KeepsWalks S (fun _ => True) N w) (_hS : ∀ ss, S ss → ss.length ≤ N) :
    CallsIn Fence.wide d Tryz.prog 217 #[.slice none 0 0, .func (.func gf) #[] lb] w fun e w' => ∃ v ss, e = .returned v ∧ S ss ∧ rowK.Own w.heap.size w' v ss ∧ Below w.heap.size w w' := by
  refine callsIn_of_wp_marks Tryz.func217 rfl trivial ?_ rfl
  simp only [Tryz.ntmps217, List.size_toArray, List.length_cons, List.length_nil, Nat.reduceAdd, Nat.reduceSub, Array.replicate_succ, Array.replicate_zero, List.push_toArray, List.append_toArray, List.nil_append, List.cons_append]
  gi_wp2
  have hb0 : Below w.heap.size w (w.alloc (.cells #[.slice none 0 0] 160)) := (Below.refl _ w).alloc (Nat.le_refl _) _
  refine wpIn_rangeFunc_ownH rfl (by omega) (gf := gf) (lb := lb) rfl trivial eg hseq (fun h k => h.trans k) (fun W l o o' _ hl ho hw => KeepsWalks.putObj _ hl hw) hb0 (fun _ => rfl)
    (CoI w) (fun _ _ _ => False) (CoI.own w _ (by simp)) (fun _ _ _ _ _ hs _ _ => hs) ⟨⟨_, Boxed.new w 160 (.slice none 0 0), Row.Own.nil _ _⟩, hb0⟩
    (CoA w (fun p v => #[.slice none 0 0, .func (.func gf) #[] lb, .pointer (some ⟨w.heap.size, 0, none⟩), undef, .slice none 0 0, p, .func (.func gf) #[] lb, v, undef, undef, undef, undef, undef])) (fun x a' => CoA.own w _ x a' _) ?assign ?body ?done ?stop
  case assign =>
    intro l pre x W K hI hK
    obtain ⟨xa, xc⟩ := x
    simp only [encK] at *
    gi_wp2
    obtain ⟨v, hv, ho⟩ := hI.box
    have hlt := hv.lt
    have hB := hI.bel
    exact hK _ _ ((KeepsOthers.alloc _ _).from _) (KeepsWalks.alloc _ _) ⟨⟨v, hv.alloc _, ho.alloc _⟩, hB.alloc hB.size _⟩ ⟨W.heap.size, hlt, World.alloc_heap_new W _, rfl⟩
  case body =>
    rintro l pre x a' W hl ⟨r, hr⟩ hI ⟨bx, hbx1, hbx2, rfl⟩ hlen
    obtain ⟨v, hv, ho⟩ := hI.box
    have HB := Lib.hid hI.bel
    have HO := Lib.hid ho
    have HV := Lib.hid hv
    have hc := hv.cell
    have hf := hv.frozen
    have hlt := hv.lt
    obtain ⟨xa, xc⟩ := x
    simp only [encK] at *
    have c0 : W.cell? ⟨bx, 0, none⟩ = some (.string ⟨xa.toArray⟩) := by rw [cell_of_row _ _ _ _ _ _ hbx2]; rfl
    have c1 : W.cell? ⟨bx, 1, none⟩ = some (.string ⟨xc.toArray⟩) := by rw [cell_of_row _ _ _ _ _ _ hbx2]; rfl
    clear hI hv ho hbx2
    gi_wp2_with (first
      | (gi_at_builtin; refine wpIn_append1 rowK_ok rfl (.tmp 8) (.tmp 10) rfl w.heap.size _ pre W (xa, xc) _ _ rfl rfl rfl HO.out rfl HB.out.size (by omega) ?_; intro v1 w5 ho5 hg5; obtain ⟨A5, c5, rfl⟩ := ho5.slice; obtain ⟨k1, k2, k3, k4, k5⟩ := HV.out.appended (by decide) HO.out HB.out.size (Nat.le_refl _) ho5 hg5; have hc5 := k1.cell; have hf5 := k1.frozen)
      | gi_in)
    have e : (pre ++ [(xa, xc)]).length = pre.length + 1 := by simp
    rw [e] at k2 k3 k4 k5
    have o3 : rowK.Own w.heap.size (w5.setCell ⟨w.heap.size, 0, none⟩ (.slice A5 (pre.length + 1) c5)) (.slice A5 (pre.length + 1) c5) (pre ++ [(xa, xc)]) := by unfold Row.Own; rw [e]; exact k3
    exact ⟨k4.from _, ⟨k4.size, fun k o hk ho => k4.same k o hk (by cases o <;> first | rfl | cases ho)⟩, ⟨⟨_, k2, o3⟩, HB.out.trans k5⟩⟩
  case done =>
    rintro D ys W hD hys hI hK
    obtain ⟨v, hv, ho⟩ := hI.box
    have hB := Lib.hid hI.bel
    have c0 := hv.cell
    have hD2 : w.heap.size < D := by simp at hD; omega
    have HO := Lib.hid (ho.kept' (grownBy_putObj' W D (.deferred none)) (own_ne ho fun r e => by cases e; exact ⟨_, hK, rfl⟩))
    clear hv ho hI
    gi_wp2
    refine ⟨by simp, .inl ⟨_, _, rfl, run_takeDeferred hK, ?_⟩⟩
    exact ⟨_, results_tmp rfl _ _ _, v, ys, rfl, hys, HO.out, hB.out.trans (belowK_b (w := w) (Nat.le_refl _) W D _ _ (by omega) hK rfl rfl)⟩
  case stop =>
    rintro D c pre W _ _ h _
    exact h.elim
set_option maxRecDepth 100000 in
theorem collect_in (d : Nat) (hd : 4 ≤ d) (gf : Nat) (lb : Array Value) (S : List Ky → Prop) (N : Nat) (hN : N ≤ 10000) (w : World) (eg : ∀ args w, (callFunc gf args).run Tryz.prog w = .ok (.enter gf args) w)
    (hseq : SeqStopsK Fence.wide (d - 1 - 1) Tryz.prog gf lb (fun q : Ky => #[Value.agg (encK q).toArray]) KeepsWalks S (fun _ => True) N w) (hS : ∀ ss, S ss → ss.length ≤ N) :
    CallsIn Fence.wide d Tryz.prog 179 #[.func (.func gf) #[] lb] w fun e w' => ∃ v ss, e = .returned v ∧ S ss ∧ rowK.Own w.heap.size w' v ss ∧ Below w.heap.size w w' := by
  have HA := Lib.hid (appSeq_in (d - 1) (by omega) gf lb S N hN w eg hseq hS)
  clear hseq
  refine callsIn_of_wp Tryz.func179 rfl trivial ?_ rfl
  simp only [Tryz.ntmps179, List.size_toArray, List.length_cons, List.length_nil, Nat.reduceAdd, Nat.reduceSub, Array.replicate_succ, Array.replicate_zero, List.push_toArray, List.append_toArray, List.nil_append, List.cons_append]
  gi_wp2_with (refine ⟨trivial, fun h => (by cases h), ?_⟩; refine HA.out.mono ?_; rintro e w' ⟨v, ss, rfl, hs, ho, hb⟩; have HO := Lib.hid ho; have HB := Lib.hid hb; clear ho hb)
  go_ret
  exact ⟨v, ss, rfl, hs, HO.out, HB.out⟩
end Go.Proofs.YtohdpidlilhnjaaGreatDoor

/- slices.SortFunc at keys: laid by the kit. -/
namespace Go.Proofs
open Go.Shelf
def Tryz.laysSortK_ren : Go.Shelf.Ren := ⟨fun | 6 => 180 | 15 => 106 | 14 => 218 | 28 => 158 | 29 => 159 | 20 => 236 | 21 => 237 | 22 => 238 | 23 => 239 | 24 => 240 | 25 => 241 | 26 => 242 | 27 => 243 | 46 => 250 | 47 => 190 | 48 => 191 | 49 => 251 | 50 => 252 | 57 => 258 | n => n, fun | 22 => 160 | 24 => 111 | 25 => 159 | 3 => 3 | 39 => 129 | 0 => 0 | 53 => 188 | 55 => 138 | 4 => 4 | 46 => 182 | 45 => 181 | 50 => 172 | 5 => 5 | 9 => 9 | 66 => 206 | 70 => 210 | 76 => 245 | 77 => 246 | n => n, fun | n => n⟩
theorem Tryz.laysSortK : Go.Proofs.SlLaysF0.n6 Tryz.prog Tryz.laysSortK_ren := {
  mixed := by kernel_rfl
  f6 := ⟨Tryz.f180.name, by decide, Tryz.func180.trans (congrArg some (by kernel_rfl))⟩
  f14 := ⟨Tryz.f218.name, by decide, Tryz.func218.trans (congrArg some (by kernel_rfl))⟩
  f15 := Tryz.func106.trans (congrArg some (by kernel_rfl))
  f20 := ⟨Tryz.f236.name, by decide, Tryz.func236.trans (congrArg some (by kernel_rfl))⟩
  f21 := ⟨Tryz.f237.name, by decide, Tryz.func237.trans (congrArg some (by kernel_rfl))⟩
  f22 := ⟨Tryz.f238.name, by decide, Tryz.func238.trans (congrArg some (by kernel_rfl))⟩
  f23 := ⟨Tryz.f239.name, by decide, Tryz.func239.trans (congrArg some (by kernel_rfl))⟩
  f24 := ⟨Tryz.f240.name, by decide, Tryz.func240.trans (congrArg some (by kernel_rfl))⟩
  f25 := ⟨Tryz.f241.name, by decide, Tryz.func241.trans (congrArg some (by kernel_rfl))⟩
  f26 := ⟨Tryz.f242.name, by decide, Tryz.func242.trans (congrArg some (by kernel_rfl))⟩
  f27 := ⟨Tryz.f243.name, by decide, Tryz.func243.trans (congrArg some (by kernel_rfl))⟩
  f28 := Tryz.func158.trans (congrArg some (by kernel_rfl))
  f29 := Tryz.func159.trans (congrArg some (by kernel_rfl))
  f46 := ⟨Tryz.f250.name, by decide, Tryz.func250.trans (congrArg some (by kernel_rfl))⟩
  f47 := Tryz.func190.trans (congrArg some (by kernel_rfl))
  f48 := Tryz.func191.trans (congrArg some (by kernel_rfl))
  f49 := ⟨Tryz.f251.name, by decide, Tryz.func251.trans (congrArg some (by kernel_rfl))⟩
  f50 := ⟨Tryz.f252.name, by decide, Tryz.func252.trans (congrArg some (by kernel_rfl))⟩
  f57 := ⟨Tryz.f258.name, by decide, Tryz.func258.trans (congrArg some (by kernel_rfl))⟩
  t0 := Tryz.underlying0
  a0 := Tryz.isAgg0
  z0 := Tryz.sizeOf0
  v0 := Tryz.zeroValue0
  t3 := Tryz.underlying3
  a3 := Tryz.isAgg3
  z3 := Tryz.sizeOf3
  v3 := Tryz.zeroValue3
  t4 := Tryz.underlying4
  a4 := Tryz.isAgg4
  z4 := Tryz.sizeOf4
  v4 := Tryz.zeroValue4
  t5 := Tryz.underlying5
  a5 := Tryz.isAgg5
  z5 := Tryz.sizeOf5
  v5 := Tryz.zeroValue5
  t9 := Tryz.underlying9
  a9 := Tryz.isAgg9
  z9 := Tryz.sizeOf9
  v9 := Tryz.zeroValue9
  t22 := Tryz.underlying160
  a22 := Tryz.isAgg160
  z22 := Tryz.sizeOf160
  v22 := Tryz.zeroValue160
  t25 := Tryz.underlying159
  a25 := Tryz.isAgg159
  z25 := Tryz.sizeOf159
  v25 := Tryz.zeroValue159
  t39 := Tryz.underlying129
  a39 := Tryz.isAgg129
  z39 := Tryz.sizeOf129
  v39 := Tryz.zeroValue129
  t45 := Tryz.underlying181
  a45 := Tryz.isAgg181
  z45 := Tryz.sizeOf181
  v45 := Tryz.zeroValue181
  t46 := Tryz.underlying182
  a46 := Tryz.isAgg182
  z46 := Tryz.sizeOf182
  v46 := Tryz.zeroValue182
  t50 := Tryz.underlying172
  a50 := Tryz.isAgg172
  z50 := Tryz.sizeOf172
  v50 := Tryz.zeroValue172
  t53 := Tryz.underlying188
  a53 := Tryz.isAgg188
  z53 := Tryz.sizeOf188
  v53 := Tryz.zeroValue188
  t55 := Tryz.underlying138
  a55 := Tryz.isAgg138
  z55 := Tryz.sizeOf138
  v55 := Tryz.zeroValue138
  t66 := Tryz.underlying206
  a66 := Tryz.isAgg206
  z66 := Tryz.sizeOf206
  v66 := Tryz.zeroValue206
  t70 := Tryz.underlying210
  a70 := Tryz.isAgg210
  z70 := Tryz.sizeOf210
  v70 := Tryz.zeroValue210
  t76 := Tryz.underlying245
  a76 := Tryz.isAgg245
  z76 := Tryz.sizeOf245
  v76 := Tryz.zeroValue245
  t77 := Tryz.underlying246
  a77 := Tryz.isAgg246
  z77 := Tryz.sizeOf246
  v77 := Tryz.zeroValue246 }
end Go.Proofs

/- Rows of the call's own, as the kit's sort speaks of them. -/
namespace Go.Proofs.YtohdpidlilhnjaaGreatDoor
open Go.RowKit Go.Sort Go.Lib

theorem flat_len {α : Type} (enc : α → List Value) (k : Nat) (hk : ∀ x, (enc x).length = k) (l : List α) : (l.flatMap enc).length = l.length * k := by
  induction l with
  | nil => simp
  | cons a l ih => rw [List.flatMap_cons, List.length_append, ih, hk, List.length_cons, Nat.add_mul]; omega
theorem flat_get {α : Type} [Inhabited α] (enc : α → List Value) (k : Nat) (hk : ∀ x, (enc x).length = k) : ∀ (l : List α) (t : Nat), t < l.length * k → (l.flatMap enc)[t]? = some ((enc (l[t / k]!))[t % k]!)
  | [], t, h => by simp at h
  | a :: l, t, h => by
    have hk0 : 0 < k := by
      rcases Nat.eq_zero_or_pos k with h0 | h0
      · rw [h0] at h; simp at h
      · exact h0
    rw [List.flatMap_cons]
    by_cases ht : t < k
    · rw [List.getElem?_append_left (by rw [hk]; exact ht), Nat.div_eq_of_lt ht, Nat.mod_eq_of_lt ht]
      simp only [List.getElem!_cons_zero]
      rw [List.getElem?_eq_getElem (by rw [hk]; exact ht), getElem!_pos (enc a) t (by rw [hk]; exact ht)]
    · obtain ⟨s, rfl⟩ : ∃ s, t = s + k := ⟨t - k, by omega⟩
      rw [List.getElem?_append_right (by rw [hk]; omega), hk, Nat.add_sub_cancel, Nat.add_div_right _ hk0, Nat.add_mod_right]
      simp only [List.getElem!_cons_succ]
      refine flat_get enc k hk l s ?_
      rw [List.length_cons, Nat.add_mul] at h
      omega
theorem flat_eq {α : Type} [Inhabited α] (enc : α → List Value) (k : Nat) (hk : ∀ x, (enc x).length = k) (l : List α) : flatK enc k l.toArray = (l.flatMap enc).toArray := by
  refine ext_get! (by rw [size_flatK]; simp only [List.size_toArray, flat_len enc k hk]) fun t ht => ?_
  rw [size_flatK] at ht
  simp only [List.size_toArray] at ht
  rw [get_flatK enc k _ t (by simpa using ht)]
  have h := flat_get enc k hk l t ht
  have h2 : t < (l.flatMap enc).length := by rw [flat_len enc k hk]; exact ht
  rw [List.getElem?_eq_getElem h2] at h
  rw [getElem!_pos (l.flatMap enc).toArray t (by simpa using h2)]
  simp only [List.getElem_toArray]
  rw [Option.some.inj h]
  simp
theorem own_holds {α : Type} [Inhabited α] (enc : α → List Value) (k : Nat) (hk : ∀ x, (enc x).length = k) {w : World} {B e : Nat} {v : Value} {l : List α} (h : w.ownsRow B e k v l.length (l.flatMap enc)) (hne : 0 < l.length) :
    ∃ g cap, v = .slice (some ⟨g, 0, none⟩) l.length cap ∧ B ≤ g ∧ g < w.heap.size ∧ HoldsK enc k w g 0 l.toArray := by
  rcases h.2 with ⟨_, h0⟩ | ⟨g, cap, cur, hv, hB, hg, hc, hm, hsz, htake⟩
  · omega
  · refine ⟨g, cap, hv, hB, ?_, fun j hj => ?_⟩
    · rcases Nat.lt_or_ge g w.heap.size with h' | h'
      · exact h'
      · rw [Array.getElem?_eq_none h'] at hg; cases hg
    · rw [size_flatK] at hj
      simp only [List.size_toArray] at hj
      rw [cell_of_row _ _ _ _ _ _ hg, frozen_of_row _ _ _ _ _ hg, Nat.zero_add]
      refine ⟨?_, rfl⟩
      have h1 : cur[j]? = (l.flatMap enc)[j]? := by
        rw [← htake, List.getElem?_take, if_pos hj, Array.getElem?_toList]
      rw [h1, flat_get enc k hk l j hj, get_flatK enc k _ j (by simpa using hj)]
      simp
theorem own_put {α : Type} [Inhabited α] (enc : α → List Value) (k : Nat) (hk : ∀ x, (enc x).length = k) {w : World} {B e : Nat} {g n cap : Nat} {l m : List α} (h : w.ownsRow B e k (.slice (some ⟨g, 0, none⟩) l.length cap) l.length (l.flatMap enc)) (hl : m.length = l.length) (hne : 0 < l.length) (os : Array Obj) :
    (grow (putRowK enc k (Sort.ahead w n) g 0 m.toArray) os).ownsRow B e k (.slice (some ⟨g, 0, none⟩) l.length cap) m.length (m.flatMap enc) ∧ Below B w (grow (putRowK enc k (Sort.ahead w n) g 0 m.toArray) os) := by
  rcases h.2 with ⟨_, h0⟩ | ⟨g', cap', cur, hv, hB, hg, hc, hm, hsz, htake⟩
  · omega
  injection hv with hv1 hv2 hv3
  injection hv1 with hv1
  injection hv1 with hv1
  subst hv1 hv3
  have hlt : g < w.heap.size := by
    rcases Nat.lt_or_ge g w.heap.size with h' | h'
    · exact h'
    · rw [Array.getElem?_eq_none h'] at hg; cases hg
  have hbl : ∀ i, i < w.heap.size → i ≠ g → (grow (putRowK enc k (Sort.ahead w n) g 0 m.toArray) os).heap[i]? = w.heap[i]? := fun i hi hne => by
    simp only [grow]
    rw [Array.getElem?_append_left (by simpa [putRowK, Sort.ahead] using hi)]
    simp [putRowK, putRow, mapBlock, Sort.ahead, Array.getElem?_modify, hne.symm]
  have hrow : (grow (putRowK enc k (Sort.ahead w n) g 0 m.toArray) os).heap[g]? = some (.cells (putCells id 0 (flatK enc k m.toArray) cur) e (0, 0)) := by
    simp only [grow]
    rw [Array.getElem?_append_left (by simpa [putRowK, Sort.ahead] using hlt)]
    simp [putRowK, putRow, mapBlock, Sort.ahead, Array.getElem?_modify, hg, onCells]
  have hml : (m.flatMap enc).length = m.length * k := flat_len enc k hk m
  refine ⟨⟨hml, .inr ⟨g, cap, _, by rw [hl], hB, hrow, by omega, hm, by simp [putCells, hsz], ?_⟩⟩, ?_⟩
  · rw [flat_eq enc k hk]
    apply List.ext_getElem?
    intro i
    rw [List.getElem?_take]
    by_cases hi : i < m.length * k
    · have hi2 : i < cap * k := Nat.lt_of_lt_of_le hi (Nat.mul_le_mul_right k (by omega))
      rw [if_pos hi, Array.getElem?_toList]
      simp only [putCells, Array.getElem?_mapIdx, List.size_toArray]
      rw [Array.getElem?_eq_getElem (by omega), Option.map_some, if_pos ⟨Nat.zero_le _, by omega⟩, Nat.sub_zero, getElem!_pos _ i (by simpa using (by omega : i < (m.flatMap enc).length)), List.getElem?_eq_getElem (by omega)]
      simp
    · rw [if_neg hi, List.getElem?_eq_none (by omega)]
  · exact ⟨rfl, rfl, rfl, by simp [grow, putRowK, Sort.ahead], fun i hi => hbl i (by omega) (by omega)⟩
end Go.Proofs.YtohdpidlilhnjaaGreatDoor
