/- Contract of entry.Check. -/
import Derived.Test.YtdnomfekblmnbaaGreatDoorQ4
import Derived.OwnWalk
import Derived.Laws.OwnMore
import Derived.Lib.AppendZeros
import Derived.Maps.AppendAt
namespace Go.Proofs.YtdnomfekblmnbaaGreatDoor
open Go.RowKit Go.Maps Num

/-- not in order behind p -/
def ordB (p : Option Ky) (q : Ky) : Bool := match p with | none => false | some p => decide (0 ≤ cmpKy p q)
/-- what is wrong with lines: their fields, an amount of 0, their order; p: the place of the line ahead -/
def chkLs : Option Ky → List Ln → Int
  | _, [] => 0
  | p, x :: r => if lineI x ≠ 0 then lineI x else if x.2.2 = [] then 2 else if ordB p (key x) then 8 else chkLs (some (key x)) r
theorem chkLs_cons (p : Option Ky) (x : Ln) (r : List Ln) : chkLs p (x :: r) = if lineI x ≠ 0 then lineI x else if x.2.2 = [] then 2 else if ordB p (key x) then 8 else chkLs (some (key x)) r := rfl
/-- what is wrong with an entry -/
def chkE (d : Int) (c : List UInt8) (l : List Ln) : Int :=
  if headI d c ≠ 0 then headI d c else if l.length = 0 then 11 else if 64 < l.length then 4 else if chkLs none l ≠ 0 then chkLs none l else if balB l then 0 else 14
def prevAt (l : List Ln) : Nat → Option Ky
  | 0 => none
  | k + 1 => some (key (l.getD k ln0))
theorem drop_ln (l : List Ln) (k : Nat) (h : k < l.length) : l.drop k = l.getD k ln0 :: l.drop (k + 1) := by
  rw [List.drop_eq_getElem_cons h, List.getD_eq_getElem?_getD, List.getElem?_eq_getElem h]; rfl
def ChkR (w : World) (l : List Ln) (k : Nat) (W : World) : Prop := chkLs none l = chkLs (prevAt l k) (l.drop k) ∧ Below w.heap.size w W
set_option maxRecDepth 100000 in
set_option maxHeartbeats 4000000 in
theorem Chk_any (d : Int) (cz : List UInt8) (A : Option Addr) (n c : Nat) (l : List Ln) (w : World) (hl : Lns w A n c l) (hcz : cz.length ≤ maxLen) (ht : Tab w) (hm : ML w) :
    Calls Tryz.prog 24 #[.agg (enV d cz A n c)] w (IntPost (chkE d cz l) w) := by
  have hn := hl.small
  have ll := Lib.hid hl.len
  have hB0 : Below w.heap.size w (w.alloc (.cells #[.int .i64 d, .string ⟨cz.toArray⟩, .slice A n c] 32)) := (Below.refl _ w).alloc (Nat.le_refl _) _
  have hx : (w.alloc (.cells #[.int .i64 d, .string ⟨cz.toArray⟩, .slice A n c] 32)).cell? ⟨w.heap.size, 2, none⟩ = some (.slice A n c) := by go_simp
  have c0 := fun W => checkHead_any d cz A n c W hcz
  have hE := Lib.hid (show chkE d cz l = if headI d cz ≠ 0 then headI d cz else if l.length = 0 then 11 else if 64 < l.length then 4 else if chkLs none l ≠ 0 then chkLs none l else if balB l then 0 else 14 from rfl)
  generalize chkE d cz l = r at *
  generalize headI d cz = hd at *
  have H0 := Lib.hid hB0
  have HT := Lib.hid ht
  have HM := Lib.hid hm
  have L1 := Lib.hid hl
  have l0 := Lib.hid (block_lt_of_cell hx)
  have hx0 := Lib.hid hx
  clear hl ht hm
  unfold enV
  go_enter Tryz.func24, Tryz.ntmps24
  go_wp2_with fail
  refine (c0 _).mono ?_
  rintro e w1 ⟨rfl, hb1⟩
  have hx1 := (hb1.cell l0.out).trans hx
  have HB1 := Lib.hid (below_next H0.out hb1 ⟨rfl, rfl, rfl, rfl⟩)
  have HB1' := Lib.hid hb1
  clear hb1 hx
  by_cases hz : hd = 0
  case neg =>
    have hzb : (hd == 0) = false := beq_eq_false_iff_ne.2 hz
    have hzb' : (hd != 0) = true := by rw [bne_iff_ne]; exact hz
    have hv := Lib.hid (show r = hd by rw [hE.out, if_pos hz])
    go_wp2_with fail
    go_ret
    exact ⟨by rw [hv.out]; rfl, HB1.out⟩
  subst hz
  by_cases h0 : n = 0
  · have hv := Lib.hid (show r = 11 by rw [hE.out, if_neg (by omega), if_pos (by rw [ll.out]; exact h0)])
    subst h0
    go_wp2_with fail
    go_ret
    exact ⟨by rw [hv.out]; rfl, HB1.out⟩
  have h0i : ((n : Int) == 0) = false := beq_eq_false_iff_ne.2 (by omega)
  have h0j : (n == 0) = false := beq_eq_false_iff_ne.2 (by omega)
  by_cases h64 : 64 < n
  · have hv := Lib.hid (show r = 4 by rw [hE.out, if_neg (by omega), if_neg (by rw [ll.out]; exact h0), if_pos (by rw [ll.out]; exact h64)])
    have h64i : (64 : Int) < (n : Int) := by omega
    go_wp2_with fail
    go_ret
    exact ⟨by rw [hv.out]; rfl, HB1.out⟩
  have hv := Lib.hid (show r = if chkLs none l ≠ 0 then chkLs none l else if balB l then 0 else 14 by rw [hE.out, if_neg (by omega), if_neg (by rw [ll.out]; exact h0), if_neg (by rw [ll.out]; exact h64)])
  have h64i : ¬ (64 : Int) < (n : Int) := by omega
  go_wp2_with fail
  have l1 := Lib.hid (block_lt_of_cell hx1)
  have hx1h := Lib.hid hx1
  have hh := Lib.hid (fun W (h : Below w1.heap.size w1 W) => below_next HB1.out h ⟨rfl, rfl, rfl, rfl⟩)
  have R0 := Lib.hid (show ChkR w1 l 0 w1 from ⟨by rw [List.drop_zero]; rfl, Below.refl _ _⟩)
  go_loopw [23] (fun i wr => ∃ k : Nat, k ≤ n ∧ i = .int .i64 (k : Int) ∧ Hid (ChkR w1 l k wr)) (fun i _ => n - (intOf i).toNat)
  case atStart => exact ⟨0, by omega, rfl, R0⟩
  case round =>
    obtain ⟨k, hk, rfl, hR⟩ := hrel
    have hch := Lib.hid hR.out.1
    have HC := Lib.hid hR.out.2
    have HB := Lib.hid (hh.out _ hR.out.2)
    have xb := (HC.out.cell l1.out).trans hx1h.out
    clear hR R0
    by_cases hlt : k < n
    · obtain ⟨b1, o1, rfl, hb1, hc1⟩ := L1.out.at_ (by omega)
      obtain ⟨q0, q1, q2⟩ := hc1 k hlt
      have r0 := (HB.out.cell (p := ⟨b1, o1 + k * 3, none⟩) hb1).trans q0
      have r1 := (HB.out.cell (p := ⟨b1, o1 + k * 3 + 1, none⟩) hb1).trans q1
      have r2 := (HB.out.cell (p := ⟨b1, o1 + k * 3 + 2, none⟩) hb1).trans q2
      have hsx := Lib.hid (L1.out.sml _ (lnAt_mem l k (by rw [ll.out]; exact hlt)))
      have hki : (k : Int) < (n : Int) := by omega
      have hdr := drop_ln l k (by rw [ll.out]; exact hlt)
      have hch2 := hch.out
      rw [hdr, chkLs_cons] at hch2
      have hpk : prevAt l (k + 1) = some (key (l.getD k ln0)) := rfl
      clear q0 q1 q2 hdr
      generalize hxe : l.getD k ln0 = x at *
      have cl := fun W hW1 hW2 => checkLine_any x W hsx.out hW1 hW2
      obtain ⟨a, cu, m⟩ := x
      unfold lnV at cl
      simp only at r0 r1 r2 cl
      generalize hli : lineI (a, cu, m) = li at *
      have l2 := HB.out.size
      have HB2 := Lib.hid (show Below w.heap.size w (wr.alloc (.cells #[.string ⟨a.toArray⟩, .string ⟨cu.toArray⟩, .string ⟨m.toArray⟩] 45)) from HB.out.alloc l2 _)
      have HC2 := Lib.hid (show Below w1.heap.size w1 (wr.alloc (.cells #[.string ⟨a.toArray⟩, .string ⟨cu.toArray⟩, .string ⟨m.toArray⟩] 45)) from HC.out.alloc HC.out.size _)
      have x0 : (wr.alloc (.cells #[.string ⟨a.toArray⟩, .string ⟨cu.toArray⟩, .string ⟨m.toArray⟩] 45)).cell? ⟨wr.heap.size, 0, none⟩ = some (.string ⟨a.toArray⟩) := by go_simp
      have x1 : (wr.alloc (.cells #[.string ⟨a.toArray⟩, .string ⟨cu.toArray⟩, .string ⟨m.toArray⟩] 45)).cell? ⟨wr.heap.size, 1, none⟩ = some (.string ⟨cu.toArray⟩) := by go_simp
      have x2 : (wr.alloc (.cells #[.string ⟨a.toArray⟩, .string ⟨cu.toArray⟩, .string ⟨m.toArray⟩] 45)).cell? ⟨wr.heap.size, 2, none⟩ = some (.string ⟨m.toArray⟩) := by go_simp
      have HX := Lib.hid (And.intro x0 (And.intro x1 x2))
      have l3 := Lib.hid (block_lt_of_cell x0)
      have hT := Lib.hid (HT.out.below HB2.out)
      have hM := Lib.hid (HM.out.below HB2.out)
      clear x0 x1 x2
      go_wp2_with fail
      refine (cl _ hM.out hT.out).mono ?_
      rintro e w2 ⟨rfl, hb⟩
      have HB3 := Lib.hid (below_next HB2.out hb ⟨rfl, rfl, rfl, rfl⟩)
      have HC3 := Lib.hid (below_next HC2.out hb ⟨rfl, rfl, rfl, rfl⟩)
      have d0 := (hb.cell l3.out).trans HX.out.1
      have d1 := (hb.cell (p := ⟨wr.heap.size, 1, none⟩) l3.out).trans HX.out.2.1
      have d2 := (hb.cell (p := ⟨wr.heap.size, 2, none⟩) l3.out).trans HX.out.2.2
      clear hb
      by_cases hz : li = 0
      case neg =>
        have hzb : (li == 0) = false := beq_eq_false_iff_ne.2 hz
        have hzb' : (li != 0) = true := by rw [bne_iff_ne]; exact hz
        have hv1 := Lib.hid (show r = li by rw [hv.out, hch2, if_pos hz, if_pos hz])
        go_wp2_with fail
        go_ret
        exact ⟨by rw [hv1.out]; rfl, HB3.out⟩
      subst hz
      rw [if_neg (by omega)] at hch2
      rcases m with _ | ⟨m0, mr⟩
      · rw [if_pos rfl] at hch2
        have hv1 := Lib.hid (show r = 2 by rw [hv.out, hch2, if_pos (by omega)])
        go_wp2_with fail
        go_ret
        exact ⟨by rw [hv1.out]; rfl, HB3.out⟩
      rw [if_neg (by simp)] at hch2
      go_upto_region 16 with fail
      have xb2 : w2.cell? ⟨w.heap.size, 2, none⟩ = some (.slice (some ⟨b1, o1, none⟩) n c) := (HC3.out.cell l1.out).trans hx1h.out
      by_cases hk0 : k = 0
      · have hf : ordB (prevAt l k) (key (a, cu, m0 :: mr)) = false := by rw [hk0]; rfl
        rw [hf, if_neg (by decide)] at hch2
        have hk0i : ¬ (0 : Int) < (k : Int) := by omega
        have hk0n : ¬ 0 < k := by omega
        clear hk0
        go_quiet (fail)
        have HC4 := Lib.hid (below_dr HC3.out nq)
        have RR := Lib.hid (show ChkR w1 l (k + 1) (w2.drewN nq) from ⟨by rw [hpk]; exact hch2, HC4.out⟩)
        clear hch2 hpk
        go_wp2_with fail
        go_roundw
        case rel => exact ⟨k + 1, by omega, by go_num, RR⟩
        case measure => simp [intOf]; omega
      · obtain ⟨j, hj⟩ : ∃ j, k = j + 1 := ⟨k - 1, by omega⟩
        have hHj := Lib.hid hj
        obtain ⟨q0, q1, q2⟩ := hc1 j (by omega)
        have p0 := (HB3.out.cell (p := ⟨b1, o1 + j * 3, none⟩) hb1).trans q0
        have p1 := (HB3.out.cell (p := ⟨b1, o1 + j * 3 + 1, none⟩) hb1).trans q1
        have p2 := (HB3.out.cell (p := ⟨b1, o1 + j * 3 + 2, none⟩) hb1).trans q2
        have hpv : prevAt l k = some (key (l.getD j ln0)) := by rw [hj]; rfl
        rw [hpv] at hch2
        have hw : IntKind.i64.wrap ((k : Int) - 1) = (j : Int) := (IntWalk.i64_in _ (by omega)).trans (by omega)
        have hji : (j : Int) < (n : Int) := by omega
        have hk0i : (0 : Int) < (k : Int) := by omega
        have hk0n : 0 < k := by omega
        clear q0 q1 q2 hpv hj hk0 r0 r1 r2 hc1
        generalize l.getD j ln0 = y at *
        obtain ⟨ya, yc, ym⟩ := y
        simp only at p0 p1 p2
        have HS := Lib.hid (And.intro xb2 (And.intro p0 (And.intro p1 (And.intro p2 (And.intro d0 (And.intro d1 d2))))))
        have lb := block_lt_of_cell xb2
        have ly := block_lt_of_cell p0
        have lx := block_lt_of_cell d0
        have HD := Lib.hid (Below.refl w2.heap.size w2)
        generalize hcv : cmpKy (ya, yc) (a, cu) = cv at *
        go_region_held3 (fun w' => w'.cell? ⟨w.heap.size, 2, none⟩ = some (.slice (some ⟨b1, o1, none⟩) n c) ∧ w'.cell? ⟨b1, o1 + j * 3, none⟩ = some (.string ⟨ya.toArray⟩) ∧ w'.cell? ⟨b1, o1 + j * 3 + 1, none⟩ = some (.string ⟨yc.toArray⟩) ∧ w'.cell? ⟨b1, o1 + j * 3 + 2, none⟩ = some (.string ⟨ym.toArray⟩) ∧ w'.cell? ⟨wr.heap.size, 0, none⟩ = some (.string ⟨a.toArray⟩) ∧ w'.cell? ⟨wr.heap.size, 1, none⟩ = some (.string ⟨cu.toArray⟩) ∧ w'.cell? ⟨wr.heap.size, 2, none⟩ = some (.string ⟨(m0 :: mr).toArray⟩))
          (first | exact ⟨f0, f1, f2, f3, f4, f5, f6⟩ | exact ⟨xb2, p0, p1, p2, d0, d1, d2⟩ | go_keep)
          (first
            | (go_at_call 63; refine (place3 _ _ _ _).mono ?_; rintro e w' ⟨rfl, hb⟩; have HD := Lib.hid (below_next HD.out hb ⟨rfl, rfl, rfl, rfl⟩); have f0 := (HD.out.cell lb).trans HS.out.1; have f1 := (HD.out.cell ly).trans HS.out.2.1; have f2 := (HD.out.cell (p := ⟨b1, o1 + j * 3 + 1, none⟩) ly).trans HS.out.2.2.1; have f3 := (HD.out.cell (p := ⟨b1, o1 + j * 3 + 2, none⟩) ly).trans HS.out.2.2.2.1; have f4 := (HD.out.cell lx).trans HS.out.2.2.2.2.1; have f5 := (HD.out.cell (p := ⟨wr.heap.size, 1, none⟩) lx).trans HS.out.2.2.2.2.2.1; have f6 := (HD.out.cell (p := ⟨wr.heap.size, 2, none⟩) lx).trans HS.out.2.2.2.2.2.2; clear hb)
            | (go_at_call 67; refine (kcmp3 _ _ _ _ _).mono ?_; rintro e w' ⟨rfl, hb⟩; have HD := Lib.hid (below_next HD.out hb ⟨rfl, rfl, rfl, rfl⟩); have f0 := (HD.out.cell lb).trans HS.out.1; have f1 := (HD.out.cell ly).trans HS.out.2.1; have f2 := (HD.out.cell (p := ⟨b1, o1 + j * 3 + 1, none⟩) ly).trans HS.out.2.2.1; have f3 := (HD.out.cell (p := ⟨b1, o1 + j * 3 + 2, none⟩) ly).trans HS.out.2.2.2.1; have f4 := (HD.out.cell lx).trans HS.out.2.2.2.2.1; have f5 := (HD.out.cell (p := ⟨wr.heap.size, 1, none⟩) lx).trans HS.out.2.2.2.2.2.1; have f6 := (HD.out.cell (p := ⟨wr.heap.size, 2, none⟩) lx).trans HS.out.2.2.2.2.2.2; clear hb))
        have hf : ordB (some (key (ya, yc, ym))) (key (a, cu, m0 :: mr)) = decide (0 ≤ cv) := by
          show decide (0 ≤ cmpKy (ya, yc) (a, cu)) = _
          rw [hcv]
        rw [hf] at hch2
        by_cases hc0 : 0 ≤ cv
        · rw [decide_eq_true hc0, if_pos rfl] at hch2
          have hv1 := Lib.hid (show r = 8 by rw [hv.out, hch2, if_pos (by omega)])
          have HB4 := Lib.hid (HB3.out.trans (HD.out.mono HB3.out.size))
          go_wp2_with fail
          go_ret
          exact ⟨by rw [hv1.out]; rfl, HB4.out⟩
        · rw [decide_eq_false hc0, if_neg (by decide)] at hch2
          have HC4 := Lib.hid (HC3.out.trans (HD.out.mono HC3.out.size))
          have RR := Lib.hid (fun W (h : Below w1.heap.size w1 W) => show ChkR w1 l (k + 1) W from ⟨by rw [hpk]; exact hch2, h⟩)
          clear hch2 hpk hf hcv
          go_wp2_with fail
          go_roundw
          case rel => exact ⟨k + 1, by omega, by go_num, Lib.hid (RR.out _ HC4.out)⟩
          case measure => simp [intOf]; omega
    · have hkn : k = n := by omega
      subst hkn
      have hki : ¬ (k : Int) < (k : Int) := by omega
      have e : List.drop k l = [] := List.drop_eq_nil_of_le (by rw [ll.out]; exact Nat.le_refl _)
      have hch3 := hch.out
      rw [e] at hch3
      have hv1 := hv.out
      rw [show chkLs none l = 0 from hch3, if_neg (by omega)] at hv1
      have hv2 := Lib.hid hv1
      have cb := balances_any A k c l wr (L1.out.below HB.out) (HT.out.below HB.out)
      have HCB := Lib.hid cb
      generalize balB l = bb at *
      clear hv1 hch3 e hv cb
      cases bb
      · go_wp2_with fail
        refine HCB.out.mono ?_
        rintro e w2 ⟨rfl, hb⟩
        have HB3 := Lib.hid (below_next HB.out hb ⟨rfl, rfl, rfl, rfl⟩)
        clear hb
        go_wp2_with fail
        go_ret
        exact ⟨by rw [hv2.out]; rfl, HB3.out⟩
      · go_wp2_with fail
        refine HCB.out.mono ?_
        rintro e w2 ⟨rfl, hb⟩
        have HB3 := Lib.hid (below_next HB.out hb ⟨rfl, rfl, rfl, rfl⟩)
        clear hb
        go_wp2_with fail
        go_ret
        exact ⟨by rw [hv2.out]; rfl, HB3.out⟩
end Go.Proofs.YtdnomfekblmnbaaGreatDoor

/- Slices of lines of the call's own. -/
namespace Go.Proofs.YtdnomfekblmnbaaGreatDoor
open Go.RowKit Go.Maps Num

def LV (x : Ln) : List Value := [.string ⟨x.1.toArray⟩, .string ⟨x.2.1.toArray⟩, .string ⟨x.2.2.toArray⟩]
def LVs (l : List Ln) : List Value := l.flatMap LV
theorem LVs_cons (x : Ln) (l : List Ln) : LVs (x :: l) = LV x ++ LVs l := rfl
theorem LVs_append (a b : List Ln) : LVs (a ++ b) = LVs a ++ LVs b := List.flatMap_append
theorem LVs_len (l : List Ln) : (LVs l).length = l.length * 3 := by
  induction l with
  | nil => rfl
  | cons x r ih => rw [LVs_cons, List.length_append, ih, List.length_cons]; simp [LV]; omega
theorem LVs_at (l : List Ln) (k j : Nat) (hk : k < l.length) (hj : j < 3) : (LVs l)[k * 3 + j]? = (LV (l.getD k ln0))[j]? := by
  induction l generalizing k with
  | nil => cases hk
  | cons x r ih =>
    rw [LVs_cons]
    cases k with
    | zero => rw [List.getElem?_append_left (by simp [LV]; omega)]; simp
    | succ k =>
      rw [List.getElem?_append_right (by simp [LV]; omega), show (k + 1) * 3 + j - (LV x).length = k * 3 + j by simp [LV]; omega, ih k (by simpa using hk)]
      simp
theorem LVs_one (l : List Ln) : ∀ u ∈ LVs l, u.oneCell' = true := by
  intro u hu
  obtain ⟨x, _, hx⟩ := List.mem_flatMap.1 hu
  simp only [LV, List.mem_cons, List.not_mem_nil, or_false] at hx
  rcases hx with rfl | rfl | rfl <;> rfl
/-- v is a slice of lines of the call's own (from block B on). -/
def OwnL (B : Nat) (w : World) (v : Value) (l : List Ln) : Prop := w.ownsRow B 45 3 v l.length (LVs l)
theorem OwnL.nil (B : Nat) (w : World) : OwnL B w (.slice none 0 0) [] := World.ownsRow_nil w B 45 3
set_option maxRecDepth 100000 in
theorem info45 : (Tryz.prog.info? 45).map (fun i => (i.zero, i.size, i.bytes)) = some (some (.agg #[.string ⟨#[]⟩, .string ⟨#[]⟩, .string ⟨#[]⟩]), 3, 48) := by kernel_rfl
/-- append(s, x): x lies in a block of its own -/
theorem op_append_l {o : Oper} {a : Act} {K : Act → World → Prop} {Q : Exit → Act → World → Prop} (s x : Operand)
    (ho : o.op = .call { callee := .builtin .append, args := #[s, x], argTypes := #[30, 30] })
    (B : Nat) (v : Value) (ns : List Ln) (w : World) (z : Ln) (hs : a.eval s = v) (hown : OwnL B w v ns) (hx : a.eval x = .slice (some ⟨w.heap.size, 0, none⟩) 1 1)
    (hB : B ≤ w.heap.size) (hn : ns.length ≤ 1000)
    (h : ∀ v' w', OwnL B w' v' (ns ++ [z]) → w.grownBy w' v.ownBlock → K (a.put o.dst v') w') : o.wp Tryz.prog a (w.alloc (.cells #[.string ⟨z.1.toArray⟩, .string ⟨z.2.1.toArray⟩, .string ⟨z.2.2.toArray⟩] 45)) K Q := by
  obtain ⟨i0, hi, hz0, hz1, hz2⟩ := info_parts info45
  refine wp_append_own _ s x 30 ho B 45 i0 _ 3 48 Tryz.underlying30 hi hz0 hz1 hz2 rfl (by decide) v ns.length (LVs ns) hs (World.ownsRow.alloc hown _) ⟨w.heap.size, 0, none⟩ 1 1 (LVs [z]) hx (by simp [LVs, LV]) ?_ ?_ ?_ ?_ ?_ ?_
  · intro j u hu
    have hadd : (⟨w.heap.size, 0, none⟩ : Addr).add j = ⟨w.heap.size, j, none⟩ := by unfold Addr.add; split <;> simp_all
    rw [hadd, cell_of_row _ _ _ _ _ _ (heap_alloc_new w _), ← hu]
    simp [LVs, LV]
  · exact LVs_one [z]
  · simp only [maxLen]; omega
  · omega
  · simp; omega
  · intro v' w' h2 h3 _
    refine h v' w' ?_ ?_
    · unfold OwnL
      rw [List.length_append, LVs_append]
      exact h2
    · exact (World.grownBy_alloc w _ _).trans h3
theorem OwnL.cells {B : Nat} {w : World} {v : Value} {l : List Ln} (h : OwnL B w v l) (hn : l.length ≤ 1000) (hs : ∀ x ∈ l, Sml x) : ∃ A c, v = .slice A l.length c ∧ Lns w A l.length c l := by
  rcases h.2 with ⟨rfl, h0⟩ | ⟨g, cap, cur, rfl, _, hg, hc, hm, hsz, htake⟩
  · exact ⟨none, 0, by rw [h0], rfl, by omega, by omega, hn, hs, fun hh => by omega⟩
  · refine ⟨_, _, rfl, rfl, hc, hm, hn, hs, fun _ => ⟨g, 0, rfl, ?_, fun k hk => ?_⟩⟩
    · rcases Nat.lt_or_ge g w.heap.size with h' | h'
      · exact h'
      · rw [Array.getElem?_eq_none h'] at hg; cases hg
    · have hc1 : ∀ j, j < 3 → w.cell? ⟨g, k * 3 + j, none⟩ = (LV (l.getD k ln0))[j]? := fun j hj => by
        rw [cell_of_row _ _ _ _ _ _ hg, ← LVs_at l k j hk hj, ← htake, List.getElem?_take, if_pos (by omega), Array.getElem?_toList]
      simp only [Nat.zero_add]
      exact ⟨hc1 0 (by omega), hc1 1 (by omega), hc1 2 (by omega)⟩
theorem OwnL.kept {B : Nat} {w w' : World} {v : Value} {l : List Ln} {row : Option Nat} (h : OwnL B w v l) (hg : w.grownBy w' row) (hr : ∀ k, row = some k → k < B) : OwnL B w' v l :=
  World.ownsRow.kept h hg (by
    cases hv : v.ownBlock with
    | none => exact .inl rfl
    | some g =>
      refine .inr fun e => ?_
      have := hr g e.symm
      have := (World.ownsRow.lt h g hv).1
      omega)
theorem OwnL.below {B : Nat} {w w' : World} {v : Value} {l : List Ln} (h : OwnL B w v l) (hb : Below w.heap.size w w') : OwnL B w' v l := h.kept (row := none) (grown_of_below hb) (fun _ e => by cases e)
theorem OwnL.own {B : Nat} {w : World} {v : Value} {l : List Ln} (h : OwnL B w v l) : ∀ k, v.ownBlock = some k → B ≤ k := fun k hk => (World.ownsRow.lt h k hk).1
theorem grown_setCell (w : World) (a : Addr) (u : Value) : w.grownBy (w.setCell a u) (some a.block) :=
  ⟨rfl, rfl, rfl, by simp, fun k _ hk => Below.heap_setCell w a u k (fun e => hk (by rw [e]))⟩
end Go.Proofs.YtdnomfekblmnbaaGreatDoor

/- Contract of entry.Reverse. -/
namespace Go.Proofs.YtdnomfekblmnbaaGreatDoor
open Go.RowKit Go.Maps Num

def negL (x : Ln) : Ln := (x.1, x.2.1, txt (- val x.2.2))
theorem negL_sml {x : Ln} (h : Sml x) (hl : x.2.2.length ≤ 60) : Sml (negL x) := by
  refine ⟨h.1, h.2.1, ?_⟩
  have h1 := val_bd x.2.2
  have h2 : 10 ^ x.2.2.length ≤ 10 ^ 60 := Nat.pow_le_pow_right (by omega) hl
  have := txt_bd (v := - val x.2.2) (k := 60) (by omega)
  show (txt _).length ≤ 100
  omega
def RevPost (d : Int) (cz : List UInt8) (l : List Ln) (w : World) (e : Ending) (w' : World) : Prop :=
  Below w.heap.size w w' ∧ if chkE d cz l = 0 then ∃ A c, e = .returned (.tuple #[.agg (enV d cz A l.length c), .int .i64 0]) ∧ Lns w' A l.length c (l.map negL)
  else e = .returned (.tuple #[.agg (enV 0 [] none 0 0), .int .i64 1])
/-- the lines made so far, in the block B -/
def RevR (d : Int) (cz : List UInt8) (l : List Ln) (w1 : World) (k : Nat) (W : World) : Prop :=
  ∃ v, W.heap[w1.heap.size]? = some (.cells #[.int .i64 d, .string ⟨cz.toArray⟩, v] 32) ∧ OwnL (w1.heap.size + 1) W v ((l.take k).map negL) ∧ Below w1.heap.size w1 W
theorem cells3 {W : World} {b : Nat} {x y z : Value} {t : TypeId} (h : W.heap[b]? = some (.cells #[x, y, z] t)) : (W.cell? ⟨b, 0, none⟩ = some x ∧ W.cell? ⟨b, 1, none⟩ = some y ∧ W.cell? ⟨b, 2, none⟩ = some z) ∧ (W.frozen? ⟨b, 0, none⟩ = false ∧ W.frozen? ⟨b, 1, none⟩ = false ∧ W.frozen? ⟨b, 2, none⟩ = false) :=
  ⟨⟨cell_of_row _ _ _ _ _ _ h, cell_of_row _ _ _ _ _ _ h, cell_of_row _ _ _ _ _ _ h⟩, frozen_of_row _ _ _ _ _ h, frozen_of_row _ _ _ _ _ h, frozen_of_row _ _ _ _ _ h⟩
theorem set2 {W : World} {b : Nat} {x y z : Value} {t : TypeId} (h : W.heap[b]? = some (.cells #[x, y, z] t)) (u : Value) : (W.setCell ⟨b, 2, none⟩ u).heap[b]? = some (.cells #[x, y, u] t) := by
  unfold World.setCell
  simp [Array.getElem?_modify, h]
theorem set3 {W : World} {b : Nat} {x y z : Value} {t : TypeId} (h : W.heap[b]? = some (.cells #[x, y, z] t)) (p q u : Value) : (((W.setCell ⟨b, 0, none⟩ p).setCell ⟨b, 1, none⟩ q).setCell ⟨b, 2, none⟩ u).heap[b]? = some (.cells #[p, q, u] t) := by
  unfold World.setCell
  simp [Array.getElem?_modify, h]
theorem wpList_append_l {ops : Array Oper} {rest : List Oper} {o : Oper} {a : Act} {Q : Exit → Act → World → Prop} (hgd : o.guard = none) (s x : Operand)
    (ho : o.op = .call { callee := .builtin .append, args := #[s, x], argTypes := #[30, 30] })
    (B : Nat) (v : Value) (ns : List Ln) (w : World) (z : Ln) (hs : a.eval s = v) (hown : OwnL B w v ns) (hx : a.eval x = .slice (some ⟨w.heap.size, 0, none⟩) 1 1)
    (hB : B ≤ w.heap.size) (hn : ns.length ≤ 1000)
    (h : ∀ v' w', OwnL B w' v' (ns ++ [z]) → w.grownBy w' v.ownBlock → wpList Tryz.prog ops Q rest (a.put o.dst v') w') : wpList Tryz.prog ops Q (o :: rest) a (w.alloc (.cells #[.string ⟨z.1.toArray⟩, .string ⟨z.2.1.toArray⟩, .string ⟨z.2.2.toArray⟩] 45)) :=
  wpList_plain hgd fun _ hK => op_append_l s x ho B v ns w z hs hown hx hB hn fun v' w' h2 h3 => hK _ _ (h v' w' h2 h3)
theorem OwnL.slice {B : Nat} {w : World} {v : Value} {l : List Ln} (h : OwnL B w v l) : ∃ A n c, v = .slice A n c := by
  rcases h.2 with ⟨rfl, _⟩ | ⟨g, cap, cur, rfl, _⟩
  · exact ⟨_, _, _, rfl⟩
  · exact ⟨_, _, _, rfl⟩
theorem below_own {B : Nat} {w W U : World} {row : Option Nat} (h : Below B w W) (hB : B ≤ w.heap.size) (hg : W.grownBy U row) (hr : ∀ k, row = some k → B ≤ k) : Below B w U := by
  have hs := h.size
  refine ⟨hg.os.trans h.os, hg.tape.trans h.tape, hg.output.trans h.output, Nat.le_trans hs hg.size, fun k hk => ?_⟩
  rw [hg.block k (by omega) (fun e => by have := hr k e.symm; omega), h.block k hk]
theorem below_set3 {w W : World} (h : Below w.heap.size w W) {b : Nat} (hb : w.heap.size ≤ b) (p q u : Value) : Below w.heap.size w (((W.setCell ⟨b, 0, none⟩ p).setCell ⟨b, 1, none⟩ q).setCell ⟨b, 2, none⟩ u) :=
  below_grown (below_grown (below_grown h (Nat.le_refl _) (grown_setCell _ _ _) hb) (Nat.le_refl _) (grown_setCell _ _ _) hb) (Nat.le_refl _) (grown_setCell _ _ _) hb
set_option maxRecDepth 100000 in
set_option maxHeartbeats 4000000 in
theorem Rev_any (d : Int) (cz : List UInt8) (A : Option Addr) (n c : Nat) (l : List Ln) (w : World) (hl : Lns w A n c l) (hcz : cz.length ≤ maxLen) (hs : ∀ x ∈ l, x.2.2.length ≤ 60) (ht : Tab w) (hm : ML w) :
    Calls Tryz.prog 20 #[.agg (enV d cz A n c)] w (RevPost d cz l w) := by
  have hn := hl.small
  have ll := Lib.hid hl.len
  have hB0 : Below w.heap.size w ((w.alloc (.cells #[.int .i64 d, .string ⟨cz.toArray⟩, .slice A n c] 32)).alloc (.cells #[.int .i64 0, .string ⟨#[]⟩, .slice none 0 0] 32)) := ((Below.refl _ w).alloc (Nat.le_refl _) _).alloc (by simp) _
  have y0 : ((w.alloc (.cells #[.int .i64 d, .string ⟨cz.toArray⟩, .slice A n c] 32)).alloc (.cells #[.int .i64 0, .string ⟨#[]⟩, .slice none 0 0] 32)).heap[w.heap.size]? = some (.cells #[.int .i64 d, .string ⟨cz.toArray⟩, .slice A n c] 32) := by
    rw [heap_alloc_old _ _ (by simp)]; exact heap_alloc_new w _
  have y1 : ((w.alloc (.cells #[.int .i64 d, .string ⟨cz.toArray⟩, .slice A n c] 32)).alloc (.cells #[.int .i64 0, .string ⟨#[]⟩, .slice none 0 0] 32)).heap[w.heap.size + 1]? = some (.cells #[.int .i64 0, .string ⟨#[]⟩, .slice none 0 0] 32) := by
    have := heap_alloc_new (w.alloc (.cells #[.int .i64 d, .string ⟨cz.toArray⟩, .slice A n c] 32)) (.cells #[.int .i64 0, .string ⟨#[]⟩, .slice none 0 0] 32)
    rwa [show (w.alloc (.cells #[.int .i64 d, .string ⟨cz.toArray⟩, .slice A n c] 32)).heap.size = w.heap.size + 1 by simp] at this
  have hsz : ((w.alloc (.cells #[.int .i64 d, .string ⟨cz.toArray⟩, .slice A n c] 32)).alloc (.cells #[.int .i64 0, .string ⟨#[]⟩, .slice none 0 0] 32)).heap.size = w.heap.size + 2 := by simp
  have hch := Chk_any d cz A n c l _ (hl.below hB0) hcz (ht.below hB0) (hm.below hB0)
  have HCH := Lib.hid hch
  have HB0 := Lib.hid hB0
  have Y0 := Lib.hid y0
  have Y1 := Lib.hid y1
  have HZ := Lib.hid hsz
  have HP := Lib.hid (show ∀ e w', RevPost d cz l w e w' ↔ (Below w.heap.size w w' ∧ if chkE d cz l = 0 then ∃ A c, e = .returned (.tuple #[.agg (enV d cz A l.length c), .int .i64 0]) ∧ Lns w' A l.length c (l.map negL) else e = .returned (.tuple #[.agg (enV 0 [] none 0 0), .int .i64 1])) from fun _ _ => Iff.rfl)
  have L1 := Lib.hid hl
  have HS := Lib.hid hs
  have HT := Lib.hid ht
  have HM := Lib.hid hm
  clear hch hB0 y0 y1 hl hs ht hm hsz
  generalize RevPost d cz l w = Post at *
  generalize chkE d cz l = ce at *
  unfold enV at HCH ⊢
  go_enter Tryz.func20, Tryz.ntmps20
  go_wp2_with fail
  refine HCH.out.mono ?_
  rintro e w1 ⟨rfl, hb1⟩
  have HB1 := Lib.hid (below_next HB0.out hb1 ⟨rfl, rfl, rfl, rfl⟩)
  have z0 := (hb1.block w.heap.size (by rw [HZ.out]; omega)).trans Y0.out
  have z1 := (hb1.block (w.heap.size + 1) (by rw [HZ.out]; omega)).trans Y1.out
  have hs1 : w.heap.size + 2 ≤ w1.heap.size := by have := hb1.size; rw [HZ.out] at this; exact this
  have Z1 := Lib.hid z1
  obtain ⟨⟨c00, c01, c02⟩, _⟩ := cells3 z0
  clear HCH Y0 Y1 HZ hb1 HB0
  by_cases hz : ce = 0
  case neg =>
    have hzb : (ce == 0) = false := beq_eq_false_iff_ne.2 hz
    have hzb' : (ce != 0) = true := by rw [bne_iff_ne]; exact hz
    obtain ⟨⟨c10, c11, c12⟩, f10, f11, f12⟩ := cells3 z1
    obtain ⟨⟨g10, g11, g12⟩, _⟩ := cells3 (set3 z1 (.int .i64 0) (.string ⟨#[]⟩) (.slice none 0 0))
    clear z0 z1
    go_wp2_with fail
    have hb := below_set3 HB1.out (b := w.heap.size + 1) (by omega) (.int .i64 0) (.string ⟨#[]⟩) (.slice none 0 0)
    exact bodyPost_ret (v := .tuple #[.agg (enV 0 [] none 0 0), .int .i64 1]) (by simp [results, Tryz.results20, go_sem, g10, g11, g12, enV]) rfl ((HP.out _ _).2 ⟨hb, by rw [if_neg hz]⟩)
  subst hz
  clear z0 z1
  have HC0 : Below w1.heap.size w1 (w1.alloc (.cells #[.int .i64 d, .string ⟨cz.toArray⟩, .slice none 0 0] 32)) := (Below.refl _ _).alloc (Nat.le_refl _) _
  have R0 := Lib.hid (show RevR d cz l w1 0 (w1.alloc (.cells #[.int .i64 d, .string ⟨cz.toArray⟩, .slice none 0 0] 32)) from ⟨_, heap_alloc_new w1 _, OwnL.nil _ _, HC0⟩)
  have c02' := (HC0.cell (p := ⟨w.heap.size, 2, none⟩) (block_lt_of_cell c02)).trans c02
  have hh := Lib.hid (fun W (h : Below w1.heap.size w1 W) => below_next HB1.out h ⟨rfl, rfl, rfl, rfl⟩)
  clear HC0
  go_wp2_with fail
  go_loopw [19] (fun i wr => ∃ k : Nat, k ≤ n ∧ i = .int .i64 (k : Int) ∧ Hid (RevR d cz l w1 k wr)) (fun i _ => n - (intOf i).toNat)
  case atStart => exact ⟨0, by omega, rfl, R0⟩
  case round =>
    obtain ⟨k, hk, rfl, hR⟩ := hrel
    obtain ⟨v, hbx, hov, hbw⟩ := hR.out
    have HC := Lib.hid hbw
    have HB := Lib.hid (hh.out _ hbw)
    have HO := Lib.hid hov
    have HX := Lib.hid hbx
    clear hR R0 hbw hov hbx
    by_cases hlt : k < n
    · obtain ⟨b1, o1, rfl, hb1, hc1⟩ := L1.out.at_ (by omega)
      obtain ⟨q0, q1, q2⟩ := hc1 k hlt
      have r0 := (HB.out.cell (p := ⟨b1, o1 + k * 3, none⟩) hb1).trans q0
      have r1 := (HB.out.cell (p := ⟨b1, o1 + k * 3 + 1, none⟩) hb1).trans q1
      have r2 := (HB.out.cell (p := ⟨b1, o1 + k * 3 + 2, none⟩) hb1).trans q2
      have hki : (k : Int) < (n : Int) := by omega
      have htk := Lib.hid (take_ln l k (by rw [ll.out]; exact hlt))
      have hmem := lnAt_mem l k (by rw [ll.out]; exact hlt)
      have h60 := HS.out _ hmem
      have hlk : ((l.take k).map negL).length ≤ 1000 := by rw [List.length_map, List.length_take]; omega
      clear q0 q1 q2 hc1 hmem
      generalize l.getD k ln0 = x at *
      obtain ⟨a, cu, m⟩ := x
      simp only at r0 r1 r2 h60
      have cn := fun W hW => Neg_any ⟨m.toArray⟩ W (show m.length ≤ 120 by omega) hW
      rw [show (⟨m.toArray⟩ : ByteArray).data.toList = m from rfl] at cn
      have HC2 := Lib.hid (show Below w1.heap.size w1 (wr.alloc (.cells #[.string ⟨a.toArray⟩, .string ⟨cu.toArray⟩, .string ⟨m.toArray⟩] 45)) from HC.out.alloc HC.out.size _)
      have x0 := Lib.hid (heap_alloc_new wr (.cells #[.string ⟨a.toArray⟩, .string ⟨cu.toArray⟩, .string ⟨m.toArray⟩] 45))
      have hlw : Below wr.heap.size wr (wr.alloc (.cells #[.string ⟨a.toArray⟩, .string ⟨cu.toArray⟩, .string ⟨m.toArray⟩] 45)) := (Below.refl _ _).alloc (Nat.le_refl _) _
      have HLW := Lib.hid hlw
      clear hlw
      go_wp2_with fail
      refine (cn _ (HT.out.below (hh.out _ HC2.out))).mono ?_
      rintro e w2 ⟨rfl, hb⟩
      have HC3 := Lib.hid (below_next HC2.out hb ⟨rfl, rfl, rfl, rfl⟩)
      have HL3 := Lib.hid (below_next HLW.out hb ⟨rfl, rfl, rfl, rfl⟩)
      have x2 := (hb.block wr.heap.size (by simp)).trans x0.out
      obtain ⟨⟨d0, d1, d2⟩, e0, e1, e2⟩ := cells3 x2
      clear hb cn
      go_upto_region 8 with fail
      have h3 : Below wr.heap.size wr (w2.setCell ⟨wr.heap.size, 2, none⟩ (.string ⟨(txt (-val m)).toArray⟩)) := below_grown HL3.out (Nat.le_refl _) (grown_setCell _ _ _) (Nat.le_refl _)
      have x3 := set2 x2 (.string ⟨(txt (-val m)).toArray⟩)
      generalize (w2.setCell ⟨wr.heap.size, 2, none⟩ (.string ⟨(txt (-val m)).toArray⟩)) = W3 at *
      have hlw1 : w1.heap.size < wr.heap.size := by
        rcases Nat.lt_or_ge w1.heap.size wr.heap.size with h | h
        · exact h
        · have := HX.out; rw [Array.getElem?_eq_none h] at this; cases this
      have hB3 := (h3.block _ hlw1).trans HX.out
      have ho3 := Lib.hid (HO.out.below h3)
      have HC4 := Lib.hid (HC.out.trans (h3.mono HC.out.size))
      have hsz3 := h3.size
      have hB3h := Lib.hid hB3
      obtain ⟨⟨p0, p1, p2⟩, s0, s1, s2⟩ := cells3 hB3
      obtain ⟨⟨t0, t1, t2⟩, _⟩ := cells3 x3
      have hne : some w1.heap.size ≠ v.ownBlock := fun e => by have := ho3.out.own _ e.symm; omega
      clear d0 d1 d2 e0 e1 e2 x2 x3 hB3 h3 r0 r1 r2
      go_wp2_with (first | (refine wpList_append_l rfl (.tmp 28) (.tmp 30) rfl (w1.heap.size + 1) v _ W3 (a, cu, txt (-val m)) rfl ho3.out rfl (by omega) hlk ?_; intro v' w4 ho4 hg4; obtain ⟨A4, n4, c4, rfl⟩ := ho4.slice; have hB4 := (hg4.block _ (by omega) hne).trans hB3h.out; obtain ⟨⟨u0, u1, u2⟩, m0, m1, m2⟩ := cells3 hB4) | fail)
      have hb4 := below_own HC4.out (Nat.le_refl _) hg4 (fun q e => Nat.le_of_succ_le (ho3.out.own q e))
      have hb5 := below_grown hb4 (Nat.le_refl _) (grown_setCell w4 ⟨w1.heap.size, 2, none⟩ (.slice A4 n4 c4)) (Nat.le_refl _)
      have ho5 : OwnL (w1.heap.size + 1) (w4.setCell ⟨w1.heap.size, 2, none⟩ (.slice A4 n4 c4)) (.slice A4 n4 c4) ((l.take (k + 1)).map negL) := by
        rw [htk.out, List.map_append]
        exact ho4.kept (grown_setCell w4 ⟨w1.heap.size, 2, none⟩ (.slice A4 n4 c4)) (fun q e => by have := Option.some.inj e; simp only at this; omega)
      exact ⟨⟨k + 1, by omega, by go_num, Lib.hid ⟨_, set2 hB4 _, ho5, hb5⟩⟩, by simp [intOf]; omega⟩
    · have hkn : k = n := by omega
      subst hkn
      have hki : ¬ (k : Int) < (k : Int) := by omega
      have e : List.take k l = l := List.take_of_length_le (by rw [ll.out]; exact Nat.le_refl _)
      have ho := HO.out
      rw [e] at ho
      have hlen : (l.map negL).length = k := by rw [List.length_map, ll.out]
      have hsm : ∀ y ∈ l.map negL, Sml y := fun y hy => by
        obtain ⟨x, hx, rfl⟩ := List.mem_map.1 hy
        exact negL_sml (L1.out.sml x hx) (HS.out x hx)
      obtain ⟨A', c', rfl, _⟩ := ho.cells (by rw [hlen]; exact hn) hsm
      have hr : ∀ q, some (w.heap.size + 1) = some q → q < w1.heap.size + 1 := fun q e => by have := Option.some.inj e; omega
      have ho' := ((ho.kept (grown_setCell wr ⟨w.heap.size + 1, 0, none⟩ (.int .i64 d)) hr).kept (grown_setCell _ ⟨w.heap.size + 1, 1, none⟩ (.string ⟨cz.toArray⟩)) hr).kept (grown_setCell _ ⟨w.heap.size + 1, 2, none⟩ (.slice A' k c')) hr
      obtain ⟨A2, c2, e2, hln⟩ := ho'.cells (by rw [hlen]; exact hn) hsm
      injection e2 with e3 _ e4
      subst e3
      subst e4
      rw [hlen] at hln HX
      have hL := Lib.hid hln
      have z1 := (HC.out.block (w.heap.size + 1) (by omega)).trans Z1.out
      obtain ⟨⟨c10, c11, c12⟩, f10, f11, f12⟩ := cells3 z1
      obtain ⟨⟨b10, b11, b12⟩, _⟩ := cells3 HX.out
      obtain ⟨⟨g10, g11, g12⟩, _⟩ := cells3 (set3 z1 (.int .i64 d) (.string ⟨cz.toArray⟩) (.slice A' k c'))
      have hb := below_set3 HB.out (b := w.heap.size + 1) (by omega) (.int .i64 d) (.string ⟨cz.toArray⟩) (.slice A' k c')
      clear z1 hln ho ho' e hlen hsm hr
      go_wp2_with fail
      exact bodyPost_ret (v := .tuple #[.agg (enV d cz A' k c'), .int .i64 0]) (by simp [results, Tryz.results20, go_sem, g10, g11, g12, enV]) rfl ((HP.out _ _).2 ⟨hb, by
        rw [if_pos trivial, ll.out]
        exact ⟨A', c', rfl, hL.out⟩⟩)
end Go.Proofs.YtdnomfekblmnbaaGreatDoor

/- Slices of the call's own, and slices that are read, whatever their elements. -/
namespace Go.Proofs.YtdnomfekblmnbaaGreatDoor
open Go.RowKit Go.Maps Num

theorem grown_tr {w w1 w2 : World} {row : Option Nat} (h : w.grownBy w1 row) (h2 : w1.grownBy w2 row) : w.grownBy w2 row :=
  ⟨h2.os.trans h.os, h2.tape.trans h.tape, h2.output.trans h.output, Nat.le_trans h.size h2.size, fun k hk hr => (h2.block k (Nat.lt_of_lt_of_le hk h.size) hr).trans (h.block k hk hr)⟩
theorem grown_refl (w : World) (row : Option Nat) : w.grownBy w row := ⟨rfl, rfl, rfl, Nat.le_refl _, fun _ _ _ => rfl⟩
theorem grown_below {w w1 w2 : World} {row : Option Nat} (h : w.grownBy w1 row) (hb : Below w1.heap.size w1 w2) : w.grownBy w2 row :=
  grown_tr h ⟨hb.os, hb.tape, hb.output, hb.size, fun k hk _ => hb.block k hk⟩
/-- how elements lie in a slice: the slice's type, the element's, its zero value, its cells, its bytes -/
structure Row (α : Type) where
  S : TypeId
  E : TypeId
  z : Value
  k : Nat
  by_ : Nat
  enc : α → List Value
structure Row.Ok {α : Type} (R : Row α) : Prop where
  hS : Tryz.prog.underlying R.S = some (.slice R.E)
  info : (Tryz.prog.info? R.E).map (fun i => (i.zero, i.size, i.bytes)) = some (some R.z, R.k, R.by_)
  zc : R.z.cells.size = R.k
  k0 : 0 < R.k
  b1 : R.by_ ≤ 64
  hk : ∀ x, (R.enc x).length = R.k
  h1 : ∀ x, ∀ v ∈ R.enc x, v.oneCell' = true
namespace Row
variable {α : Type} {R : Row α}
def vs (R : Row α) (l : List α) : List Value := l.flatMap R.enc
theorem vs_nil : R.vs [] = [] := rfl
theorem vs_cons (x : α) (l : List α) : R.vs (x :: l) = R.enc x ++ R.vs l := rfl
theorem vs_append (a b : List α) : R.vs (a ++ b) = R.vs a ++ R.vs b := List.flatMap_append
theorem vs_len (ok : R.Ok) (l : List α) : (R.vs l).length = l.length * R.k := by
  induction l with
  | nil => simp [vs]
  | cons x r ih => rw [vs_cons, List.length_append, ih, ok.hk, List.length_cons, Nat.add_mul]; omega
theorem vs_at (ok : R.Ok) (x0 : α) (l : List α) (i j : Nat) (hi : i < l.length) (hj : j < R.k) : (R.vs l)[i * R.k + j]? = (R.enc (l.getD i x0))[j]? := by
  induction l generalizing i with
  | nil => cases hi
  | cons x r ih =>
    rw [vs_cons]
    cases i with
    | zero => rw [List.getElem?_append_left (by rw [ok.hk]; omega)]; simp
    | succ i =>
      rw [List.getElem?_append_right (by rw [ok.hk, Nat.add_mul]; omega), ok.hk, show (i + 1) * R.k + j - R.k = i * R.k + j by rw [Nat.add_mul]; omega, ih i (by simpa using hi)]
      simp
theorem vs_one (ok : R.Ok) (l : List α) : ∀ u ∈ R.vs l, u.oneCell' = true := by
  intro u hu
  obtain ⟨x, _, hx⟩ := List.mem_flatMap.1 hu
  exact ok.h1 x u hx
/-- the slice '.slice A n c' reads as l -/
structure Rds (R : Row α) (w : World) (A : Option Addr) (n c : Nat) (l : List α) : Prop where
  len : l.length = n
  cap : n ≤ c
  top : c ≤ maxLen
  at_ : 0 < n → ∃ b o, A = some ⟨b, o, none⟩ ∧ b < w.heap.size ∧ ∀ (j : Nat) (u : Value), (R.vs l)[j]? = some u → w.cell? ⟨b, o + j, none⟩ = some u
theorem Rds.below {w w' : World} {A : Option Addr} {n c : Nat} {l : List α} (h : R.Rds w A n c l) (hb : Below w.heap.size w w') : R.Rds w' A n c l :=
  ⟨h.len, h.cap, h.top, fun h0 => by
    obtain ⟨b, o, e, hlt, hc⟩ := h.at_ h0
    exact ⟨b, o, e, Nat.lt_of_lt_of_le hlt hb.size, fun j u hu => (hb.cell (p := ⟨b, o + j, none⟩) hlt).trans (hc j u hu)⟩⟩
/-- a slice of the call's own, from block B on -/
def Own (R : Row α) (B : Nat) (w : World) (v : Value) (l : List α) : Prop := w.ownsRow B R.E R.k v l.length (R.vs l)
namespace Own
variable {B : Nat} {w w' : World} {v : Value} {l : List α}
theorem nil (B : Nat) (w : World) : R.Own B w (.slice none 0 0) [] := World.ownsRow_nil w B R.E R.k
theorem slice (h : R.Own B w v l) : ∃ A c, v = .slice A l.length c := by
  rcases h.2 with ⟨rfl, h0⟩ | ⟨g, cap, cur, rfl, _⟩
  · exact ⟨_, _, by rw [h0]⟩
  · exact ⟨_, _, rfl⟩
theorem rds (h : R.Own B w v l) : ∃ A c, v = .slice A l.length c ∧ R.Rds w A l.length c l := by
  rcases h.2 with ⟨rfl, h0⟩ | ⟨g, cap, cur, rfl, _, hg, hc, hm, hsz, htake⟩
  · exact ⟨none, 0, by rw [h0], rfl, by omega, by omega, fun hh => by omega⟩
  · refine ⟨_, _, rfl, rfl, hc, hm, fun _ => ⟨g, 0, rfl, ?_, fun j u hu => ?_⟩⟩
    · rcases Nat.lt_or_ge g w.heap.size with h' | h'
      · exact h'
      · rw [Array.getElem?_eq_none h'] at hg; cases hg
    · have hj := (List.getElem?_eq_some_iff.1 hu).1
      rw [← htake, List.getElem?_take] at hu
      split at hu
      · rw [Nat.zero_add, cell_of_row _ _ _ _ _ _ hg, ← hu, Array.getElem?_toList]
      · cases hu
theorem kept {row : Option Nat} (h : R.Own B w v l) (hg : w.grownBy w' row) (hr : ∀ k, row = some k → k < B) : R.Own B w' v l :=
  World.ownsRow.kept h hg (by
    cases hv : v.ownBlock with
    | none => exact .inl rfl
    | some g =>
      refine .inr fun e => ?_
      have := hr g e.symm
      have := (World.ownsRow.lt h g hv).1
      omega)
theorem kept' {row : Option Nat} (h : R.Own B w v l) (hg : w.grownBy w' row) (hr : v.ownBlock = none ∨ v.ownBlock ≠ row) : R.Own B w' v l := World.ownsRow.kept h hg hr
theorem below (h : R.Own B w v l) (hb : Below w.heap.size w w') : R.Own B w' v l := h.kept (row := none) (grown_of_below hb) (fun _ e => by cases e)
theorem own (h : R.Own B w v l) : ∀ k, v.ownBlock = some k → B ≤ k ∧ k < w.heap.size := fun k hk => World.ownsRow.lt h k hk
theorem mono {B' : Nat} (h : R.Own B w v l) (hb : B' ≤ B) : R.Own B' w v l := by
  rcases h.2 with ⟨rfl, h0⟩ | ⟨g, cap, cur, rfl, hB, hr⟩
  · exact ⟨h.1, .inl ⟨rfl, h0⟩⟩
  · exact ⟨h.1, .inr ⟨g, cap, cur, rfl, Nat.le_trans hb hB, hr⟩⟩
theorem alloc (h : R.Own B w v l) (o : Obj) : R.Own B (w.alloc o) v l := World.ownsRow.alloc h o
theorem dr (h : R.Own B w v l) (k : Nat) : R.Own B (w.drewN k) v l := h
/-- what was set up anew from the heap's size on, and kept, is the call's own of any lower block -/
theorem pos (h : R.Own B w v l) (hne : 0 < l.length) : ∃ g cap, v = .slice (some ⟨g, 0, none⟩) l.length cap ∧ B ≤ g ∧ g < w.heap.size ∧ l.length ≤ cap ∧ cap ≤ maxLen ∧ ∀ j, j < cap * R.k → (w.cell? ⟨g, j, none⟩).isSome = true ∧ w.frozen? ⟨g, j, none⟩ = false := by
  rcases h.2 with ⟨_, h0⟩ | ⟨g, cap, cur, hv, hB, hg, hc, hm, hsz, htake⟩
  · omega
  · refine ⟨g, cap, hv, hB, ?_, hc, hm, fun j hj => ⟨?_, frozen_of_row _ _ _ _ _ hg⟩⟩
    · rcases Nat.lt_or_ge g w.heap.size with h' | h'
      · exact h'
      · rw [Array.getElem?_eq_none h'] at hg; cases hg
    · rw [cell_of_row _ _ _ _ _ _ hg, Array.getElem?_eq_getElem (by omega)]; rfl
end Own
theorem run_append_none (ok : R.Ok) (w : World) (B : Nat) (ty : TypeId) (v : Value) (n : Nat) (xs : List Value) (hown : w.ownsRow B R.E R.k v n xs) (c : Nat) : (Builtin.append_ #[R.S, R.S] ty #[v, .slice none 0 c]).run Tryz.prog w = .ok v w := by
  obtain ⟨i0, hi, hz0, hz1, hz2⟩ := info_parts ok.info
  rcases hown.2 with ⟨rfl, rfl⟩ | ⟨g, cap, cur, rfl, _, _, hnc, _⟩
  · simp [Builtin.append_, run_underlying ok.hS, sizeOf, typeInfo, hi, Builtin.lenOf, Builtin.firstCells]
  · simp [Builtin.append_, run_underlying ok.hS, sizeOf, typeInfo, hi, Builtin.lenOf, Builtin.firstCells, hnc, storeCells]
/-- append(s, t...) -/
theorem run_append (ok : R.Ok) (B : Nat) (ty : TypeId) (v : Value) (ns : List α) (w : World) (A : Option Addr) (m c : Nat) (zs : List α) (hown : R.Own B w v ns) (hz : R.Rds w A m c zs) (hB : B ≤ w.heap.size) (hn : ns.length + m ≤ 1000000) :
    ∃ v' w', (Builtin.append_ #[R.S, R.S] ty #[v, .slice A m c]).run Tryz.prog w = .ok v' w' ∧ R.Own B w' v' (ns ++ zs) ∧ w.grownBy w' v.ownBlock ∧ (v'.ownBlock = v.ownBlock ∨ v'.ownBlock = some w.heap.size) := by
  obtain ⟨i0, hi, hz0, hz1, hz2⟩ := info_parts ok.info
  by_cases hA : ∃ ad, A = some ad
  · obtain ⟨ad, rfl⟩ := hA
    have hb := ok.b1
    obtain ⟨v', w', hr, h2, h3, _, h5⟩ := run_append_own_at (P := Tryz.prog) w B R.S ty R.E i0 _ R.k R.by_ ok.hS hi hz0 hz1 hz2 ok.zc ok.k0 v ns.length (R.vs ns) hown ad m c (R.vs zs) (by rw [vs_len ok, hz.len]) (fun j u hu => by
        have hj := (List.getElem?_eq_some_iff.1 hu).1
        rw [vs_len ok, hz.len] at hj
        obtain ⟨b, off, e, _, hc⟩ := hz.at_ (by
          rcases Nat.eq_zero_or_pos m with h0 | h0
          · rw [h0] at hj; omega
          · exact h0)
        cases e
        have hadd : (⟨b, off, none⟩ : Addr).add j = ⟨b, off + j, none⟩ := by unfold Addr.add; split <;> simp_all
        rw [hadd]
        exact hc j u hu) (vs_one ok zs) (by simp only [maxLen]; omega) (by
        have h64 : (ns.length + m) * R.by_ ≤ 1000000 * 64 := Nat.mul_le_mul hn hb
        omega) hB
    refine ⟨v', w', hr, ?_, h3, h5⟩
    unfold Own
    rw [List.length_append, hz.len, vs_append]
    exact h2
  · have hA2 : A = none := by
      cases A with
      | none => rfl
      | some ad => exact absurd ⟨ad, rfl⟩ hA
    subst hA2
    have hm : m = 0 := by
      rcases Nat.eq_zero_or_pos m with h0 | h0
      · exact h0
      · obtain ⟨b, off, e, _⟩ := hz.at_ h0
        cases e
    subst hm
    have : zs = [] := List.eq_nil_of_length_eq_zero hz.len
    subst this
    exact ⟨v, w, run_append_none ok w B ty v _ _ hown c, by rw [List.append_nil]; exact hown, ⟨rfl, rfl, rfl, Nat.le_refl _, fun _ _ _ => rfl⟩, .inl rfl⟩
theorem op_append (ok : R.Ok) {o : Oper} {a : Act} {K : Act → World → Prop} {Q : Exit → Act → World → Prop} (s x : Operand)
    (ho : o.op = .call { callee := .builtin .append, args := #[s, x], argTypes := #[R.S, R.S] })
    (B : Nat) (v : Value) (ns : List α) (w : World) (A : Option Addr) (m c : Nat) (zs : List α) (hs : a.eval s = v) (hown : R.Own B w v ns) (hx : a.eval x = .slice A m c) (hz : R.Rds w A m c zs)
    (hB : B ≤ w.heap.size) (hn : ns.length + m ≤ 1000000)
    (h : ∀ v' w', R.Own B w' v' (ns ++ zs) → w.grownBy w' v.ownBlock → (v'.ownBlock = v.ownBlock ∨ v'.ownBlock = some w.heap.size) → K (a.put o.dst v') w') : o.wp Tryz.prog a w K Q := by
  obtain ⟨v', w', hr, h2, h3, h5⟩ := run_append ok B o.type v ns w A m c zs hown hz hB hn
  unfold Oper.wp execOp
  simp only [ho, resolve, invoke, builtin, Sem.run_bind, Sem.run_pure, Result.andThen_ok, List.map_toArray, List.map_cons, List.map_nil, hs, hx, hr]
  exact h v' w' h2 h3 h5
theorem wp_append (ok : R.Ok) {ops : Array Oper} {rest : List Oper} {o : Oper} {a : Act} {Q : Exit → Act → World → Prop} (hgd : o.guard = none) (s x : Operand)
    (ho : o.op = .call { callee := .builtin .append, args := #[s, x], argTypes := #[R.S, R.S] })
    (B : Nat) (v : Value) (ns : List α) (w : World) (A : Option Addr) (m c : Nat) (zs : List α) (hs : a.eval s = v) (hown : R.Own B w v ns) (hx : a.eval x = .slice A m c) (hz : R.Rds w A m c zs)
    (hB : B ≤ w.heap.size) (hn : ns.length + m ≤ 1000000)
    (h : ∀ v' w', R.Own B w' v' (ns ++ zs) → w.grownBy w' v.ownBlock → (v'.ownBlock = v.ownBlock ∨ v'.ownBlock = some w.heap.size) → wpList Tryz.prog ops Q rest (a.put o.dst v') w') : wpList Tryz.prog ops Q (o :: rest) a w :=
  wpList_plain hgd fun _ hK => op_append ok s x ho B v ns w A m c zs hs hown hx hz hB hn fun v' w' h2 h3 h5 => hK _ _ (h v' w' h2 h3 h5)
theorem step_append (ok : R.Ok) {ops : Array Oper} {o : Oper} {a : Act} {K : Act → World → Prop} {Q : Exit → Act → World → Prop} {E : Prop} (hgd : o.guard = none) (s x : Operand)
    (ho : o.op = .call { callee := .builtin .append, args := #[s, x], argTypes := #[R.S, R.S] })
    (B : Nat) (v : Value) (ns : List α) (w : World) (A : Option Addr) (m c : Nat) (zs : List α) (hs : a.eval s = v) (hown : R.Own B w v ns) (hx : a.eval x = .slice A m c) (hz : R.Rds w A m c zs)
    (hB : B ≤ w.heap.size) (hn : ns.length + m ≤ 1000000)
    (h : ∀ v' w', R.Own B w' v' (ns ++ zs) → w.grownBy w' v.ownBlock → (v'.ownBlock = v.ownBlock ∨ v'.ownBlock = some w.heap.size) → K (a.put o.dst v') w') :
    if Region.wanted o (yielded ops a.tmps) = true then Oper.wp Tryz.prog o a w K Q else E := by
  have hw : Region.wanted o (yielded ops a.tmps) = true := by simp [Region.wanted, hgd]
  rw [if_pos hw]
  exact op_append ok s x ho B v ns w A m c zs hs hown hx hz hB hn h
/-- one element in a block of its own -/
theorem rds_one (_ok : R.Ok) (w : World) (x : α) (t : TypeId) : R.Rds (w.alloc (.cells (R.enc x).toArray t)) (some ⟨w.heap.size, 0, none⟩) 1 1 [x] :=
  ⟨rfl, Nat.le_refl _, by unfold maxLen; omega, fun _ => ⟨w.heap.size, 0, rfl, by simp, fun j u hu => by
    rw [Nat.zero_add, cell_of_row _ _ _ _ _ _ (heap_alloc_new w _)]
    rw [vs_cons, vs_nil, List.append_nil] at hu
    simpa using hu⟩⟩
/-- append(s, x): x lies in a block of its own -/
theorem op_append1 (ok : R.Ok) {o : Oper} {a : Act} {K : Act → World → Prop} {Q : Exit → Act → World → Prop} (s t : Operand)
    (ho : o.op = .call { callee := .builtin .append, args := #[s, t], argTypes := #[R.S, R.S] })
    (B : Nat) (v : Value) (ns : List α) (w : World) (x : α) (cs : Array Value) (E' : TypeId) (hcs : cs = (R.enc x).toArray) (hE : E' = R.E) (hs : a.eval s = v) (hown : R.Own B w v ns) (hx : a.eval t = .slice (some ⟨w.heap.size, 0, none⟩) 1 1)
    (hB : B ≤ w.heap.size) (hn : ns.length + 1 ≤ 1000000)
    (h : ∀ v' w', R.Own B w' v' (ns ++ [x]) → w.grownBy w' v.ownBlock → (v'.ownBlock = v.ownBlock ∨ ∃ g, v'.ownBlock = some g ∧ w.heap.size ≤ g) → K (a.put o.dst v') w') : o.wp Tryz.prog a (w.alloc (.cells cs E')) K Q := by
  subst hcs hE
  refine op_append ok s t ho B v ns (w.alloc (.cells (R.enc x).toArray R.E)) _ 1 1 [x] hs (hown.alloc _) hx (rds_one ok w x R.E) (by simp; omega) hn fun v' w' h1 h2 h3 => h v' w' h1 (grown_tr (World.grownBy_alloc w _ _) h2) ?_
  rcases h3 with h3 | h3
  · exact .inl h3
  · exact .inr ⟨_, h3, by simp⟩
theorem wp_append1 (ok : R.Ok) {ops : Array Oper} {rest : List Oper} {o : Oper} {a : Act} {Q : Exit → Act → World → Prop} (hgd : o.guard = none) (s t : Operand)
    (ho : o.op = .call { callee := .builtin .append, args := #[s, t], argTypes := #[R.S, R.S] })
    (B : Nat) (v : Value) (ns : List α) (w : World) (x : α) (cs : Array Value) (E' : TypeId) (hcs : cs = (R.enc x).toArray) (hE : E' = R.E) (hs : a.eval s = v) (hown : R.Own B w v ns) (hx : a.eval t = .slice (some ⟨w.heap.size, 0, none⟩) 1 1)
    (hB : B ≤ w.heap.size) (hn : ns.length + 1 ≤ 1000000)
    (h : ∀ v' w', R.Own B w' v' (ns ++ [x]) → w.grownBy w' v.ownBlock → (v'.ownBlock = v.ownBlock ∨ ∃ g, v'.ownBlock = some g ∧ w.heap.size ≤ g) → wpList Tryz.prog ops Q rest (a.put o.dst v') w') : wpList Tryz.prog ops Q (o :: rest) a (w.alloc (.cells cs E')) :=
  wpList_plain hgd fun _ hK => op_append1 ok s t ho B v ns w x cs E' hcs hE hs hown hx hB hn fun v' w' h2 h3 h5 => hK _ _ (h v' w' h2 h3 h5)
theorem step_append1 (ok : R.Ok) {ops : Array Oper} {o : Oper} {a : Act} {K : Act → World → Prop} {Q : Exit → Act → World → Prop} {E : Prop} (hgd : o.guard = none) (s t : Operand)
    (ho : o.op = .call { callee := .builtin .append, args := #[s, t], argTypes := #[R.S, R.S] })
    (B : Nat) (v : Value) (ns : List α) (w : World) (x : α) (cs : Array Value) (E' : TypeId) (hcs : cs = (R.enc x).toArray) (hE : E' = R.E) (hs : a.eval s = v) (hown : R.Own B w v ns) (hx : a.eval t = .slice (some ⟨w.heap.size, 0, none⟩) 1 1)
    (hB : B ≤ w.heap.size) (hn : ns.length + 1 ≤ 1000000)
    (h : ∀ v' w', R.Own B w' v' (ns ++ [x]) → w.grownBy w' v.ownBlock → (v'.ownBlock = v.ownBlock ∨ ∃ g, v'.ownBlock = some g ∧ w.heap.size ≤ g) → K (a.put o.dst v') w') :
    if Region.wanted o (yielded ops a.tmps) = true then Oper.wp Tryz.prog o a (w.alloc (.cells cs E')) K Q else E := by
  have hw : Region.wanted o (yielded ops a.tmps) = true := by simp [Region.wanted, hgd]
  rw [if_pos hw]
  exact op_append1 ok s t ho B v ns w x cs E' hcs hE hs hown hx hB hn h
theorem step_append1d (ok : R.Ok) {ops : Array Oper} {o : Oper} {a : Act} {K : Act → World → Prop} {Q : Exit → Act → World → Prop} {E : Prop} (hgd : o.guard = none) (s t : Operand)
    (ho : o.op = .call { callee := .builtin .append, args := #[s, t], argTypes := #[R.S, R.S] })
    (B : Nat) (v : Value) (ns : List α) (w : World) (x : α) (cs : Array Value) (E' : TypeId) (hcs : cs = (R.enc x).toArray) (hE : E' = R.E) (hs : a.eval s = v) (hown : R.Own B w v ns) (hx : a.eval t = .slice (some ⟨w.heap.size, 0, none⟩) 1 1)
    (hB : B ≤ w.heap.size) (hn : ns.length + 1 ≤ 1000000)
    (h : ∀ v' w', R.Own B w' v' (ns ++ [x]) → w.grownBy w' v.ownBlock → (v'.ownBlock = v.ownBlock ∨ ∃ g, v'.ownBlock = some g ∧ w.heap.size ≤ g) → K (a.put o.dst v') w') :
    if Region.wanted o (yielded ops a.tmps) = true then Oper.wp Tryz.prog o a (w.alloc (.cells cs E')).drew K Q else E := by
  have hw : Region.wanted o (yielded ops a.tmps) = true := by simp [Region.wanted, hgd]
  rw [if_pos hw]
  subst hcs hE
  have hr := rds_one ok w x R.E
  refine op_append ok s t ho B v ns (w.alloc (.cells (R.enc x).toArray R.E)).drew _ 1 1 [x] hs (hown.alloc _) hx ⟨hr.len, hr.cap, hr.top, hr.at_⟩ (by show B ≤ (w.alloc (.cells (R.enc x).toArray R.E)).heap.size; simp; omega) hn fun v' w' h1 h2 h3 => h v' w' h1 (grown_tr (World.grownBy_alloc w (.cells (R.enc x).toArray R.E) _) ⟨h2.os, h2.tape, h2.output, h2.size, h2.block⟩) ?_
  rcases h3 with h3 | h3
  · exact .inl h3
  · exact .inr ⟨_, h3, by show w.heap.size ≤ (w.alloc (.cells (R.enc x).toArray R.E)).heap.size; simp⟩
/-- a part of a slice that is read -/
theorem Rds.drop (ok : R.Ok) {w : World} {b o n c : Nat} {l : List α} (h : R.Rds w (some ⟨b, o, none⟩) n c l) (i : Nat) (hi : i ≤ n) : R.Rds w (some ⟨b, o + i * R.k, none⟩) (n - i) (c - i) (l.drop i) := by
  have hl := h.len
  have hcap := h.cap
  have htop := h.top
  refine ⟨by rw [List.length_drop, hl], by omega, by omega, fun h0 => ?_⟩
  obtain ⟨b', o', e, hlt, hc⟩ := h.at_ (by omega)
  cases e
  refine ⟨b, _, rfl, hlt, fun j u hu => ?_⟩
  have e1 : R.vs l = R.vs (l.take i) ++ R.vs (l.drop i) := by rw [← vs_append, List.take_append_drop]
  have e2 : (R.vs (l.take i)).length = i * R.k := by rw [vs_len ok, List.length_take, hl, Nat.min_eq_left hi]
  have := hc (i * R.k + j) u (by rw [e1, List.getElem?_append_right (by rw [e2]; omega), e2, Nat.add_sub_cancel_left]; exact hu)
  rw [show o + i * R.k + j = o + (i * R.k + j) by omega]
  exact this
theorem Rds.take (_ok : R.Ok) {w : World} {A : Option Addr} {n c : Nat} {l : List α} (h : R.Rds w A n c l) (i : Nat) (hi : i ≤ n) : R.Rds w A i c (l.take i) := by
  have hl := h.len
  have hcap := h.cap
  have htop := h.top
  refine ⟨by rw [List.length_take, hl]; omega, by omega, by omega, fun h0 => ?_⟩
  obtain ⟨b, o, e, hlt, hc⟩ := h.at_ (by omega)
  refine ⟨b, o, e, hlt, fun j u hu => hc j u ?_⟩
  have e1 : R.vs l = R.vs (l.take i) ++ R.vs (l.drop i) := by rw [← vs_append, List.take_append_drop]
  rw [e1, List.getElem?_append_left (List.getElem?_eq_some_iff.1 hu).1]
  exact hu
/-- one element that is read -/
theorem Rds.cell (ok : R.Ok) (x0 : α) {w : World} {b o n c : Nat} {l : List α} (h : R.Rds w (some ⟨b, o, none⟩) n c l) (i j : Nat) (u : Value) (hi : i < n) (hu : (R.enc (l.getD i x0))[j]? = some u) : w.cell? ⟨b, o + i * R.k + j, none⟩ = some u := by
  obtain ⟨b', o', e, _, hc⟩ := h.at_ (by omega)
  cases e
  have hj : j < R.k := by rw [← ok.hk (l.getD i x0)]; exact (List.getElem?_eq_some_iff.1 hu).1
  have := hc (i * R.k + j) u (by rw [vs_at ok x0 l i j (by rw [h.len]; exact hi) hj]; exact hu)
  rw [show o + i * R.k + j = o + (i * R.k + j) by omega]
  exact this
theorem Rds.nil (w : World) (A : Option Addr) (c : Nat) (hc : c ≤ maxLen) : R.Rds w A 0 c [] := ⟨rfl, Nat.zero_le _, hc, fun h => by omega⟩
theorem size_run (ok : R.Ok) (W : World) : (sizeOf R.E).run Tryz.prog W = .ok R.k W := by
  obtain ⟨i0, hi, hz0, hz1, hz2⟩ := info_parts ok.info
  simp [sizeOf, typeInfo, hi, hz1]
theorem elem_of (ok : R.Ok) : Tryz.prog.elem R.S = R.E := by simp [Program.elem, ok.hS]
/-- s[i:] -/
theorem run_from (ok : R.Ok) {w : World} {A : Option Addr} {n c : Nat} {l : List α} (h : R.Rds w A n c l) (i : Nat) (hi : i ≤ n) :
    ∃ A', (∀ W, (Instr.sliceAt R.S (.slice A n c) (some (.int .i64 (i : Int))) none none).run Tryz.prog W = .ok (.slice A' (n - i) (c - i)) W) ∧ R.Rds w A' (n - i) (c - i) (l.drop i) := by
  have hcap := h.cap
  refine ⟨if c = i then A else A.map (·.add (i * R.k)), fun W => ?_, ?_⟩
  · rw [run_sliceAt_slice W R.S _ _ _ _ (by rw [elem_of ok]; exact ok.hS), run_slice_l W R.S A n c (by rw [elem_of ok]; exact ok.hS) .i64 (i : Int) (by omega) (by omega), elem_of ok, size_run ok W]
    simp [Result.andThen, sliced]
  · by_cases h0 : n - i = 0
    · have hl : l.drop i = [] := List.drop_of_length_le (by rw [h.len]; omega)
      rw [hl, h0]
      exact Rds.nil w _ _ (by have := h.top; omega)
    · rw [if_neg (by omega)]
      obtain ⟨b, o, rfl, _⟩ := h.at_ (by omega)
      have hadd : (⟨b, o, none⟩ : Addr).add (i * R.k) = ⟨b, o + i * R.k, none⟩ := by unfold Addr.add; split <;> simp_all
      rw [Option.map_some, hadd]
      exact h.drop ok i hi
/-- s[:i] -/
theorem run_upto (ok : R.Ok) {w : World} {A : Option Addr} {n c : Nat} {l : List α} (h : R.Rds w A n c l) (i : Nat) (hi : i ≤ n) :
    ∃ A', (∀ W, (Instr.sliceAt R.S (.slice A n c) none (some (.int .i64 (i : Int))) none).run Tryz.prog W = .ok (.slice A' i c) W) ∧ R.Rds w A' i c (l.take i) := by
  have hcap := h.cap
  refine ⟨if c = 0 then A else A.map (·.add (0 * R.k)), fun W => ?_, ?_⟩
  · rw [run_sliceAt_slice W R.S _ _ _ _ (by rw [elem_of ok]; exact ok.hS), run_slice_h W R.S A n c (by rw [elem_of ok]; exact ok.hS) .i64 (i : Int) (by omega) (by omega), elem_of ok, size_run ok W]
    simp [Result.andThen, sliced]
  · by_cases h0 : n = 0
    · have hi0 : i = 0 := by omega
      subst hi0
      rw [List.take_zero]
      exact Rds.nil w _ _ h.top
    · rw [if_neg (by omega)]
      obtain ⟨b, o, rfl, _⟩ := h.at_ (by omega)
      have hadd : (⟨b, o, none⟩ : Addr).add (0 * R.k) = ⟨b, o, none⟩ := by unfold Addr.add; split <;> simp_all
      rw [Option.map_some, hadd]
      exact h.take ok i hi
theorem vs_set3 (hk : ∀ x : α, (R.enc x).length = 3) (l : List α) (i : Nat) (x : α) (a b c : Value) (hi : i < l.length) (hx : R.enc x = [a, b, c]) : (((R.vs l).set (i * 3) a).set (i * 3 + 1) b).set (i * 3 + 2) c = R.vs (l.set i x) := by
  induction l generalizing i with
  | nil => cases hi
  | cons y r ih =>
    obtain ⟨y0, y1, y2, hy⟩ : ∃ y0 y1 y2, R.enc y = [y0, y1, y2] := by
      have h := hk y
      match he : R.enc y, h with
      | [p, q, s], _ => exact ⟨p, q, s, rfl⟩
    rw [vs_cons, hy]
    cases i with
    | zero => rw [List.set_cons_zero, vs_cons, hx]; rfl
    | succ i =>
      rw [List.set_cons_succ, vs_cons, hy, ← ih i (by simpa using hi), show (i + 1) * 3 = i * 3 + 3 by omega]
      rfl
/-- an element of a slice of the call's own is written -/
theorem Own.set3 (hk : ∀ x : α, (R.enc x).length = 3) (_h3 : R.k = 3) {B : Nat} {w : World} {g n cap : Nat} {l : List α} (h : R.Own B w (.slice (some ⟨g, 0, none⟩) n cap) l) (i : Nat) (x : α) (a b c : Value) (hi : i < l.length) (hx : R.enc x = [a, b, c]) :
    R.Own B (((w.setCell ⟨g, i * 3, none⟩ a).setCell ⟨g, i * 3 + 1, none⟩ b).setCell ⟨g, i * 3 + 2, none⟩ c) (.slice (some ⟨g, 0, none⟩) n cap) (l.set i x) ∧ w.grownBy (((w.setCell ⟨g, i * 3, none⟩ a).setCell ⟨g, i * 3 + 1, none⟩ b).setCell ⟨g, i * 3 + 2, none⟩ c) (some g) := by
  have hn : n = l.length := by
    rcases h.2 with ⟨e, _⟩ | ⟨g', cap', cur, e, _⟩
    · cases e
    · injection e
  subst hn
  have h' : w.ownsRow B R.E R.k (.slice (some ⟨g, 0, none⟩) l.length cap) l.length (R.vs l) := h
  obtain ⟨s1, t1⟩ := h'.stored (i * 3) a
  obtain ⟨s2, t2⟩ := s1.stored (i * 3 + 1) b
  obtain ⟨s3, t3⟩ := s2.stored (i * 3 + 2) c
  rw [vs_set3 hk l i x a b c hi hx] at s3
  refine ⟨?_, grown_tr (grown_tr t1 t2) t3⟩
  unfold Own
  rw [List.length_set]
  exact s3
theorem Own.frz {B : Nat} {w : World} {g n cap : Nat} {l : List α} (h : R.Own B w (.slice (some ⟨g, 0, none⟩) n cap) l) (j : Nat) : w.frozen? ⟨g, j, none⟩ = false := by
  have hn : n = l.length := by
    rcases h.2 with ⟨e, _⟩ | ⟨g', cap', cur, e, _⟩
    · cases e
    · injection e
  subst hn
  exact World.ownsRow.frozenAt h j
end Row
end Go.Proofs.YtdnomfekblmnbaaGreatDoor

/- Contracts of slices.Equal at lines, entry.Same. -/
namespace Go.Proofs.YtdnomfekblmnbaaGreatDoor
open Go.RowKit Go.Maps Num

def BoolPost (b : Bool) (w : World) (e : Ending) (w' : World) : Prop := e = .returned (.bool b) ∧ Below w.heap.size w w'
def EqR (w : World) (l m : List Ln) (k : Nat) (W : World) : Prop := l.take k = m.take k ∧ Below w.heap.size w W
set_option maxRecDepth 100000 in
set_option maxHeartbeats 4000000 in
theorem Equal_any (A B : Option Addr) (n c p d : Nat) (l m : List Ln) (w : World) (hl : Lns w A n c l) (hm : Lns w B p d m) :
    Calls Tryz.prog 56 #[.slice A n c, .slice B p d] w (BoolPost (decide (l = m)) w) := by
  have hn := hl.small
  have hp := hm.small
  have ll := Lib.hid hl.len
  have lm := Lib.hid hm.len
  have L1 := Lib.hid hl
  have L2 := Lib.hid hm
  have hv := Lib.hid (show decide (l = m) = decide (l = m) from rfl)
  generalize hr : decide (l = m) = r
  clear hl hm hv
  by_cases hnp : n = p
  case neg =>
    have h1 : ((n : Int) == (p : Int)) = false := beq_eq_false_iff_ne.2 (by omega)
    have h2 : (n == p) = false := beq_eq_false_iff_ne.2 hnp
    have hv := Lib.hid (show r = false by rw [← hr]; exact decide_eq_false (fun e => hnp (by rw [← ll.out, ← lm.out, e])))
    clear hr
    go_enter Tryz.func56, Tryz.ntmps56
    go_wp2_with fail
    go_ret
    exact ⟨by rw [hv.out]; rfl, Below.refl _ _⟩
  subst hnp
  have HR := Lib.hid hr
  clear hr
  go_enter Tryz.func56, Tryz.ntmps56
  go_wp2_with fail
  have R0 := Lib.hid (show EqR w l m 0 w from ⟨by simp, Below.refl _ _⟩)
  go_loopw [13] (fun i wr => ∃ k : Nat, k ≤ n ∧ i = .int .i64 (k : Int) ∧ Hid (EqR w l m k wr)) (fun i _ => n - (intOf i).toNat)
  case atStart => exact ⟨0, by omega, rfl, R0⟩
  case round =>
    obtain ⟨k, hk, rfl, hR⟩ := hrel
    have HE := Lib.hid hR.out.1
    have HB := Lib.hid hR.out.2
    clear hR R0
    by_cases hlt : k < n
    · obtain ⟨b1, o1, rfl, hb1, hc1⟩ := L1.out.at_ (by omega)
      obtain ⟨b2, o2, rfl, hb2, hc2⟩ := L2.out.at_ (by omega)
      obtain ⟨q0, q1, q2⟩ := hc1 k hlt
      obtain ⟨v0, v1, v2⟩ := hc2 k hlt
      have r0 := (HB.out.cell (p := ⟨b1, o1 + k * 3, none⟩) hb1).trans q0
      have r1 := (HB.out.cell (p := ⟨b1, o1 + k * 3 + 1, none⟩) hb1).trans q1
      have r2 := (HB.out.cell (p := ⟨b1, o1 + k * 3 + 2, none⟩) hb1).trans q2
      have s0 := (HB.out.cell (p := ⟨b2, o2 + k * 3, none⟩) hb2).trans v0
      have s1 := (HB.out.cell (p := ⟨b2, o2 + k * 3 + 1, none⟩) hb2).trans v1
      have s2 := (HB.out.cell (p := ⟨b2, o2 + k * 3 + 2, none⟩) hb2).trans v2
      have hki : (k : Int) < (n : Int) := by omega
      have hk0 : (0 : Int) ≤ (k : Int) := by omega
      have t1 := Lib.hid (take_ln l k (by rw [ll.out]; exact hlt))
      have t2 := Lib.hid (take_ln m k (by rw [lm.out]; exact hlt))
      have HD := Lib.hid (show l.getD k ln0 ≠ m.getD k ln0 → l ≠ m from fun h e => h (by rw [e]))
      clear q0 q1 q2 v0 v1 v2 hc1 hc2
      generalize l.getD k ln0 = x at *
      generalize m.getD k ln0 = y at *
      obtain ⟨a, cu, u⟩ := x
      obtain ⟨a', cu', u'⟩ := y
      simp only at r0 r1 r2 s0 s1 s2
      by_cases hxy : (a, cu, u) = (a', cu', u')
      · injection hxy with h1 h2
        injection h2 with h2 h3
        subst h1 h2 h3
        have HE2 := Lib.hid (show l.take (k + 1) = m.take (k + 1) by rw [t1.out, t2.out, HE.out])
        clear t1 t2 HD
        go_wp2_with fail
        go_quiet (fail)
        have HB2 := Lib.hid (below_dr HB.out nq)
        go_wp2_with fail
        go_roundw
        case rel => exact ⟨k + 1, by omega, by go_num, Lib.hid ⟨HE2.out, HB2.out⟩⟩
        case measure => simp [intOf]; omega
      · have hv := Lib.hid (show r = false by rw [← HR.out]; exact decide_eq_false (HD.out hxy))
        clear t1 t2 HD
        by_cases h1 : a = a'
        · subst h1
          by_cases h2 : cu = cu'
          · subst h2
            have h3 : u ≠ u' := fun e => hxy (by rw [e])
            have e3 : (u == u') = false := beq_eq_false_iff_ne.2 h3
            clear hxy
            go_wp2_with fail
            go_quiet (fail)
            have HB2 := Lib.hid (below_dr HB.out nq)
            go_wp2_with fail
            go_ret
            exact ⟨by rw [hv.out]; rfl, HB2.out⟩
          · have e2 : (cu == cu') = false := beq_eq_false_iff_ne.2 h2
            clear hxy
            go_wp2_with fail
            go_quiet (fail)
            have HB2 := Lib.hid (below_dr HB.out nq)
            go_wp2_with fail
            go_ret
            exact ⟨by rw [hv.out]; rfl, HB2.out⟩
        · have e1 : (a == a') = false := beq_eq_false_iff_ne.2 h1
          clear hxy
          go_wp2_with fail
          go_quiet (fail)
          have HB2 := Lib.hid (below_dr HB.out nq)
          go_wp2_with fail
          go_ret
          exact ⟨by rw [hv.out]; rfl, HB2.out⟩
    · have hkn : k = n := by omega
      subst hkn
      have hki : ¬ (k : Int) < (k : Int) := by omega
      have e := HE.out
      rw [List.take_of_length_le (by rw [ll.out]; exact Nat.le_refl _), List.take_of_length_le (by rw [lm.out]; exact Nat.le_refl _)] at e
      have hv := Lib.hid (show r = true by rw [← HR.out]; exact decide_eq_true e)
      clear e HE
      go_wp2_with fail
      go_ret
      exact ⟨by rw [hv.out]; rfl, HB.out⟩
/-- whether two entries are the same -/
def sameB (x y : Int × List UInt8 × List Ln) : Bool := decide (x = y)
set_option maxRecDepth 100000 in
set_option maxHeartbeats 4000000 in
theorem same1_any (d1 d2 : Int) (c1 c2 : List UInt8) (A B : Option Addr) (n c p d : Nat) (l m : List Ln) (w : World) (hl : Lns w A n c l) (hm : Lns w B p d m) :
    Calls Tryz.prog 55 #[.agg (enV d1 c1 A n c), .agg (enV d2 c2 B p d)] w (BoolPost (sameB (d1, c1, l) (d2, c2, m)) w) := by
  have hv := Lib.hid (show sameB (d1, c1, l) (d2, c2, m) = decide ((d1, c1, l) = (d2, c2, m)) from rfl)
  have hB0 : Below w.heap.size w ((w.alloc (.cells #[.int .i64 d1, .string ⟨c1.toArray⟩, .slice A n c] 32)).alloc (.cells #[.int .i64 d2, .string ⟨c2.toArray⟩, .slice B p d] 32)) := ((Below.refl _ w).alloc (Nat.le_refl _) _).alloc (by simp) _
  have ce := Equal_any A B n c p d l m _ (hl.below hB0) (hm.below hB0)
  have HE := Lib.hid ce
  have HB := Lib.hid hB0
  generalize sameB (d1, c1, l) (d2, c2, m) = r at *
  clear ce hB0 hl hm
  unfold enV
  go_enter Tryz.func55, Tryz.ntmps55
  by_cases h1 : d1 = d2
  · subst h1
    by_cases h2 : c1 = c2
    · subst h2
      have hv2 := Lib.hid (show r = decide (l = m) by rw [hv.out]; simp)
      generalize decide (l = m) = b at *
      go_wp2_with fail
      refine HE.out.mono ?_
      rintro e w2 ⟨rfl, hb⟩
      have HB2 := Lib.hid (below_next HB.out hb ⟨rfl, rfl, rfl, rfl⟩)
      clear hb
      go_wp2_with fail
      go_ret
      exact ⟨by rw [hv2.out]; rfl, HB2.out⟩
    · have hv2 := Lib.hid (show r = false by rw [hv.out]; exact decide_eq_false (fun e => h2 (congrArg (fun x => x.2.1) e)))
      have e2 : (c1 == c2) = false := beq_eq_false_iff_ne.2 h2
      go_wp2_with fail
      go_ret
      exact ⟨by rw [hv2.out]; rfl, HB.out⟩
  · have hv2 := Lib.hid (show r = false by rw [hv.out]; exact decide_eq_false (fun e => h1 (congrArg (fun x => x.1) e)))
    have e1 : (d1 == d2) = false := beq_eq_false_iff_ne.2 h1
    go_wp2_with fail
    go_ret
    exact ⟨by rw [hv2.out]; rfl, HB.out⟩
end Go.Proofs.YtdnomfekblmnbaaGreatDoor

/- Lists of entries; contracts of slices.EqualFunc at Same's closure, entry.Same. -/
namespace Go.Proofs.YtdnomfekblmnbaaGreatDoor
open Go.RowKit Go.Maps Num

abbrev En : Type := Int × List UInt8 × List Ln
set_option synthInstance.maxHeartbeats 200000 in
set_option synthInstance.maxSize 1000 in
instance decEn : DecidableEq En := inferInstanceAs (DecidableEq (Int × List UInt8 × List Ln))
instance decEns : DecidableEq (List En) := fun a b => @instDecidableEqList En decEn a b
def en0 : En := (0, [], [])
/-- The slice value '.slice A n c' reads as the entries l in w. -/
structure Ens (w : World) (A : Option Addr) (n c : Nat) (l : List En) : Prop where
  len : l.length = n
  cap : n ≤ c
  top : c ≤ maxLen
  small : n ≤ 1000
  at_ : 0 < n → ∃ b o, A = some ⟨b, o, none⟩ ∧ b < w.heap.size ∧ ∀ k, k < n → w.cell? ⟨b, o + k * 3, none⟩ = some (.int .i64 (l.getD k en0).1) ∧ w.cell? ⟨b, o + k * 3 + 1, none⟩ = some (.string ⟨(l.getD k en0).2.1.toArray⟩) ∧
    ∃ A' n' c', w.cell? ⟨b, o + k * 3 + 2, none⟩ = some (.slice A' n' c') ∧ Lns w A' n' c' (l.getD k en0).2.2
theorem Ens.below {w w' : World} {A : Option Addr} {n c : Nat} {l : List En} (h : Ens w A n c l) (hb : Below w.heap.size w w') : Ens w' A n c l :=
  ⟨h.len, h.cap, h.top, h.small, fun h0 => by
    obtain ⟨b, o, e, hlt, hc⟩ := h.at_ h0
    refine ⟨b, o, e, Nat.lt_of_lt_of_le hlt hb.size, fun k hk => ?_⟩
    obtain ⟨c0, c1, A', n', c', c2, hl⟩ := hc k hk
    exact ⟨(hb.cell (p := ⟨b, o + k * 3, none⟩) hlt).trans c0, (hb.cell (p := ⟨b, o + k * 3 + 1, none⟩) hlt).trans c1, A', n', c', (hb.cell (p := ⟨b, o + k * 3 + 2, none⟩) hlt).trans c2, hl.below hb⟩⟩
theorem take_en (l : List En) (k : Nat) (h : k < l.length) : l.take (k + 1) = l.take k ++ [l.getD k en0] := by
  rw [List.take_succ_eq_append_getElem h, List.getD_eq_getElem?_getD, List.getElem?_eq_getElem h]; rfl
def EqfR (w : World) (l m : List En) (k : Nat) (W : World) : Prop := l.take k = m.take k ∧ Below w.heap.size w W
set_option maxRecDepth 100000 in
set_option maxHeartbeats 4000000 in
theorem EqualF_any (A B : Option Addr) (n c p d : Nat) (l m : List En) (w : World) (hl : Ens w A n c l) (hm : Ens w B p d m) :
    Calls Tryz.prog 54 #[.slice A n c, .slice B p d, .func (.func 55) #[] #[]] w (BoolPost (decide (l = m)) w) := by
  have hn := hl.small
  have hp := hm.small
  have ll := Lib.hid hl.len
  have lm := Lib.hid hm.len
  have L1 := Lib.hid hl
  have L2 := Lib.hid hm
  generalize hr : decide (l = m) = r
  clear hl hm
  by_cases hnp : n = p
  case neg =>
    have h1 : ((n : Int) == (p : Int)) = false := beq_eq_false_iff_ne.2 (by omega)
    have h2 : (n == p) = false := beq_eq_false_iff_ne.2 hnp
    have hv := Lib.hid (show r = false by rw [← hr]; exact decide_eq_false (fun e => hnp (by rw [← ll.out, ← lm.out, e])))
    clear hr
    go_enter Tryz.func54, Tryz.ntmps54
    go_wp2_with fail
    go_ret
    exact ⟨by rw [hv.out]; rfl, Below.refl _ _⟩
  subst hnp
  have HR := Lib.hid hr
  clear hr
  go_enter Tryz.func54, Tryz.ntmps54
  go_wp2_with fail
  have R0 := Lib.hid (show EqfR w l m 0 w from ⟨by simp, Below.refl _ _⟩)
  go_loopw [17] (fun i wr => ∃ k : Nat, k ≤ n ∧ i = .int .i64 (k : Int) ∧ Hid (EqfR w l m k wr)) (fun i _ => n - (intOf i).toNat)
  case atStart => exact ⟨0, by omega, rfl, R0⟩
  case round =>
    obtain ⟨k, hk, rfl, hR⟩ := hrel
    have HE := Lib.hid hR.out.1
    have HB := Lib.hid hR.out.2
    clear hR R0
    by_cases hlt : k < n
    · obtain ⟨b1, o1, rfl, hb1, hc1⟩ := L1.out.at_ (by omega)
      obtain ⟨b2, o2, rfl, hb2, hc2⟩ := L2.out.at_ (by omega)
      obtain ⟨q0, q1, A1, n1, c1, q2, hl1⟩ := hc1 k hlt
      obtain ⟨v0, v1, A2, n2, c2, v2, hl2⟩ := hc2 k hlt
      have r0 := (HB.out.cell (p := ⟨b1, o1 + k * 3, none⟩) hb1).trans q0
      have r1 := (HB.out.cell (p := ⟨b1, o1 + k * 3 + 1, none⟩) hb1).trans q1
      have r2 := (HB.out.cell (p := ⟨b1, o1 + k * 3 + 2, none⟩) hb1).trans q2
      have s0 := (HB.out.cell (p := ⟨b2, o2 + k * 3, none⟩) hb2).trans v0
      have s1 := (HB.out.cell (p := ⟨b2, o2 + k * 3 + 1, none⟩) hb2).trans v1
      have s2 := (HB.out.cell (p := ⟨b2, o2 + k * 3 + 2, none⟩) hb2).trans v2
      have hki : (k : Int) < (n : Int) := by omega
      have hk0 : (0 : Int) ≤ (k : Int) := by omega
      have t1 := Lib.hid (take_en l k (by rw [ll.out]; exact hlt))
      have t2 := Lib.hid (take_en m k (by rw [lm.out]; exact hlt))
      have HD := Lib.hid (show l.getD k en0 ≠ m.getD k en0 → l ≠ m from fun h e => h (by rw [e]))
      have hl1 := hl1.below HB.out
      have hl2 := hl2.below HB.out
      clear q0 q1 q2 v0 v1 v2 hc1 hc2
      generalize l.getD k en0 = x at *
      generalize m.getD k en0 = y at *
      obtain ⟨d1, z1, k1⟩ := x
      obtain ⟨d2, z2, k2⟩ := y
      simp only at r0 r1 r2 s0 s1 s2 hl1 hl2
      have h2 : Below wr.heap.size wr ((wr.alloc (.cells #[.int .i64 d1, .string ⟨z1.toArray⟩, .slice A1 n1 c1] 32)).alloc (.cells #[.int .i64 d2, .string ⟨z2.toArray⟩, .slice A2 n2 c2] 32)) := ((Below.refl _ wr).alloc (Nat.le_refl _) _).alloc (by simp) _
      have ce := same1_any d1 d2 z1 z2 A1 A2 n1 c1 n2 c2 k1 k2 _ (hl1.below h2) (hl2.below h2)
      unfold enV at ce
      have CE := Lib.hid ce
      have HB2 := Lib.hid (HB.out.trans (h2.mono HB.out.size))
      have s0' := (((Below.refl wr.heap.size wr).alloc (Nat.le_refl _) (.cells #[.int .i64 d1, .string ⟨z1.toArray⟩, .slice A1 n1 c1] 32)).cell (p := ⟨b2, o2 + k * 3, none⟩) (block_lt_of_cell s0)).trans s0
      have s1' := (((Below.refl wr.heap.size wr).alloc (Nat.le_refl _) (.cells #[.int .i64 d1, .string ⟨z1.toArray⟩, .slice A1 n1 c1] 32)).cell (p := ⟨b2, o2 + k * 3 + 1, none⟩) (block_lt_of_cell s1)).trans s1
      have s2' := (((Below.refl wr.heap.size wr).alloc (Nat.le_refl _) (.cells #[.int .i64 d1, .string ⟨z1.toArray⟩, .slice A1 n1 c1] 32)).cell (p := ⟨b2, o2 + k * 3 + 2, none⟩) (block_lt_of_cell s2)).trans s2
      have hsb := Lib.hid (show sameB (d1, z1, k1) (d2, z2, k2) = true ↔ (d1, z1, k1) = (d2, z2, k2) by unfold sameB; exact @decide_eq_true_iff _ _)
      generalize sameB (d1, z1, k1) (d2, z2, k2) = sb at *
      clear ce h2 hl1 hl2
      go_wp2_with fail
      refine CE.out.mono ?_
      rintro e w2 ⟨rfl, hb⟩
      have HB3 := Lib.hid (below_next HB2.out hb ⟨rfl, rfl, rfl, rfl⟩)
      clear hb CE
      cases sb
      · have hv := Lib.hid (show r = false by rw [← HR.out]; exact decide_eq_false (HD.out (fun e => by cases hsb.out.2 e)))
        go_wp2_with fail
        go_ret
        exact ⟨by rw [hv.out]; rfl, HB3.out⟩
      · have HE2 := Lib.hid (show l.take (k + 1) = m.take (k + 1) by rw [t1.out, t2.out, HE.out, hsb.out.1 rfl])
        go_wp2_with fail
        go_roundw
        case rel => exact ⟨k + 1, by omega, by go_num, Lib.hid ⟨HE2.out, HB3.out⟩⟩
        case measure => simp [intOf]; omega
    · have hkn : k = n := by omega
      subst hkn
      have hki : ¬ (k : Int) < (k : Int) := by omega
      have e := HE.out
      rw [List.take_of_length_le (by rw [ll.out]; exact Nat.le_refl _), List.take_of_length_le (by rw [lm.out]; exact Nat.le_refl _)] at e
      have hv := Lib.hid (show r = true by rw [← HR.out]; exact decide_eq_true e)
      clear e HE
      go_wp2_with fail
      go_ret
      exact ⟨by rw [hv.out]; rfl, HB.out⟩
set_option maxRecDepth 100000 in
set_option maxHeartbeats 1000000 in
theorem Same_any (A B : Option Addr) (n c p d : Nat) (l m : List En) (w : World) (hl : Ens w A n c l) (hm : Ens w B p d m) :
    Calls Tryz.prog 17 #[.slice A n c, .slice B p d] w (BoolPost (decide (l = m)) w) := by
  have CE := Lib.hid (EqualF_any A B n c p d l m w hl hm)
  generalize decide (l = m) = r at *
  clear hl hm
  go_enter Tryz.func17, Tryz.ntmps17
  go_wp2_with fail
  refine CE.out.mono ?_
  rintro e w2 ⟨rfl, hb⟩
  have HB := Lib.hid hb
  clear hb
  go_wp2_with fail
  go_ret
  exact ⟨rfl, HB.out⟩
end Go.Proofs.YtdnomfekblmnbaaGreatDoor

/- Rows of lines, entries, keys. -/
namespace Go.Proofs.YtdnomfekblmnbaaGreatDoor
open Go.RowKit Go.Maps Num

abbrev rowL : Row Ln := ⟨30, 45, .agg #[.string ⟨#[]⟩, .string ⟨#[]⟩, .string ⟨#[]⟩], 3, 48, LV⟩
theorem rowL_ok : rowL.Ok where
  hS := Tryz.underlying30
  info := by kernel_rfl
  zc := rfl
  k0 := by decide
  b1 := by decide
  hk _ := rfl
  h1 x v hv := by
    simp only [LV, List.mem_cons, List.not_mem_nil, or_false] at hv
    rcases hv with rfl | rfl | rfl <;> rfl
/-- an entry as it lies, and as it reads -/
abbrev Raw := Int × List UInt8 × Option Addr × Nat × Nat
abbrev RE := Raw × En
def rawA (r : Raw) : Option Addr := r.2.2.1
def rawN (r : Raw) : Nat := r.2.2.2.1
def rawC (r : Raw) : Nat := r.2.2.2.2
def encE (p : RE) : List Value := [.int .i64 p.1.1, .string ⟨p.1.2.1.toArray⟩, .slice (rawA p.1) (rawN p.1) (rawC p.1)]
abbrev rowE : Row RE := ⟨22, 32, .agg #[.int .i64 0, .string ⟨#[]⟩, .slice none 0 0], 3, 48, encE⟩
theorem rowE_ok : rowE.Ok where
  hS := Tryz.underlying22
  info := by kernel_rfl
  zc := rfl
  k0 := by decide
  b1 := by decide
  hk _ := rfl
  h1 x v hv := by
    simp only [encE, List.mem_cons, List.not_mem_nil, or_false] at hv
    rcases hv with rfl | rfl | rfl <;> rfl
def encK (q : Ky) : List Value := [.string ⟨q.1.toArray⟩, .string ⟨q.2.toArray⟩]
abbrev rowK : Row Ky := ⟨77, 75, .agg #[.string ⟨#[]⟩, .string ⟨#[]⟩], 2, 32, encK⟩
theorem rowK_ok : rowK.Ok where
  hS := Tryz.underlying77
  info := by kernel_rfl
  zc := rfl
  k0 := by decide
  b1 := by decide
  hk _ := rfl
  h1 x v hv := by
    simp only [encK, List.mem_cons, List.not_mem_nil, or_false] at hv
    rcases hv with rfl | rfl <;> rfl
/-! lines -/
theorem Lns.rds {w : World} {A : Option Addr} {n c : Nat} {l : List Ln} (h : Lns w A n c l) : rowL.Rds w A n c l :=
  ⟨h.len, h.cap, h.top, fun h0 => by
    obtain ⟨b, o, e, hlt, hc⟩ := h.at_ h0
    refine ⟨b, o, e, hlt, fun j u hu => ?_⟩
    have hj := (List.getElem?_eq_some_iff.1 hu).1
    rw [Row.vs_len rowL_ok, h.len] at hj
    have hj2 : j / 3 < n := by have : j < n * 3 := hj; omega
    have e1 := Row.vs_at rowL_ok ln0 l (j / 3) (j % 3) (by rw [h.len]; exact hj2) (by show j % 3 < 3; omega)
    rw [show j / 3 * rowL.k + j % 3 = j by show j / 3 * 3 + j % 3 = j; omega, hu] at e1
    obtain ⟨c0, c1, c2⟩ := hc (j / 3) hj2
    have h3 : j % 3 < 3 := by omega
    generalize hq : j % 3 = q at *
    rw [show o + j = o + j / 3 * 3 + q by omega]
    rcases q with _ | _ | _ | q
    · rw [Nat.add_zero, c0]; exact e1.symm
    · rw [c1]; exact e1.symm
    · rw [c2]; exact e1.symm
    · omega⟩
theorem Lns.of_rds {w : World} {A : Option Addr} {n c : Nat} {l : List Ln} (h : rowL.Rds w A n c l) (hn : n ≤ 1000) (hs : ∀ x ∈ l, Sml x) : Lns w A n c l :=
  ⟨h.len, h.cap, h.top, hn, hs, fun h0 => by
    obtain ⟨b, o, rfl, hlt, _⟩ := h.at_ h0
    exact ⟨b, o, rfl, hlt, fun k hk => ⟨h.cell rowL_ok ln0 k 0 _ hk rfl, h.cell rowL_ok ln0 k 1 _ hk rfl, h.cell rowL_ok ln0 k 2 _ hk rfl⟩⟩⟩
/-! entries -/
/-- what the entry reads as -/
def RdE (w : World) (p : RE) : Prop := p.1.1 = p.2.1 ∧ p.1.2.1 = p.2.2.1 ∧ Lns w (rawA p.1) (rawN p.1) (rawC p.1) p.2.2.2
theorem RdE.below {w w' : World} {p : RE} (h : RdE w p) (hb : Below w.heap.size w w') : RdE w' p := ⟨h.1, h.2.1, h.2.2.below hb⟩
def re0 : RE := ((0, [], none, 0, 0), en0)
/-- the slice reads as the entries -/
structure Res (w : World) (A : Option Addr) (n c : Nat) (ps : List RE) : Prop where
  rds : rowE.Rds w A n c ps
  all : ∀ p ∈ ps, RdE w p
theorem Res.below {w w' : World} {A : Option Addr} {n c : Nat} {ps : List RE} (h : Res w A n c ps) (hb : Below w.heap.size w w') : Res w' A n c ps :=
  ⟨h.rds.below hb, fun p hp => (h.all p hp).below hb⟩
theorem Ens.res {w : World} {A : Option Addr} {n c : Nat} {l : List En} (h : Ens w A n c l) : ∃ ps : List RE, ps.map Prod.snd = l ∧ Res w A n c ps := by
  by_cases h0 : 0 < n
  case neg =>
    have hl : l = [] := List.eq_nil_of_length_eq_zero (by rw [h.len]; omega)
    subst hl
    exact ⟨[], rfl, ⟨h.len, h.cap, h.top, fun hh => absurd hh h0⟩, fun p hp => by cases hp⟩
  obtain ⟨b, o, rfl, hlt, hc⟩ := h.at_ h0
  have hx : ∀ k, ∃ t : Option Addr × Nat × Nat, k < n → w.cell? ⟨b, o + k * 3 + 2, none⟩ = some (.slice t.1 t.2.1 t.2.2) ∧ Lns w t.1 t.2.1 t.2.2 (l.getD k en0).2.2 := by
    intro k
    by_cases hk : k < n
    · obtain ⟨_, _, A', n', c', c2, hl⟩ := hc k hk
      exact ⟨(A', n', c'), fun _ => ⟨c2, hl⟩⟩
    · exact ⟨(none, 0, 0), fun h => absurd h hk⟩
  obtain ⟨f, hf⟩ := Classical.axiomOfChoice hx
  have hlen := h.len
  refine ⟨(List.range n).map fun k => (((l.getD k en0).1, (l.getD k en0).2.1, f k), l.getD k en0), ?_, ⟨by simp, h.cap, h.top, fun _ => ⟨b, o, rfl, hlt, fun j u hu => ?_⟩⟩, fun p hp => ?_⟩
  · rw [List.map_map]
    refine List.ext_getElem (by simp [hlen]) fun k h1 h2 => ?_
    simp [h2]
  · have hj := (List.getElem?_eq_some_iff.1 hu).1
    rw [Row.vs_len rowE_ok, List.length_map, List.length_range] at hj
    have hj2 : j / 3 < n := by have : j < n * 3 := hj; omega
    have e1 := Row.vs_at rowE_ok re0 ((List.range n).map fun k => (((l.getD k en0).1, (l.getD k en0).2.1, f k), l.getD k en0)) (j / 3) (j % 3) (by simpa using hj2) (by show j % 3 < 3; omega)
    rw [show j / 3 * rowE.k + j % 3 = j by show j / 3 * 3 + j % 3 = j; omega, hu] at e1
    have e2 : ((List.range n).map fun k => (((l.getD k en0).1, (l.getD k en0).2.1, f k), l.getD k en0)).getD (j / 3) re0 = (((l.getD (j / 3) en0).1, (l.getD (j / 3) en0).2.1, f (j / 3)), l.getD (j / 3) en0) := by
      rw [List.getD_eq_getElem?_getD, List.getElem?_map, List.getElem?_range hj2]; rfl
    rw [e2] at e1
    obtain ⟨c0, c1, _⟩ := hc (j / 3) hj2
    have c2 := (hf (j / 3) hj2).1
    have h3 : j % 3 < 3 := by omega
    generalize hq : j % 3 = q at *
    rw [show o + j = o + j / 3 * 3 + q by omega]
    rcases q with _ | _ | _ | q
    · rw [Nat.add_zero, c0]; exact e1.symm
    · rw [c1]; exact e1.symm
    · rw [c2]; exact e1.symm
    · omega
  · obtain ⟨k, hk, rfl⟩ := List.mem_map.1 hp
    exact ⟨rfl, rfl, (hf k (List.mem_range.1 hk)).2⟩
theorem Res.ens {w : World} {A : Option Addr} {n c : Nat} {ps : List RE} (h : Res w A n c ps) (hn : n ≤ 1000) : Ens w A n c (ps.map Prod.snd) :=
  ⟨by rw [List.length_map]; exact h.rds.len, h.rds.cap, h.rds.top, hn, fun h0 => by
    obtain ⟨b, o, rfl, hlt, _⟩ := h.rds.at_ h0
    refine ⟨b, o, rfl, hlt, fun k hk => ?_⟩
    have hk2 : k < ps.length := by rw [h.rds.len]; exact hk
    have e : (ps.map Prod.snd).getD k en0 = (ps.getD k re0).2 := by
      rw [List.getD_eq_getElem?_getD, List.getElem?_map, List.getD_eq_getElem?_getD, List.getElem?_eq_getElem hk2]; rfl
    have hm : ps.getD k re0 ∈ ps := by
      rw [List.getD_eq_getElem?_getD, List.getElem?_eq_getElem hk2]
      exact List.getElem_mem hk2
    obtain ⟨r1, r2, r3⟩ := h.all _ hm
    have c0 := h.rds.cell rowE_ok re0 k 0 _ hk rfl
    have c1 := h.rds.cell rowE_ok re0 k 1 _ hk rfl
    have c2 := h.rds.cell rowE_ok re0 k 2 _ hk rfl
    rw [e, ← r1, ← r2]
    exact ⟨c0, c1, _, _, _, c2, r3⟩⟩
theorem rds_cells3 {w : World} {b o n c : Nat} {ps : List RE} (h : rowE.Rds w (some ⟨b, o, none⟩) n c ps) (k : Nat) (hk : k < n) :
    w.cell? ⟨b, o + k * 3, none⟩ = some (.int .i64 (ps.getD k re0).1.1) ∧ w.cell? ⟨b, o + k * 3 + 1, none⟩ = some (.string ⟨(ps.getD k re0).1.2.1.toArray⟩) ∧ w.cell? ⟨b, o + k * 3 + 2, none⟩ = some (.slice (ps.getD k re0).1.2.2.1 (ps.getD k re0).1.2.2.2.1 (ps.getD k re0).1.2.2.2.2) :=
  ⟨h.cell rowE_ok re0 k 0 _ hk rfl, h.cell rowE_ok re0 k 1 _ hk rfl, h.cell rowE_ok re0 k 2 _ hk rfl⟩
theorem own_cells3 {w : World} {B g n cap : Nat} {ps : List RE} (h : rowE.Own B w (.slice (some ⟨g, 0, none⟩) n cap) ps) (k : Nat) (hk : k < n) :
    w.cell? ⟨g, k * 3, none⟩ = some (.int .i64 (ps.getD k re0).1.1) ∧ w.cell? ⟨g, k * 3 + 1, none⟩ = some (.string ⟨(ps.getD k re0).1.2.1.toArray⟩) ∧ w.cell? ⟨g, k * 3 + 2, none⟩ = some (.slice (ps.getD k re0).1.2.2.1 (ps.getD k re0).1.2.2.2.1 (ps.getD k re0).1.2.2.2.2) := by
  obtain ⟨A, c, e, hr⟩ := h.rds
  injection e with e1 e2 e3
  subst e1 e2 e3
  have := rds_cells3 hr k hk
  simpa only [Nat.zero_add] using this
theorem own_len {w : World} {B g n cap : Nat} {ps : List RE} (h : rowE.Own B w (.slice (some ⟨g, 0, none⟩) n cap) ps) : ps.length = n := by
  obtain ⟨A, c, e, hr⟩ := h.rds
  injection e with e1 e2 e3
  exact e2.symm
end Go.Proofs.YtdnomfekblmnbaaGreatDoor

/- Contracts of slices.Grow at nil and slices.Concat of two slices, at lines and at entries (printed by gen_conc.py). -/
namespace Go.Proofs.YtdnomfekblmnbaaGreatDoor
open Go.RowKit Go.Maps Num

def RetOwn {α : Type} (R : Row α) (l : List α) (w : World) (e : Ending) (w' : World) : Prop := ∃ v, e = .returned v ∧ R.Own w.heap.size w' v l ∧ Below w.heap.size w w'
def szTo (n m : Nat) : Nat → Nat | 0 => 0 | 1 => n | _ => n + m
def catTo {α : Type} (l r : List α) : Nat → List α | 0 => [] | 1 => l | _ => l ++ r
theorem two_at {α : Type} {R : Row α} {w : World} {g : Nat} {A B : Option Addr} {n c m d : Nat} {l r : List α} (c0 : w.cell? ⟨g, 0, none⟩ = some (.slice A n c)) (c1 : w.cell? ⟨g, 1, none⟩ = some (.slice B m d)) (h : R.Rds w A n c l) (k : R.Rds w B m d r) (j : Nat) (hj : j < 2) (hn : n ≤ 1000) (hm : m ≤ 1000) :
    ∃ (C : Option Addr) (q e : Nat) (z : List α), w.cell? ⟨g, j, none⟩ = some (.slice C q e) ∧ R.Rds w C q e z ∧ q ≤ 1000 ∧ szTo n m (j + 1) = szTo n m j + q ∧ catTo l r (j + 1) = catTo l r j ++ z := by
  rcases j with _ | _ | j
  · exact ⟨A, n, c, l, c0, h, hn, by simp [szTo], by simp [catTo]⟩
  · exact ⟨B, m, d, r, c1, k, hm, rfl, rfl⟩
  · omega
theorem catTo_len {α : Type} {R : Row α} {w : World} {A B : Option Addr} {n c m d : Nat} {l r : List α} (h : R.Rds w A n c l) (k : R.Rds w B m d r) (j : Nat) : (catTo l r j).length = szTo n m j := by
  rcases j with _ | _ | j
  · rfl
  · exact h.len
  · simp [catTo, szTo, h.len, k.len]
theorem szTo_le (n m j : Nat) (hn : n ≤ 1000) (hm : m ≤ 1000) : szTo n m j ≤ 2000 := by
  rcases j with _ | _ | j
  · exact Nat.zero_le _
  · show n ≤ _; omega
  · show n + m ≤ _; omega
theorem own_below {α : Type} {R : Row α} {B : Nat} {w W W' : World} {v : Value} {l : List α} (h : R.Own B W v l) (hb : Below w.heap.size w W) (hB : w.heap.size ≤ B) (hg : W.grownBy W' v.ownBlock) : Below w.heap.size w W' :=
  below_own hb (Nat.le_refl _) hg fun k hk => Nat.le_trans hB (h.own k hk).1

theorem grow_noneL (w : World) : Calls Tryz.prog 72 #[.slice none 0 0, .int .i64 0] w (RetOwn rowL [] w) := by
  go_enter Tryz.func72, Tryz.ntmps72
  go_wp2
  go_ret
  exact ⟨_, rfl, Row.Own.nil _ _, Below.refl _ _⟩
set_option maxRecDepth 100000 in
theorem grow_anyL (n : Nat) (w : World) (h0 : 0 < n) (hn : n ≤ 100000) : Calls Tryz.prog 72 #[.slice none 0 0, .int .i64 (n : Int)] w (RetOwn rowL [] w) := by
  obtain ⟨i0, hi, hz0, hz1, hz2⟩ := info_parts rowL_ok.info
  have hz1 : i0.size = 3 := hz1
  have hz2 : i0.bytes = 48 := hz2
  have hr := fun ty => Lib.run_append_nil_zeros (P := Tryz.prog) w 30 3 ty 45 i0 (.agg #[.string ⟨#[]⟩, .string ⟨#[]⟩, .string ⟨#[]⟩]) .i64 .i64 Tryz.underlying30 Tryz.underlying3 hi hz0 n h0 (by omega) (by omega) (by rw [hz2]; omega)
  have hge := grownCap_ge w n 0 45
  have hmx := grownCap_le_maxLen w n 0 45 (by unfold maxLen; omega)
  have hsz : (Builtin.zeroCells (Value.cells (.agg #[.string ⟨#[]⟩, .string ⟨#[]⟩, .string ⟨#[]⟩])) n ++ Builtin.zeroCells (Value.cells (.agg #[.string ⟨#[]⟩, .string ⟨#[]⟩, .string ⟨#[]⟩])) (grownCap w n 0 45 - n)).size = grownCap w n 0 45 * 3 := by
    simp [Builtin.zeroCells, Value.cells]; omega
  generalize grownCap w n 0 45 = cap at *
  generalize Builtin.zeroCells (Value.cells (.agg #[.string ⟨#[]⟩, .string ⟨#[]⟩, .string ⟨#[]⟩])) n ++ Builtin.zeroCells (Value.cells (.agg #[.string ⟨#[]⟩, .string ⟨#[]⟩, .string ⟨#[]⟩])) (cap - n) = cs at *
  have HR := Lib.hid hr
  have HS := Lib.hid hsz
  clear hr hsz
  have hc0 : (0 : Int) ≤ (cap : Int) := by omega
  go_enter Tryz.func72, Tryz.ntmps72
  go_wp2_with (at_builtin; go_must (refine Lib.wpList_append_run w rfl (.tmp 20) (.tmp 21) 30 3 rfl _ _ rfl rfl _ _ (HR.out _) ?_))
  go_ret
  refine ⟨_, rfl, ⟨by simp [Row.vs], .inr ⟨w.heap.size, cap, cs, rfl, Nat.le_refl _, ?_, by simp, hmx, by rw [HS.out], by simp [Row.vs]⟩⟩, ?_⟩
  · exact heap_alloc_new _ _
  · exact (Below.refl _ _).drew.alloc (Nat.le_refl _) _
set_option maxHeartbeats 1000000 in
set_option maxRecDepth 100000 in
theorem concat_anyL (g : Nat) (A B : Option Addr) (n c m d : Nat) (l r : List Ln) (w : World) (hgl : g < w.heap.size) (c0 : w.cell? ⟨g, 0, none⟩ = some (.slice A n c)) (c1 : w.cell? ⟨g, 1, none⟩ = some (.slice B m d)) (h : rowL.Rds w A n c l) (k : rowL.Rds w B m d r) (hn : n ≤ 1000) (hm : m ≤ 1000) :
    Calls Tryz.prog 28 #[.slice (some ⟨g, 0, none⟩) 2 2] w (RetOwn rowL (l ++ r) w) := by
  have C0 := Lib.hid c0
  have C1 := Lib.hid c1
  have H1 := Lib.hid h
  have H2 := Lib.hid k
  clear c0 c1 h k
  go_enter Tryz.func28, Tryz.ntmps28
  go_wp2_with fail
  go_loop [3, 11] (fun t i => ∃ (j u : Nat), j ≤ 2 ∧ i = .int .i64 (j : Int) ∧ t = .int .i64 (u : Int) ∧ Hid (u = szTo n m j) ∧ u ≤ 2000) (fun _ i => 2 - (intOf i).toNat)
  case atStart => exact ⟨0, 0, by omega, rfl, rfl, rfl, by omega⟩
  case round =>
    obtain ⟨j, u, hj, rfl, rfl, HU, hu⟩ := hrel
    by_cases hlt : j < 2
    · obtain ⟨C, q, e, z, hcell, hs, hq, hsz, _⟩ := two_at C0.out C1.out H1.out H2.out j hlt hn hm
      have hji : (j : Int) < 2 := by omega
      have HZ := Lib.hid hsz
      have hd : decide ((u : Int) + (q : Int) < 0) = false := by simp; omega
      clear hsz hs
      go_wp2_with fail
      go_round
      case rel =>
        refine ⟨j + 1, u + q, by omega, by go_num, by go_num, ?_, ?_⟩
        · show _ = _
          rw [HZ.out, HU.out]
        · have := szTo_le n m (j + 1) hn hm
          rw [HZ.out, ← HU.out] at this
          exact this
      case measure => simp [intOf]; omega
    · have hd : decide ((j : Int) < 2) = false := by simp; omega
      have h2 : j = 2 := by omega
      have hu2 : u = n + m := by rw [HU.out, h2]; rfl
      have hgrow : Calls Tryz.prog 72 #[.slice none 0 0, .int .i64 (u : Int)] w (RetOwn rowL [] w) := by
        rcases Nat.eq_zero_or_pos u with h0 | h0
        · subst h0; exact grow_noneL w
        · exact grow_anyL u w h0 (by omega)
      have HG := Lib.hid hgrow
      clear hgrow h2 hu2
      go_wp2_with fail
      refine HG.out.mono ?_
      rintro e w1 ⟨v1, rfl, ho1, hb1⟩
      go_wp2_with fail
      go_loopw [6, 27] (fun v i wr => ∃ (j : Nat), j ≤ 2 ∧ i = .int .i64 (j : Int) ∧ rowL.Own w.heap.size wr v (catTo l r j) ∧ Below w.heap.size w wr) (fun _ i _ => 2 - (intOf i).toNat)
      case atStart => exact ⟨0, by omega, rfl, ho1, hb1⟩
      case round =>
        obtain ⟨j2, hj2, rfl, hown, hbw⟩ := hrel
        by_cases hlt2 : j2 < 2
        · obtain ⟨C, q, e, z, hcell, hs, hq, _, hcat⟩ := two_at (w := wr) (by rw [hbw.cell (by simpa using hgl)]; exact C0.out) (by rw [hbw.cell (by simpa using hgl)]; exact C1.out) (H1.out.below hbw) (H2.out.below hbw) j2 hlt2 hn hm
          have hji : (j2 : Int) < 2 := by omega
          have hd2 : decide ((j2 : Int) < 2) = true := by simp; omega
          have hcl := catTo_len H1.out H2.out j2
          have hsl := szTo_le n m j2 hn hm
          have HC := Lib.hid (And.intro hcat hcl)
          have HBW := Lib.hid hbw
          have HO := Lib.hid hown
          have HS := Lib.hid hs
          clear hcat hcl hbw hown hs
          go_wp2_with (at_builtin; go_must (refine Row.wp_append rowL_ok rfl (.tmp 31) (.tmp 32) rfl w.heap.size _ (catTo l r j2) wr C q e z rfl HO.out rfl HS.out HBW.out.size (by rw [HC.out.2]; omega) ?_); intro v' w5 hown' hg' _)
          have HB5 := Lib.hid (own_below HO.out HBW.out (Nat.le_refl _) hg')
          clear hg'
          go_wp2_with fail
          go_roundw
          case rel => exact ⟨j2 + 1, by omega, by go_num, by rw [HC.out.1]; exact hown', HB5.out⟩
          case measure => simp [intOf]; omega
        · have hd : decide ((j2 : Int) < 2) = false := by simp; omega
          have HO := Lib.hid hown
          have HBW := Lib.hid hbw
          clear hown hbw
          go_wp2_with fail
          go_ret
          refine ⟨_, rfl, ?_, HBW.out⟩
          obtain rfl : j2 = 2 := by omega
          exact HO.out
theorem grow_noneE (w : World) : Calls Tryz.prog 75 #[.slice none 0 0, .int .i64 0] w (RetOwn rowE [] w) := by
  go_enter Tryz.func75, Tryz.ntmps75
  go_wp2
  go_ret
  exact ⟨_, rfl, Row.Own.nil _ _, Below.refl _ _⟩
set_option maxRecDepth 100000 in
theorem grow_anyE (n : Nat) (w : World) (h0 : 0 < n) (hn : n ≤ 100000) : Calls Tryz.prog 75 #[.slice none 0 0, .int .i64 (n : Int)] w (RetOwn rowE [] w) := by
  obtain ⟨i0, hi, hz0, hz1, hz2⟩ := info_parts rowE_ok.info
  have hz1 : i0.size = 3 := hz1
  have hz2 : i0.bytes = 48 := hz2
  have hr := fun ty => Lib.run_append_nil_zeros (P := Tryz.prog) w 22 3 ty 32 i0 (.agg #[.int .i64 0, .string ⟨#[]⟩, .slice none 0 0]) .i64 .i64 Tryz.underlying22 Tryz.underlying3 hi hz0 n h0 (by omega) (by omega) (by rw [hz2]; omega)
  have hge := grownCap_ge w n 0 32
  have hmx := grownCap_le_maxLen w n 0 32 (by unfold maxLen; omega)
  have hsz : (Builtin.zeroCells (Value.cells (.agg #[.int .i64 0, .string ⟨#[]⟩, .slice none 0 0])) n ++ Builtin.zeroCells (Value.cells (.agg #[.int .i64 0, .string ⟨#[]⟩, .slice none 0 0])) (grownCap w n 0 32 - n)).size = grownCap w n 0 32 * 3 := by
    simp [Builtin.zeroCells, Value.cells]; omega
  generalize grownCap w n 0 32 = cap at *
  generalize Builtin.zeroCells (Value.cells (.agg #[.int .i64 0, .string ⟨#[]⟩, .slice none 0 0])) n ++ Builtin.zeroCells (Value.cells (.agg #[.int .i64 0, .string ⟨#[]⟩, .slice none 0 0])) (cap - n) = cs at *
  have HR := Lib.hid hr
  have HS := Lib.hid hsz
  clear hr hsz
  have hc0 : (0 : Int) ≤ (cap : Int) := by omega
  go_enter Tryz.func75, Tryz.ntmps75
  go_wp2_with (at_builtin; go_must (refine Lib.wpList_append_run w rfl (.tmp 20) (.tmp 21) 22 3 rfl _ _ rfl rfl _ _ (HR.out _) ?_))
  go_ret
  refine ⟨_, rfl, ⟨by simp [Row.vs], .inr ⟨w.heap.size, cap, cs, rfl, Nat.le_refl _, ?_, by simp, hmx, by rw [HS.out], by simp [Row.vs]⟩⟩, ?_⟩
  · exact heap_alloc_new _ _
  · exact (Below.refl _ _).drew.alloc (Nat.le_refl _) _
set_option maxHeartbeats 1000000 in
set_option maxRecDepth 100000 in
theorem concat_anyE (g : Nat) (A B : Option Addr) (n c m d : Nat) (l r : List RE) (w : World) (hgl : g < w.heap.size) (c0 : w.cell? ⟨g, 0, none⟩ = some (.slice A n c)) (c1 : w.cell? ⟨g, 1, none⟩ = some (.slice B m d)) (h : rowE.Rds w A n c l) (k : rowE.Rds w B m d r) (hn : n ≤ 1000) (hm : m ≤ 1000) :
    Calls Tryz.prog 30 #[.slice (some ⟨g, 0, none⟩) 2 2] w (RetOwn rowE (l ++ r) w) := by
  have C0 := Lib.hid c0
  have C1 := Lib.hid c1
  have H1 := Lib.hid h
  have H2 := Lib.hid k
  clear c0 c1 h k
  go_enter Tryz.func30, Tryz.ntmps30
  go_wp2_with fail
  go_loop [3, 11] (fun t i => ∃ (j u : Nat), j ≤ 2 ∧ i = .int .i64 (j : Int) ∧ t = .int .i64 (u : Int) ∧ Hid (u = szTo n m j) ∧ u ≤ 2000) (fun _ i => 2 - (intOf i).toNat)
  case atStart => exact ⟨0, 0, by omega, rfl, rfl, rfl, by omega⟩
  case round =>
    obtain ⟨j, u, hj, rfl, rfl, HU, hu⟩ := hrel
    by_cases hlt : j < 2
    · obtain ⟨C, q, e, z, hcell, hs, hq, hsz, _⟩ := two_at C0.out C1.out H1.out H2.out j hlt hn hm
      have hji : (j : Int) < 2 := by omega
      have HZ := Lib.hid hsz
      have hd : decide ((u : Int) + (q : Int) < 0) = false := by simp; omega
      clear hsz hs
      go_wp2_with fail
      go_round
      case rel =>
        refine ⟨j + 1, u + q, by omega, by go_num, by go_num, ?_, ?_⟩
        · show _ = _
          rw [HZ.out, HU.out]
        · have := szTo_le n m (j + 1) hn hm
          rw [HZ.out, ← HU.out] at this
          exact this
      case measure => simp [intOf]; omega
    · have hd : decide ((j : Int) < 2) = false := by simp; omega
      have h2 : j = 2 := by omega
      have hu2 : u = n + m := by rw [HU.out, h2]; rfl
      have hgrow : Calls Tryz.prog 75 #[.slice none 0 0, .int .i64 (u : Int)] w (RetOwn rowE [] w) := by
        rcases Nat.eq_zero_or_pos u with h0 | h0
        · subst h0; exact grow_noneE w
        · exact grow_anyE u w h0 (by omega)
      have HG := Lib.hid hgrow
      clear hgrow h2 hu2
      go_wp2_with fail
      refine HG.out.mono ?_
      rintro e w1 ⟨v1, rfl, ho1, hb1⟩
      go_wp2_with fail
      go_loopw [6, 27] (fun v i wr => ∃ (j : Nat), j ≤ 2 ∧ i = .int .i64 (j : Int) ∧ rowE.Own w.heap.size wr v (catTo l r j) ∧ Below w.heap.size w wr) (fun _ i _ => 2 - (intOf i).toNat)
      case atStart => exact ⟨0, by omega, rfl, ho1, hb1⟩
      case round =>
        obtain ⟨j2, hj2, rfl, hown, hbw⟩ := hrel
        by_cases hlt2 : j2 < 2
        · obtain ⟨C, q, e, z, hcell, hs, hq, _, hcat⟩ := two_at (w := wr) (by rw [hbw.cell (by simpa using hgl)]; exact C0.out) (by rw [hbw.cell (by simpa using hgl)]; exact C1.out) (H1.out.below hbw) (H2.out.below hbw) j2 hlt2 hn hm
          have hji : (j2 : Int) < 2 := by omega
          have hd2 : decide ((j2 : Int) < 2) = true := by simp; omega
          have hcl := catTo_len H1.out H2.out j2
          have hsl := szTo_le n m j2 hn hm
          have HC := Lib.hid (And.intro hcat hcl)
          have HBW := Lib.hid hbw
          have HO := Lib.hid hown
          have HS := Lib.hid hs
          clear hcat hcl hbw hown hs
          go_wp2_with (at_builtin; go_must (refine Row.wp_append rowE_ok rfl (.tmp 31) (.tmp 32) rfl w.heap.size _ (catTo l r j2) wr C q e z rfl HO.out rfl HS.out HBW.out.size (by rw [HC.out.2]; omega) ?_); intro v' w5 hown' hg' _)
          have HB5 := Lib.hid (own_below HO.out HBW.out (Nat.le_refl _) hg')
          clear hg'
          go_wp2_with fail
          go_roundw
          case rel => exact ⟨j2 + 1, by omega, by go_num, by rw [HC.out.1]; exact hown', HB5.out⟩
          case measure => simp [intOf]; omega
        · have hd : decide ((j2 : Int) < 2) = false := by simp; omega
          have HO := Lib.hid hown
          have HBW := Lib.hid hbw
          clear hown hbw
          go_wp2_with fail
          go_ret
          refine ⟨_, rfl, ?_, HBW.out⟩
          obtain rfl : j2 = 2 := by omega
          exact HO.out
end Go.Proofs.YtdnomfekblmnbaaGreatDoor
