/- What the walks of the laws share: boxes with entries, returned entries, slices of one entry. -/
import Derived.Test.YtdnomfekblmnbaaGreatDoorQ7
import Derived.Test.YtdnomfekblmnbaaGreatDoorQ9
import Derived.Test.YtdnomfekblmnbaaGreatDoorQ8
import Derived.Test.YtdnomfekblmnbaaGreatDoorQ10
import Derived.Test.YtdnomfekblmnbaaGreatDoorQ5
import Derived.WalkLawsBesides
import Derived.Deep.DeepCutAuto
namespace Go.Proofs.YtdnomfekblmnbaaGreatDoor
open Go.RowKit Go.Maps Num

/-- a box with an entry in it -/
structure Bx (W : World) (b : Nat) (d : Int) (s : List UInt8) (A : Option Addr) (n c : Nat) (l : List Ln) : Prop where
  c0 : W.cell? ⟨b, 0, none⟩ = some (.int .i64 d)
  c1 : W.cell? ⟨b, 1, none⟩ = some (.string ⟨s.toArray⟩)
  c2 : W.cell? ⟨b, 2, none⟩ = some (.slice A n c)
  lns : Lns W A n c l
theorem Bx.lt {W : World} {b : Nat} {d : Int} {s : List UInt8} {A : Option Addr} {n c : Nat} {l : List Ln} (h : Bx W b d s A n c l) : b < W.heap.size := block_lt_of_cell h.c0
theorem Bx.below {W W' : World} {b : Nat} {d : Int} {s : List UInt8} {A : Option Addr} {n c : Nat} {l : List Ln} (h : Bx W b d s A n c l) (hb : Below W.heap.size W W') : Bx W' b d s A n c l :=
  ⟨(hb.cell (p := ⟨b, 0, none⟩) h.lt).trans h.c0, (hb.cell (p := ⟨b, 1, none⟩) h.lt).trans h.c1, (hb.cell (p := ⟨b, 2, none⟩) h.lt).trans h.c2, h.lns.below hb⟩
theorem Bx.new {W : World} {d : Int} {s : List UInt8} {A : Option Addr} {n c : Nat} {l : List Ln} (h : Lns W A n c l) : Bx (W.alloc (.cells #[.int .i64 d, .string ⟨s.toArray⟩, .slice A n c] 32)) W.heap.size d s A n c l := by
  obtain ⟨⟨c0, c1, c2⟩, _⟩ := cells3 (heap_alloc_new W (.cells #[.int .i64 d, .string ⟨s.toArray⟩, .slice A n c] 32))
  exact ⟨c0, c1, c2, h.below ((Below.refl _ _).alloc (Nat.le_refl _) _)⟩
theorem Bx.al {W : World} {b : Nat} {d : Int} {s : List UInt8} {A : Option Addr} {n c : Nat} {l : List Ln} (h : Bx W b d s A n c l) (o : Obj) : Bx (W.alloc o) b d s A n c l := h.below (Below.al (Below.refl _ _) o)
/-- the like, of any lines -/
structure BxR (W : World) (b : Nat) (d : Int) (s : List UInt8) (A : Option Addr) (n c : Nat) : Prop where
  c0 : W.cell? ⟨b, 0, none⟩ = some (.int .i64 d)
  c1 : W.cell? ⟨b, 1, none⟩ = some (.string ⟨s.toArray⟩)
  c2 : W.cell? ⟨b, 2, none⟩ = some (.slice A n c)
theorem BxR.lt {W : World} {b : Nat} {d : Int} {s : List UInt8} {A : Option Addr} {n c : Nat} (h : BxR W b d s A n c) : b < W.heap.size := block_lt_of_cell h.c0
theorem BxR.below {W W' : World} {b : Nat} {d : Int} {s : List UInt8} {A : Option Addr} {n c : Nat} (h : BxR W b d s A n c) (hb : Below W.heap.size W W') : BxR W' b d s A n c :=
  ⟨(hb.cell (p := ⟨b, 0, none⟩) h.lt).trans h.c0, (hb.cell (p := ⟨b, 1, none⟩) h.lt).trans h.c1, (hb.cell (p := ⟨b, 2, none⟩) h.lt).trans h.c2⟩
theorem BxR.new (W : World) (d : Int) (s : List UInt8) (A : Option Addr) (n c : Nat) : BxR (W.alloc (.cells #[.int .i64 d, .string ⟨s.toArray⟩, .slice A n c] 32)) W.heap.size d s A n c := by
  obtain ⟨⟨c0, c1, c2⟩, _⟩ := cells3 (heap_alloc_new W (.cells #[.int .i64 d, .string ⟨s.toArray⟩, .slice A n c] 32))
  exact ⟨c0, c1, c2⟩
theorem BxR.al {W : World} {b : Nat} {d : Int} {s : List UInt8} {A : Option Addr} {n c : Nat} (h : BxR W b d s A n c) (o : Obj) : BxR (W.alloc o) b d s A n c := h.below (Below.al (Below.refl _ _) o)
theorem zblk {W w' : World} {b : Nat} {cs : Array Value} {t : TypeId} (hb : Below W.heap.size W w') (h : W.heap[b]? = some (.cells cs t)) : w'.heap[b]? = some (.cells cs t) := (hb.block b (block_lt_of_row h)).trans h
theorem zA (w : World) (o1 o2 : Obj) : ((w.alloc o1).alloc o2).heap[w.heap.size]? = some o1 := by
  rw [heap_alloc_old _ _ (by simp)]; exact heap_alloc_new w o1
theorem zB (w : World) (o1 o2 : Obj) : ((w.alloc o1).alloc o2).heap[w.heap.size + 1]? = some o2 := by
  have h := heap_alloc_new (w.alloc o1) o2
  rwa [show (w.alloc o1).heap.size = w.heap.size + 1 by simp] at h
theorem own_set3 {α : Type} {R : Row α} {B : Nat} {w : World} {v : Value} {l : List α} (h : R.Own B w v l) {b : Nat} (hb : b < B) (p q u : Value) : R.Own B (((w.setCell ⟨b, 0, none⟩ p).setCell ⟨b, 1, none⟩ q).setCell ⟨b, 2, none⟩ u) v l :=
  have hr : ∀ k, some b = some k → k < B := fun k e => by have := Option.some.inj e; omega
  ((h.kept (grown_setCell w ⟨b, 0, none⟩ p) hr).kept (grown_setCell _ ⟨b, 1, none⟩ q) hr).kept (grown_setCell _ ⟨b, 2, none⟩ u) hr
theorem own_lns {B n c : Nat} {w : World} {A : Option Addr} {l : List Ln} (h : rowL.Own B w (.slice A n c) l) (hn : n ≤ 1000) (hs : ∀ x ∈ l, Sml x) : Lns w A n c l := by
  obtain ⟨A', c', e, hr⟩ := h.rds
  injection e with e1 e2 e3
  subst e1 e3
  rw [← e2] at hr
  exact Lns.of_rds hr hn hs
theorem below_set1 {B b : Nat} {w W : World} (h : Below B w W) (hB : B ≤ w.heap.size) (hb : B ≤ b) (i : Nat) (v : Value) : Below B w (W.setCell ⟨b, i, none⟩ v) := below_grown h hB (grown_setCell W ⟨b, i, none⟩ v) hb
theorem below_al2 {B : Nat} {w W : World} (h : Below B w W) (hB : w.heap.size = B) (o : Obj) : Below B w (W.alloc o) := h.alloc (by have := h.size; omega) o
theorem below_set2 {B b : Nat} {w W : World} (h : Below B w W) (hB : w.heap.size = B) (hb : B ≤ b) (i : Nat) (v : Value) : Below B w (W.setCell ⟨b, i, none⟩ v) := below_set1 h (by omega) hb i v
/-- the first line of a slice of the call's own -/
theorem own_head {B g n k : Nat} {w : World} {x : Ln} {r : List Ln} (h : rowL.Own B w (.slice (some ⟨g, 0, none⟩) n k) (x :: r)) (hn : 0 < n) :
    w.cell? ⟨g, 0, none⟩ = some (.string ⟨x.1.toArray⟩) ∧ w.cell? ⟨g, 1, none⟩ = some (.string ⟨x.2.1.toArray⟩) ∧ w.cell? ⟨g, 2, none⟩ = some (.string ⟨x.2.2.toArray⟩) ∧ g < w.heap.size ∧ B ≤ g ∧ w.frozen? ⟨g, 2, none⟩ = false ∧ (x :: r).length = n := by
  have hf := Row.Own.frz h 2
  have ho := h.own g rfl
  obtain ⟨A, c, e, hr⟩ := h.rds
  injection e with e1 e2 e3
  subst e1 e3
  rw [← e2] at hr
  have c0 := hr.cell rowL_ok ln0 0 0 _ hn rfl
  have c1 := hr.cell rowL_ok ln0 0 1 _ hn rfl
  have c2 := hr.cell rowL_ok ln0 0 2 _ hn rfl
  exact ⟨c0, c1, c2, ho.2, ho.1, hf, e2.symm⟩
theorem below_ahead2 {B : Nat} {w W w' : World} (h : Below B w W) (hB : w.heap.size = B) (hb : Below W.heap.size W w') : Below B w w' := h.trans (hb.mono (by have := h.size; omega))
/-- the first line's amount is written -/
theorem own_set_amt {B g n k : Nat} {w : World} {a cu am : List UInt8} {r : List Ln} (h : rowL.Own B w (.slice (some ⟨g, 0, none⟩) n k) ((a, cu, am) :: r)) (nm : List UInt8) : rowL.Own B (w.setCell ⟨g, 2, none⟩ (.string ⟨nm.toArray⟩)) (.slice (some ⟨g, 0, none⟩) n k) ((a, cu, nm) :: r) := by
  have hn : n = ((a, cu, am) :: r).length := by
    rcases h.2 with ⟨e, _⟩ | ⟨g', cap', cur, e, _⟩
    · cases e
    · injection e
  subst hn
  have h' : w.ownsRow B 45 3 (.slice (some ⟨g, 0, none⟩) ((a, cu, am) :: r).length k) ((a, cu, am) :: r).length (rowL.vs ((a, cu, am) :: r)) := h
  exact (h'.stored 2 (.string ⟨nm.toArray⟩)).1
/-- a slice of one entry -/
theorem ens1d {W : World} {b : Nat} {d : Int} {s : List UInt8} {A : Option Addr} {n c : Nat} {l : List Ln} (c0 : W.cell? ⟨b, 0, none⟩ = some (.int .i64 d)) (c1 : W.cell? ⟨b, 1, none⟩ = some (.string ⟨s.toArray⟩)) (c2 : W.cell? ⟨b, 2, none⟩ = some (.slice A n c)) (hl : Lns W A n c l) : Ens W (some ⟨b, 0, none⟩) 1 1 [(d, s, l)] := by
  refine Res.ens (ps := [((d, s, A, n, c), (d, s, l))]) ⟨rds_cells [((d, s, A, n, c), (d, s, l))] (block_lt_of_cell c0) ?_ (by show 1 ≤ maxLen; decide), ?_⟩ (by decide)
  · intro j u hu
    rcases j with _ | _ | _ | j
    · exact c0.trans hu
    · exact c1.trans hu
    · exact c2.trans hu
    · cases hu
  · intro p hp
    rw [List.mem_singleton.1 hp]
    exact ⟨rfl, rfl, hl⟩
/-- an entry and a code, returned -/
def EnQ (d : Int) (s : List UInt8) (l : List Ln) (i : Int) (w : World) (e : Ending) (w' : World) : Prop :=
  ∃ A n c, e = .returned (.tuple #[.agg #[.int .i64 d, .string ⟨s.toArray⟩, .slice A n c], .int .i64 i]) ∧ Lns w' A n c l ∧ Below w.heap.size w w'
theorem nrm_enq {d : Int} {c : List UInt8} {l : List Ln} {w w' : World} {e : Ending} (h : NrmPost d c l w e w') : EnQ (nrmY d c l).1 (nrmY d c l).2.1 (nrmY d c l).2.2 (nrmI d c l) w e w' := nrm_enp h
theorem rev_enq {d : Int} {c : List UInt8} {l : List Ln} {w w' : World} {e : Ending} (h : RevPost d c l w e w') : EnQ (revY d c l).1 (revY d c l).2.1 (revY d c l).2.2 (revI d c l) w e w' := rev_enp h
/-- a call ahead: a world of it is one of the caller's -/
theorem below_ahead {w W w' : World} (h : Below w.heap.size w W) (hb : Below W.heap.size W w') : Below w.heap.size w w' := h.trans (hb.mono h.size)
end Go.Proofs.YtdnomfekblmnbaaGreatDoor

/- EntryReversed: the walk. -/
namespace Go.Proofs.YtdnomfekblmnbaaGreatDoor
open Go.RowKit Go.Maps Num

set_option maxRecDepth 100000 in
set_option maxHeartbeats 8000000 in
theorem reversed_all (d : Int) (cz : List UInt8) (A : Option Addr) (n c : Nat) (l : List Ln) (w : World) (hr : rowL.Rds w A n c l) (ht : Tab w) (hm : ML w) :
    Calls Tryz.prog 7 #[.agg (enV d cz A n c)] w (BoolPost true w) := by
  have B0 := Lib.hid (Below.al (Below.refl _ w) (.cells #[.int .i64 d, .string ⟨cz.toArray⟩, .slice A n c] 32))
  have HG := Lib.hid (fun W (h : Below w.heap.size w W) => rgreat1_any d cz A n c l W (hr.below h))
  have HK := Lib.hid (fun (hg : g1B cz l = false) (W : World) (h : Below w.heap.size w W) => rchkE_any d cz A n c l W (((g1_fit hg).lns hr).below h) (by have := (g1_fit hg).cause; unfold maxLen; omega) (fun q hq => ((g1_fit hg).ln q hq).2.2))
  have HW := Lib.hid (fun W (h : Below w.heap.size w W) => awake_any W (ht.below h) (hm.below h))
  have HP := Lib.hid (fun W (h : Below w.heap.size w W) => (show BoolPost true w (.returned (.bool true)) W from ⟨rfl, h⟩))
  have HM := Lib.hid (fun (hg : g1B cz l = false) (hv : Vld d cz l) => (show Lns w A n c l
      ∧ (∀ W, Below w.heap.size w W → Calls Tryz.prog 20 #[.agg (enV d cz A n c)] W (EnQ d cz (l.map negL) 0 W))
      ∧ (∀ W A1 n1 k1, Below w.heap.size w W → Lns W A1 n1 k1 (l.map negL) → Calls Tryz.prog 20 #[.agg (enV d cz A1 n1 k1)] W (EnQ d cz l 0 W))
      ∧ (∀ W A1 n1 k1, Below w.heap.size w W → Lns W A1 n1 k1 (l ++ l.map negL) → Calls Tryz.prog 21 #[.agg (enV d cz A1 n1 k1)] W (EnQ d cz [] 0 W))
      ∧ (∀ W A1 n1 k1 (x : Ln), x ∈ l → Below w.heap.size w W → Lns W A1 n1 k1 (l.map negL) → Calls Tryz.prog 26 #[.agg (enV d cz A1 n1 k1), .string ⟨x.1.toArray⟩, .string ⟨x.2.1.toArray⟩] W (StrPost (txt (- val x.2.2)) W))
      ∧ (∀ W (x : Ln), x ∈ l → Below w.heap.size w W → Calls Tryz.prog 29 #[.string ⟨x.2.2.toArray⟩] W (StrPost (txt (- val x.2.2)) W))
      ∧ (∀ W A1 n1 k1, Below w.heap.size w W → Lns W A1 n1 k1 (l.map negL) → Calls Tryz.prog 24 #[.agg (enV d cz A1 n1 k1)] W (IntPost 0 W))
      ∧ (∀ x ∈ l ++ l.map negL, Sml x) ∧ l.length ≤ 66 from by
    have hf := g1_fit hg
    have hl := hf.lns hr
    have hcz : cz.length ≤ maxLen := by have := hf.cause; unfold maxLen; omega
    have h60 : ∀ x ∈ l, x.2.2.length ≤ 60 := fun x hx => Nat.le_trans (hf.ln x hx).2.2 (by decide)
    have n60 : ∀ x ∈ l.map negL, x.2.2.length ≤ 60 := fun x hx => Nat.le_trans (neg_len hf x hx) (by decide)
    have e0 : chkE d cz l = 0 := chkE_iff.2 hv
    have e1 : chkE d cz (l.map negL) = 0 := chkE_iff.2 hv.neg
    have b0 : nrmI d cz (l ++ l.map negL) = 0 := nrmI_iff.2 hv.both.1
    refine ⟨hl, fun W h => ?_, fun W A1 n1 k1 h hL => ?_, fun W A1 n1 k1 h hL => ?_, fun W A1 n1 k1 x hx h hL => ?_, fun W x hx h => ?_, fun W A1 n1 k1 h hL => ?_, fun x hx => ?_, hf.len⟩
    · have q := (Rev_any d cz A n c l W (hl.below h) hcz h60 (ht.below h) (hm.below h)).mono fun _ _ => rev_enq
      rw [show revY d cz l = (d, cz, l.map negL) from if_pos e0, show revI d cz l = 0 from if_pos e0] at q
      exact q
    · have q := (Rev_any d cz A1 n1 k1 (l.map negL) W hL hcz n60 (ht.below h) (hm.below h)).mono fun _ _ => rev_enq
      rw [show revY d cz (l.map negL) = (d, cz, (l.map negL).map negL) from if_pos e1, show revI d cz (l.map negL) = 0 from if_pos e1, hv.twice] at q
      exact q
    · have q := (Nrm_any d cz A1 n1 k1 (l ++ l.map negL) W hL hcz (fun x hx => by
        rcases List.mem_append.1 hx with h | h
        · exact h60 x h
        · exact n60 x h) (ht.below h) (hm.below h)).mono fun _ _ => nrm_enq
      rw [show nrmY d cz (l ++ l.map negL) = (d, cz, nrmL (l ++ l.map negL)) from if_pos b0, b0, hv.both.2] at q
      exact q
    · have q := Amount_any d cz A1 n1 k1 (l.map negL) x.1 x.2.1 W hL (ht.below h)
      rw [show ((x.1, x.2.1) : Ky) = key x from rfl, hv.opp hx] at q
      exact q
    · exact Neg_any ⟨x.2.2.toArray⟩ W (by show x.2.2.toArray.size ≤ 120; rw [List.size_toArray]; have := h60 x hx; omega) (ht.below h)
    · have q := Chk_any d cz A1 n1 k1 (l.map negL) W hL hcz (ht.below h) (hm.below h)
      rw [e1] at q
      exact q
    · rcases List.mem_append.1 hx with h | h
      · exact hf.sml x h
      · obtain ⟨y, hy, rfl⟩ := List.mem_map.1 h
        exact negL_sml (hf.sml y hy) (h60 y hy)))
  have HX0 := Lib.hid (BxR.new w d cz A n c)
  clear hr ht hm
  generalize BoolPost true w = Post at *
  unfold enV at *
  go_enter Tryz.func7, Tryz.ntmps7
  go_upto_region 1 with fail
  generalize w.alloc (.cells #[.int .i64 d, .string ⟨cz.toArray⟩, .slice A n c] 32) = w0 at *
  obtain ⟨x0, x1, x2⟩ := HX0.out
  go_wp2_with fail
  clear x0 x1 x2
  obtain ⟨gy, hgy⟩ : ∃ gy, g1B cz l = gy := ⟨_, rfl⟩
  rw [hgy] at HG HK HM
  refine (HG.out _ B0.out).mono ?_
  rintro e w1 ⟨rfl, hb⟩
  have B1 := Lib.hid (below_next B0.out hb ⟨rfl, rfl, rfl, rfl⟩)
  have X1 := Lib.hid (HX0.out.below hb)
  clear hb B0 HG HX0 hgy
  obtain ⟨x0, x1, x2⟩ := X1.out
  cases gy
  case true =>
    go_wp2_with fail
    refine (HW.out _ B1.out).mono ?_
    rintro e w2 ⟨rfl, hb⟩
    have B2 := Lib.hid (below_next B1.out hb ⟨rfl, rfl, rfl, rfl⟩)
    clear hb
    go_wp2_with fail
    exact HP.out _ B2.out
  go_wp2_with fail
  clear x0 x1 x2
  refine (HK.out trivial _ B1.out).mono ?_
  rintro e w2 ⟨rfl, hb⟩
  have B2 := Lib.hid (below_next B1.out hb ⟨rfl, rfl, rfl, rfl⟩)
  have X2 := Lib.hid (X1.out.below hb)
  clear hb B1 X1 HK
  obtain ⟨ck, hck⟩ : ∃ ck, chkE d cz l = ck := ⟨_, rfl⟩
  rw [hck]
  by_cases h0 : ck = 0
  case neg =>
    have hb0 : (ck == 0) = false := beq_eq_false_iff_ne.2 h0
    have hb1 : (ck != 0) = true := by rw [bne_iff_ne]; exact h0
    clear hck HM
    go_wp2_with fail
    refine (HW.out _ B2.out).mono ?_
    rintro e w3 ⟨rfl, hb⟩
    have B3 := Lib.hid (below_next B2.out hb ⟨rfl, rfl, rfl, rfl⟩)
    clear hb
    go_wp2_with fail
    exact HP.out _ B3.out
  subst h0
  obtain ⟨hl, crv, crv2, cnr, cam, cng, cck, hsm, h66⟩ := HM.out trivial (chkE_iff.1 hck)
  have HL := Lib.hid hl
  have CRV := Lib.hid crv
  have CRV2 := Lib.hid crv2
  have CNR := Lib.hid cnr
  have CAM := Lib.hid cam
  have CNG := Lib.hid cng
  have CCK := Lib.hid cck
  have HSM := Lib.hid hsm
  have H66 := Lib.hid h66
  clear hl crv crv2 cnr cam cng cck hsm h66 hck HM
  obtain ⟨x0, x1, x2⟩ := X2.out
  go_wp2_with fail
  clear x0 x1 x2
  generalize hml : l.map negL = m at *
  refine (CRV.out _ B2.out).mono ?_
  rintro e w3 ⟨A1, n1, k1, rfl, hL, hb⟩
  have B3 := Lib.hid (below_next B2.out hb ⟨rfl, rfl, rfl, rfl⟩)
  have X3 := Lib.hid (X2.out.below hb)
  have Y4 := Lib.hid (Bx.new (d := d) (s := cz) hL)
  have X4 := Lib.hid (X3.out.al (.cells #[.int .i64 d, .string ⟨cz.toArray⟩, .slice A1 n1 k1] 32))
  have B4 := Lib.hid (Below.al B3.out (.cells #[.int .i64 d, .string ⟨cz.toArray⟩, .slice A1 n1 k1] 32))
  clear hb hL X2 B2 CRV X3
  go_upto_region 4 with fail
  clear B3
  generalize w3.alloc (.cells #[.int .i64 d, .string ⟨cz.toArray⟩, .slice A1 n1 k1] 32) = w4 at *
  generalize w3.heap.size = by_ at *
  obtain ⟨y0, y1, y2, hLy⟩ := Y4.out
  have HLy := Lib.hid hLy
  clear hLy
  go_wp2_with fail
  clear y0 y1 y2
  refine (CRV2.out _ _ _ _ B4.out HLy.out).mono ?_
  rintro e w5 ⟨A2, n2, k2, rfl, hL, hb⟩
  have B5 := Lib.hid (below_next B4.out hb ⟨rfl, rfl, rfl, rfl⟩)
  have X5 := Lib.hid (X4.out.below hb)
  have Y5 := Lib.hid (Y4.out.below hb)
  have Z6 := Lib.hid (Bx.new (d := d) (s := cz) hL)
  have X6 := Lib.hid (X5.out.al (.cells #[.int .i64 d, .string ⟨cz.toArray⟩, .slice A2 n2 k2] 32))
  have Y6 := Lib.hid (Y5.out.al (.cells #[.int .i64 d, .string ⟨cz.toArray⟩, .slice A2 n2 k2] 32))
  have B6 := Lib.hid (Below.al B5.out (.cells #[.int .i64 d, .string ⟨cz.toArray⟩, .slice A2 n2 k2] 32))
  clear hb hL X4 Y4 B4 CRV2 HLy X5 Y5
  go_upto_region 5 with fail
  clear B5
  generalize w5.alloc (.cells #[.int .i64 d, .string ⟨cz.toArray⟩, .slice A2 n2 k2] 32) = w6 at *
  generalize w5.heap.size = bz at *
  go_cut [7] (fun s7 wx => Hid (∃ b7 A3 n3 k3, s7 = .pointer (some ⟨b7, 0, none⟩) ∧ Bx wx b7 d cz A3 n3 k3 (l ++ m) ∧ Below w6.heap.size w6 wx))
  case first =>
    have HSC := Lib.hid (fun W (h : Below w6.heap.size w6 W) => (show (W.cell? ⟨w.heap.size, 0, none⟩ = some (.int .i64 d) ∧ W.cell? ⟨w.heap.size, 1, none⟩ = some (.string ⟨cz.toArray⟩) ∧ W.cell? ⟨w.heap.size, 2, none⟩ = some (.slice A n c)) ∧ (W.cell? ⟨by_, 0, none⟩ = some (.int .i64 d) ∧ W.cell? ⟨by_, 1, none⟩ = some (.string ⟨cz.toArray⟩) ∧ W.cell? ⟨by_, 2, none⟩ = some (.slice A1 n1 k1)) from ⟨⟨(X6.out.below h).c0, (X6.out.below h).c1, (X6.out.below h).c2⟩, ⟨(Y6.out.below h).c0, (Y6.out.below h).c1, (Y6.out.below h).c2⟩⟩))
    have HBc := Lib.hid (Below.refl w6.heap.size w6)
    have hn1 : n ≤ 1000 := HL.out.small
    have hn2 : n1 ≤ 1000 := Y6.out.lns.small
    have lx6 : w.heap.size < w6.heap.size := X6.out.lt
    have ly6 : by_ < w6.heap.size := Y6.out.lt
    clear HW HP CNR CAM CNG CCK Z6
    obtain ⟨N, hN⟩ : ∃ N, (l ++ m).length = N := ⟨_, rfl⟩
    have HN := Lib.hid hN
    have HN1 := Lib.hid (show N ≤ 1000 by rw [← hN, ← hml, List.length_append, List.length_map]; have := H66.out; omega)
    clear hN
    go_region_held3 (fun W => (W.cell? ⟨w.heap.size, 0, none⟩ = some (.int .i64 d) ∧ W.cell? ⟨w.heap.size, 1, none⟩ = some (.string ⟨cz.toArray⟩) ∧ W.cell? ⟨w.heap.size, 2, none⟩ = some (.slice A n c)) ∧ (W.cell? ⟨by_, 0, none⟩ = some (.int .i64 d) ∧ W.cell? ⟨by_, 1, none⟩ = some (.string ⟨cz.toArray⟩) ∧ W.cell? ⟨by_, 2, none⟩ = some (.slice A1 n1 k1)))
      (first | (refine HSC.out _ ?_; repeat (first | exact HBc.out | refine Below.drew ?_ | refine Below.al ?_ _ | refine below_set3 ?_ (by omega) _ _ _)))
      (first
        | (go_at_call 28; with_reducible refine (concat_anyL _ A A1 n c n1 k1 l m _ ?_ ?_ ?_ ?_ ?_ hn1 hn2).mono ?_
           · first | (simp; done) | (simp; omega)
           · go_simp
           · go_simp
           · refine HL.out.rds.below (below_ahead B6.out ?_)
             repeat (first | exact HBc.out | refine Below.drew ?_ | refine Below.al ?_ _)
           · refine Y6.out.lns.rds.below ?_
             repeat (first | exact HBc.out | refine Below.drew ?_ | refine Below.al ?_ _)
           rintro e w' ⟨v, rfl, hv, hb⟩
           obtain ⟨A3, k3, rfl, hrd⟩ := hv.rds
           rw [HN.out] at hv ⊢
           have HV := Lib.hid hv
           have HBc := Lib.hid (below_via (w := w6) hb (by repeat (first | exact HBc.out | refine Below.drew ?_ | refine Below.al ?_ _)))
           first
             | (have zz := zblk (b := w6.heap.size) (cs := #[.int .i64 0, .string ⟨#[]⟩, .slice none 0 0]) (t := 32) hb (by exact zA w6 _ _)
                obtain ⟨⟨d0, d1, d2⟩, e0, e1, e2⟩ := cells3 zz
                clear zz)
             | (have zz := zblk (b := w6.heap.size + 1) (cs := #[.int .i64 0, .string ⟨#[]⟩, .slice none 0 0]) (t := 32) hb (by exact zB w6 _ _)
                obtain ⟨⟨d0, d1, d2⟩, e0, e1, e2⟩ := cells3 zz
                clear zz)
             | skip
           clear hb hv hrd))
    all_goals
      go_wp2_with fail
      go_meet
      first
        | exact Lib.hid ⟨_, A3, N, k3, rfl, Bx.new (own_lns HV.out HN1.out HSM.out), by repeat (first | exact HBc.out | refine Below.drew ?_ | refine Below.al ?_ _ | refine below_set3 ?_ (by omega) _ _ _)⟩
        | (refine Lib.hid ⟨_, A3, N, k3, rfl, ⟨?_, ?_, ?_, own_lns (own_set3 HV.out ?_ _ _ _) HN1.out HSM.out⟩, ?_⟩
           · go_simp
           · go_simp
           · go_simp
           · first | (simp; done) | (simp; omega)
           · repeat (first | exact HBc.out | refine Below.drew ?_ | refine Below.al ?_ _ | refine below_set3 ?_ (by omega) _ _ _))
  case rest =>
  obtain ⟨b7, A3, n3, k3, rfl, hN7, hbe⟩ := hcut.out
  have B7 := Lib.hid (below_ahead B6.out hbe)
  have X7 := Lib.hid (X6.out.below hbe)
  have Y7 := Lib.hid (Y6.out.below hbe)
  have Z7 := Lib.hid (Z6.out.below hbe)
  obtain ⟨q0, q1, q2, hLn⟩ := hN7
  have HLn := Lib.hid hLn
  clear hbe hLn hcut X6 Y6 Z6 B6
  go_wp2_with fail
  clear q0 q1 q2
  refine (CNR.out _ _ _ _ B7.out HLn.out).mono ?_
  rintro e w8 ⟨A4, n4, k4, rfl, hL, hb⟩
  obtain rfl : n4 = 0 := hL.len.symm
  have B8 := Lib.hid (below_next B7.out hb ⟨rfl, rfl, rfl, rfl⟩)
  have X8 := Lib.hid (X7.out.below hb)
  have Y8 := Lib.hid (Y7.out.below hb)
  have Z8 := Lib.hid (Z7.out.below hb)
  have M9 := Lib.hid (Bx.new (d := d) (s := cz) hL)
  have X9 := Lib.hid (X8.out.al (.cells #[.int .i64 d, .string ⟨cz.toArray⟩, .slice A4 0 k4] 32))
  have Y9 := Lib.hid (Y8.out.al (.cells #[.int .i64 d, .string ⟨cz.toArray⟩, .slice A4 0 k4] 32))
  have Z9 := Lib.hid (Z8.out.al (.cells #[.int .i64 d, .string ⟨cz.toArray⟩, .slice A4 0 k4] 32))
  have B9 := Lib.hid (Below.al B8.out (.cells #[.int .i64 d, .string ⟨cz.toArray⟩, .slice A4 0 k4] 32))
  clear hb hL X7 Y7 Z7 B7 HLn X8 Y8 Z8 CNR
  go_upto_region 7 with fail
  clear B8
  generalize w8.alloc (.cells #[.int .i64 d, .string ⟨cz.toArray⟩, .slice A4 0 k4] 32) = w9 at *
  generalize w8.heap.size = bn at *
  obtain ⟨x0, x1, x2⟩ := X9.out
  go_wp2_with fail
  clear x0 x1 x2
  have hn := HL.out.small
  go_loopw [49, 11] (fun i _ wr => ∃ k : Nat, k ≤ n ∧ i = .int .i64 (k : Int) ∧ Hid (Below w9.heap.size w9 wr)) (fun i _ _ => n - (intOf i).toNat)
  case atStart => exact ⟨0, by omega, rfl, Lib.hid (Below.refl _ _)⟩
  case round =>
    obtain ⟨k, hk, rfl, HB⟩ := hrel
    have HBw := Lib.hid (below_ahead B9.out HB.out)
    by_cases hlt : k < n
    · obtain ⟨b1, o1, rfl, hb1, hc1⟩ := HL.out.at_ (by omega)
      obtain ⟨q0, q1, q2⟩ := hc1 k hlt
      have r0 := (HBw.out.cell (p := ⟨b1, o1 + k * 3, none⟩) hb1).trans q0
      have r1 := (HBw.out.cell (p := ⟨b1, o1 + k * 3 + 1, none⟩) hb1).trans q1
      have r2 := (HBw.out.cell (p := ⟨b1, o1 + k * 3 + 2, none⟩) hb1).trans q2
      have hki : (k : Int) < (n : Int) := by omega
      have hmem := lnAt_mem l k (by rw [HL.out.len]; exact hlt)
      have CA := Lib.hid (fun W h hL => CAM.out W A1 n1 k1 _ hmem h hL)
      have CN := Lib.hid (fun W h => CNG.out W _ hmem h)
      have Yr := Lib.hid (Y9.out.below HB.out)
      clear q0 q1 q2 hc1 hmem
      generalize l.getD k ln0 = x at *
      obtain ⟨a, cu, am⟩ := x
      simp only at r0 r1 r2 CA CN
      have Ya := Lib.hid (Yr.out.al (.cells #[.string ⟨a.toArray⟩, .string ⟨cu.toArray⟩, .string ⟨am.toArray⟩] 45))
      have Ba := Lib.hid (Below.al HBw.out (.cells #[.string ⟨a.toArray⟩, .string ⟨cu.toArray⟩, .string ⟨am.toArray⟩] 45))
      have Bl := Lib.hid (Below.al HB.out (.cells #[.string ⟨a.toArray⟩, .string ⟨cu.toArray⟩, .string ⟨am.toArray⟩] 45))
      have La := Lib.hid (heap_alloc_new wr (.cells #[.string ⟨a.toArray⟩, .string ⟨cu.toArray⟩, .string ⟨am.toArray⟩] 45))
      go_upto_region 10 with fail
      clear r0 r1 r2
      generalize wr.alloc (.cells #[.string ⟨a.toArray⟩, .string ⟨cu.toArray⟩, .string ⟨am.toArray⟩] 45) = wa at *
      generalize wr.heap.size = bw at *
      have HSC := Lib.hid (fun W (h : Below wa.heap.size wa W) => (show (W.cell? ⟨by_, 0, none⟩ = some (.int .i64 d) ∧ W.cell? ⟨by_, 1, none⟩ = some (.string ⟨cz.toArray⟩) ∧ W.cell? ⟨by_, 2, none⟩ = some (.slice A1 n1 k1)) ∧ (W.cell? ⟨bw, 0, none⟩ = some (.string ⟨a.toArray⟩) ∧ W.cell? ⟨bw, 1, none⟩ = some (.string ⟨cu.toArray⟩) ∧ W.cell? ⟨bw, 2, none⟩ = some (.string ⟨am.toArray⟩)) from ⟨⟨(Ya.out.below h).c0, (Ya.out.below h).c1, (Ya.out.below h).c2⟩, (cells3 (zblk h La.out)).1⟩))
      have HBc := Lib.hid (Below.refl wa.heap.size wa)
      go_region_held3 (fun W => (W.cell? ⟨by_, 0, none⟩ = some (.int .i64 d) ∧ W.cell? ⟨by_, 1, none⟩ = some (.string ⟨cz.toArray⟩) ∧ W.cell? ⟨by_, 2, none⟩ = some (.slice A1 n1 k1)) ∧ (W.cell? ⟨bw, 0, none⟩ = some (.string ⟨a.toArray⟩) ∧ W.cell? ⟨bw, 1, none⟩ = some (.string ⟨cu.toArray⟩) ∧ W.cell? ⟨bw, 2, none⟩ = some (.string ⟨am.toArray⟩)))
        (first | (refine HSC.out _ ?_; repeat (first | exact HBc.out | refine Below.drew ?_ | refine Below.al ?_ _)))
        (first
          | (go_at_call 26; with_reducible refine (CA.out _ ?_ ?_).mono ?_
             · refine below_ahead Ba.out ?_
               repeat (first | exact HBc.out | refine Below.drew ?_ | refine Below.al ?_ _)
             · refine Ya.out.lns.below ?_
               repeat (first | exact HBc.out | refine Below.drew ?_ | refine Below.al ?_ _)
             rintro e w' ⟨rfl, hb⟩
             have HBc := Lib.hid (below_via (w := wa) hb (by repeat (first | exact HBc.out | refine Below.drew ?_ | refine Below.al ?_ _)))
             clear hb)
          | (go_at_call 29; with_reducible refine (CN.out _ ?_).mono ?_
             · refine below_ahead Ba.out ?_
               repeat (first | exact HBc.out | refine Below.drew ?_ | refine Below.al ?_ _)
             rintro e w' ⟨rfl, hb⟩
             have HBc := Lib.hid (below_via (w := wa) hb (by repeat (first | exact HBc.out | refine Below.drew ?_ | refine Below.al ?_ _)))
             clear hb))
      all_goals
        have HBf := Lib.hid (below_ahead Bl.out HBc.out)
        clear HSC HBc
        go_wp2_with fail
        go_roundw
        case rel => exact ⟨k + 1, by omega, by go_num, HBf⟩
        case measure => simp [intOf]; omega
    · have hkn : k = n := by omega
      subst hkn
      have hki : ¬ (k : Int) < (k : Int) := by omega
      have Xr := Lib.hid (X9.out.below HB.out)
      have Yr := Lib.hid (Y9.out.below HB.out)
      have Zr := Lib.hid (Z9.out.below HB.out)
      have Mr := Lib.hid (M9.out.below HB.out)
      clear X9 Y9 Z9 M9 B9 HB CAM CNG
      obtain ⟨y0, y1, y2, hLy⟩ := Yr.out
      have HLy := Lib.hid hLy
      clear hLy
      go_wp2_with fail
      clear y0 y1 y2
      refine (CCK.out _ _ _ _ HBw.out HLy.out).mono ?_
      rintro e w10 ⟨rfl, hb⟩
      have B10 := Lib.hid (below_next HBw.out hb ⟨rfl, rfl, rfl, rfl⟩)
      have X10 := Lib.hid (Xr.out.below hb)
      have Z10 := Lib.hid (Zr.out.below hb)
      have M10 := Lib.hid (Mr.out.below hb)
      clear hb Xr Yr Zr Mr HBw HLy CCK
      have hq := (Bx.new (W := w10) (d := d) (s := cz) (HL.out.below B10.out)).al (.cells #[.int .i64 d, .string ⟨cz.toArray⟩, .slice A2 n2 k2] 32)
      have hq2 := Bx.new (W := w10.alloc (.cells #[.int .i64 d, .string ⟨cz.toArray⟩, .slice A k c] 32)) (d := d) (s := cz) (Z10.out.al (.cells #[.int .i64 d, .string ⟨cz.toArray⟩, .slice A k c] 32)).lns
      rw [show (w10.alloc (.cells #[.int .i64 d, .string ⟨cz.toArray⟩, .slice A k c] 32)).heap.size = w10.heap.size + 1 by simp] at hq2
      have hS := Same_any _ _ _ _ _ _ [(d, cz, l)] [(d, cz, l)] _ (ens1d hq.c0 hq.c1 hq.c2 hq.lns) (ens1d hq2.c0 hq2.c1 hq2.c2 hq2.lns)
      rw [decide_eq_true rfl] at hS
      have HS := Lib.hid hS
      have BE := Lib.hid (Below.al (Below.al B10.out (.cells #[.int .i64 d, .string ⟨cz.toArray⟩, .slice A k c] 32)) (.cells #[.int .i64 d, .string ⟨cz.toArray⟩, .slice A2 n2 k2] 32))
      have XE := Lib.hid ((X10.out.al (.cells #[.int .i64 d, .string ⟨cz.toArray⟩, .slice A k c] 32)).al (.cells #[.int .i64 d, .string ⟨cz.toArray⟩, .slice A2 n2 k2] 32))
      have ME := Lib.hid ((M10.out.al (.cells #[.int .i64 d, .string ⟨cz.toArray⟩, .slice A k c] 32)).al (.cells #[.int .i64 d, .string ⟨cz.toArray⟩, .slice A2 n2 k2] 32))
      clear hq hq2 hS
      obtain ⟨x0, x1, x2⟩ := X10.out
      obtain ⟨z0, z1, z2, _⟩ := Z10.out
      have lx : w.heap.size < w10.heap.size := X10.out.lt
      have lz : bz < w10.heap.size := Z10.out.lt
      clear X10 Z10 M10 B10
      go_wp2_with fail
      refine HS.out.mono ?_
      rintro e w11 ⟨rfl, hb⟩
      have B11 := Lib.hid (below_next BE.out hb ⟨rfl, rfl, rfl, rfl⟩)
      have X11 := Lib.hid (XE.out.below hb)
      have M11 := Lib.hid (ME.out.below hb)
      clear hb HS BE XE ME x0 x1 x2 z0 z1 z2 lx lz
      obtain ⟨x0, x1, x2⟩ := X11.out
      obtain ⟨m0, m1, m2, _⟩ := M11.out
      go_wp2_with fail
      clear x0 x1 x2 m0 m1 m2
      refine (HW.out _ B11.out).mono ?_
      rintro e w12 ⟨rfl, hb⟩
      have B12 := Lib.hid (below_next B11.out hb ⟨rfl, rfl, rfl, rfl⟩)
      clear hb B11
      go_wp2_with fail
      exact HP.out _ B12.out
end Go.Proofs.YtdnomfekblmnbaaGreatDoor

/- EntryReversed: for every entry the call of tranchelaw35.EntryReversed returns true, and its arguments read as before. The card ties the variables of Go's library that it lists; the seat is a pruned copy: of packages left out the card says nothing. -/
namespace Go.Proofs.YtdnomfekblmnbaaGreatDoor.entryReversed
open Go.ChangeShapes Go.WideShapes Go.ChangeAt Go.RowKit
open Go.ChangeMaps (open_string shut_string)
set_option linter.unusedVariables false

set_option maxRecDepth 100000 in
theorem lifted (os : Os) (started : os.Started) (H : Type) (enc : TypeId × Value → H) :
    ReturnsInHanded {} Tryz.checked os 7 .any (fun w args => (Rows.entryReversedSpec.pre enc Tryz.prog Tryz.f7 [] false w args ∧ laidMetH Tryz.prog Rows.entryReversedRow.laid w) ∧ sizedMet enc Tryz.prog Tryz.f7 (OpenSpec.ofChange Rows.entryReversedSpec) false w args)
      (Rows.entryReversedSpec.post enc Tryz.prog Tryz.f7 false true false false) := by
  refine handed_both (C := Tryz.checked) (X := fun w _ => laidMetH Tryz.prog Rows.entryReversedRow.laid w) (fun _ _ _ hh h => h.of_heap hh) own started (by kernel_rfl) Tryz.func7
    (ChangeSpec.witness_shaped (enc := enc) (C := Tryz.checked) (os := os) (X := fun w _ => laidMetH Tryz.prog Rows.entryReversedRow.laid w) false (World.laidAll Tryz.prog os Rows.entryReversedRow.laid) #[.agg #[.int .i64 0, .string ByteArray.empty, .slice none 0 0]] 8 (World.laidAll_os _ _ _)
      (World.shaped_of_ZipB (by kernel_rfl) (by kernel_rfl)) (by kernel_rfl) (by kernel_rfl) (by kernel_rfl)
      (by rw [MakeChecks.laidMetH_plain _ _ _ (by kernel_rfl)]; exact laidMet_laidAll _ (by kernel_rfl) (by kernel_rfl))) ?_
  intro W base args ds gs before hval0 hW hL hsh
  have hval : ∀ (j : Nat) t v, Tryz.f7.params[j]? = some t → args[j]? = some v → Value.okWide Tryz.prog W .any base t v := hval0
  have hW' := hW
  obtain ⟨p, q, hA0, hV, rfl, hfz, hnd⟩ := hW
  have hA : DataW.TrodAll enc Tryz.prog W 0 (fun _ => true) true Tryz.f7.params.toList args.toList ds p := hA0
  rw [Tryz.params7] at hA hval
  obtain ⟨v0, vs0, d0, ds0, p0, q0, hargs, rfl, rfl, h0, r0⟩ := trodAll_cons hA
  obtain ⟨rfl, rfl, rfl⟩ := trodAll_nil r0
  obtain rfl : args = #[v0] := by cases args; simp_all
  obtain ⟨rfl, rfl⟩ := trodVars_none hV
  obtain ⟨t0, z0, A0, n0, c0, l0, rfl, s0⟩ := arg_entry (hval 0 32 v0 rfl rfl) h0
  clear hA0 hval0
  refine (reversed_all t0 z0 A0 n0 c0 l0 W s0 (tab_of hL) (ml_of hsh)).mono fun e W' ⟨he, hg⟩ => ?_
  subst he
  exact ⟨_, rfl, post_true (tb := 4) hW' rfl laid (by kernel_rfl) rfl Tryz.underlying4 ⟨rfl, rfl, rfl⟩ hg⟩

theorem over : Rows.EntryReversedSaid :=
  OpenClaim.holds_of_wide 7 Tryz.f7 rfl rfl rfl rfl rfl rfl rfl ⟨rfl, rfl, rfl, rfl, rfl⟩ rfl rfl rfl rfl rfl (by kernel_rfl) Tryz.func7 (by kernel_rfl)
    (of_decide_eq_true (by kernel_rfl)) (by unfold Func.isWrapper; first | (rw [if_pos (by decide +kernel)]; kernel_rfl) | (rw [if_neg (by decide +kernel)]; exact ⟨rfl, rfl⟩))
    (fun os started H enc _ => lifted os started H enc)

theorem plain (f : FuncId) (fn : Func) (hf : Tryz.pinned.checked.prog.funcNamed "tranche/tranchelaw35.EntryReversed" = some f) (hfn : Tryz.pinned.checked.prog.funcs[f]? = some fn) :
    true = Tryz.pinned.checked.prog.looks [] ∧ ∀ (j : Nat) t, fn.params[j]? = some t → Tryz.pinned.checked.prog.wantsStandIn t = false := by
  obtain rfl : f = 7 := Option.some.inj ((show Tryz.prog.funcNamed "tranche/tranchelaw35.EntryReversed" = some 7 by kernel_rfl).symm.trans hf) |>.symm
  obtain rfl : fn = Tryz.f7 := (Option.some.inj (Tryz.func7.symm.trans hfn)).symm
  refine ⟨by kernel_rfl, fun j t ht => ?_⟩
  rw [Tryz.params7] at ht
  have hm : t ∈ [32] := by simpa using Array.mem_of_getElem? ht
  have hall : (([32] : List TypeId).all fun u => !Tryz.prog.wantsStandIn u) = true := by kernel_rfl
  exact (show Tryz.prog.wantsStandIn t = false by simpa using List.all_eq_true.1 hall t hm)

theorem proved : Rows.EntryReversedCardSaid :=
  Claim7.holds_tied_plain_at .later [] _ _ _ _ over (fun _ h => by cases h) (by kernel_rfl) (fun _ h => by cases h) entryReversed_row_tie rfl ⟨rfl, rfl⟩ (by kernel_rfl) rfl plain (by kernel_rfl)
end Go.Proofs.YtdnomfekblmnbaaGreatDoor.entryReversed
