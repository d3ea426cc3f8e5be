/- What the walks of the laws share: boxes with entries, returned entries, slices of one entry. -/
import Derived.Test.YtdnomfekblmnbaaGreatDoorQ7
import Derived.Test.YtdnomfekblmnbaaGreatDoorQ9
import Derived.Test.YtdnomfekblmnbaaGreatDoorQ8
import Derived.Test.YtdnomfekblmnbaaGreatDoorQ10
namespace Go.Proofs.YtdnomfekblmnbaaGreatDoor
open Go.RowKit Go.Maps Num

/-- a box with an entry in it -/
structure Bx (W : World) (b : Nat) (d : Int) (s : List UInt8) (A : Option Addr) (n c : Nat) (l : List Ln) : Prop where
  c0 : W.cell? ⟨b, 0, none⟩ = some (.int .i64 d)
  c1 : W.cell? ⟨b, 1, none⟩ = some (.string ⟨s.toArray⟩)
  c2 : W.cell? ⟨b, 2, none⟩ = some (.slice A n c)
  lns : Lns W A n c l
theorem Bx.lt {W : World} {b : Nat} {d : Int} {s : List UInt8} {A : Option Addr} {n c : Nat} {l : List Ln} (h : Bx W b d s A n c l) : b < W.heap.size := block_lt_of_cell h.c0
theorem Bx.below {W W' : World} {b : Nat} {d : Int} {s : List UInt8} {A : Option Addr} {n c : Nat} {l : List Ln} (h : Bx W b d s A n c l) (hb : Below W.heap.size W W') : Bx W' b d s A n c l :=
  ⟨(hb.cell (p := ⟨b, 0, none⟩) h.lt).trans h.c0, (hb.cell (p := ⟨b, 1, none⟩) h.lt).trans h.c1, (hb.cell (p := ⟨b, 2, none⟩) h.lt).trans h.c2, h.lns.below hb⟩
theorem Bx.new {W : World} {d : Int} {s : List UInt8} {A : Option Addr} {n c : Nat} {l : List Ln} (h : Lns W A n c l) : Bx (W.alloc (.cells #[.int .i64 d, .string ⟨s.toArray⟩, .slice A n c] 32)) W.heap.size d s A n c l := by
  obtain ⟨⟨c0, c1, c2⟩, _⟩ := cells3 (heap_alloc_new W (.cells #[.int .i64 d, .string ⟨s.toArray⟩, .slice A n c] 32))
  exact ⟨c0, c1, c2, h.below ((Below.refl _ _).alloc (Nat.le_refl _) _)⟩
theorem Bx.al {W : World} {b : Nat} {d : Int} {s : List UInt8} {A : Option Addr} {n c : Nat} {l : List Ln} (h : Bx W b d s A n c l) (o : Obj) : Bx (W.alloc o) b d s A n c l := h.below (Below.al (Below.refl _ _) o)
/-- the like, of any lines -/
structure BxR (W : World) (b : Nat) (d : Int) (s : List UInt8) (A : Option Addr) (n c : Nat) : Prop where
  c0 : W.cell? ⟨b, 0, none⟩ = some (.int .i64 d)
  c1 : W.cell? ⟨b, 1, none⟩ = some (.string ⟨s.toArray⟩)
  c2 : W.cell? ⟨b, 2, none⟩ = some (.slice A n c)
theorem BxR.lt {W : World} {b : Nat} {d : Int} {s : List UInt8} {A : Option Addr} {n c : Nat} (h : BxR W b d s A n c) : b < W.heap.size := block_lt_of_cell h.c0
theorem BxR.below {W W' : World} {b : Nat} {d : Int} {s : List UInt8} {A : Option Addr} {n c : Nat} (h : BxR W b d s A n c) (hb : Below W.heap.size W W') : BxR W' b d s A n c :=
  ⟨(hb.cell (p := ⟨b, 0, none⟩) h.lt).trans h.c0, (hb.cell (p := ⟨b, 1, none⟩) h.lt).trans h.c1, (hb.cell (p := ⟨b, 2, none⟩) h.lt).trans h.c2⟩
theorem BxR.new (W : World) (d : Int) (s : List UInt8) (A : Option Addr) (n c : Nat) : BxR (W.alloc (.cells #[.int .i64 d, .string ⟨s.toArray⟩, .slice A n c] 32)) W.heap.size d s A n c := by
  obtain ⟨⟨c0, c1, c2⟩, _⟩ := cells3 (heap_alloc_new W (.cells #[.int .i64 d, .string ⟨s.toArray⟩, .slice A n c] 32))
  exact ⟨c0, c1, c2⟩
theorem BxR.al {W : World} {b : Nat} {d : Int} {s : List UInt8} {A : Option Addr} {n c : Nat} (h : BxR W b d s A n c) (o : Obj) : BxR (W.alloc o) b d s A n c := h.below (Below.al (Below.refl _ _) o)
theorem zblk {W w' : World} {b : Nat} {cs : Array Value} {t : TypeId} (hb : Below W.heap.size W w') (h : W.heap[b]? = some (.cells cs t)) : w'.heap[b]? = some (.cells cs t) := (hb.block b (block_lt_of_row h)).trans h
theorem zA (w : World) (o1 o2 : Obj) : ((w.alloc o1).alloc o2).heap[w.heap.size]? = some o1 := by
  rw [heap_alloc_old _ _ (by simp)]; exact heap_alloc_new w o1
theorem zB (w : World) (o1 o2 : Obj) : ((w.alloc o1).alloc o2).heap[w.heap.size + 1]? = some o2 := by
  have h := heap_alloc_new (w.alloc o1) o2
  rwa [show (w.alloc o1).heap.size = w.heap.size + 1 by simp] at h
theorem own_set3 {α : Type} {R : Row α} {B : Nat} {w : World} {v : Value} {l : List α} (h : R.Own B w v l) {b : Nat} (hb : b < B) (p q u : Value) : R.Own B (((w.setCell ⟨b, 0, none⟩ p).setCell ⟨b, 1, none⟩ q).setCell ⟨b, 2, none⟩ u) v l :=
  have hr : ∀ k, some b = some k → k < B := fun k e => by have := Option.some.inj e; omega
  ((h.kept (grown_setCell w ⟨b, 0, none⟩ p) hr).kept (grown_setCell _ ⟨b, 1, none⟩ q) hr).kept (grown_setCell _ ⟨b, 2, none⟩ u) hr
theorem own_lns {B n c : Nat} {w : World} {A : Option Addr} {l : List Ln} (h : rowL.Own B w (.slice A n c) l) (hn : n ≤ 1000) (hs : ∀ x ∈ l, Sml x) : Lns w A n c l := by
  obtain ⟨A', c', e, hr⟩ := h.rds
  injection e with e1 e2 e3
  subst e1 e3
  rw [← e2] at hr
  exact Lns.of_rds hr hn hs
theorem below_set1 {B b : Nat} {w W : World} (h : Below B w W) (hB : B ≤ w.heap.size) (hb : B ≤ b) (i : Nat) (v : Value) : Below B w (W.setCell ⟨b, i, none⟩ v) := below_grown h hB (grown_setCell W ⟨b, i, none⟩ v) hb
theorem below_al2 {B : Nat} {w W : World} (h : Below B w W) (hB : w.heap.size = B) (o : Obj) : Below B w (W.alloc o) := h.alloc (by have := h.size; omega) o
theorem below_set2 {B b : Nat} {w W : World} (h : Below B w W) (hB : w.heap.size = B) (hb : B ≤ b) (i : Nat) (v : Value) : Below B w (W.setCell ⟨b, i, none⟩ v) := below_set1 h (by omega) hb i v
/-- the first line of a slice of the call's own -/
theorem own_head {B g n k : Nat} {w : World} {x : Ln} {r : List Ln} (h : rowL.Own B w (.slice (some ⟨g, 0, none⟩) n k) (x :: r)) (hn : 0 < n) :
    w.cell? ⟨g, 0, none⟩ = some (.string ⟨x.1.toArray⟩) ∧ w.cell? ⟨g, 1, none⟩ = some (.string ⟨x.2.1.toArray⟩) ∧ w.cell? ⟨g, 2, none⟩ = some (.string ⟨x.2.2.toArray⟩) ∧ g < w.heap.size ∧ B ≤ g ∧ w.frozen? ⟨g, 2, none⟩ = false ∧ (x :: r).length = n := by
  have hf := Row.Own.frz h 2
  have ho := h.own g rfl
  obtain ⟨A, c, e, hr⟩ := h.rds
  injection e with e1 e2 e3
  subst e1 e3
  rw [← e2] at hr
  have c0 := hr.cell rowL_ok ln0 0 0 _ hn rfl
  have c1 := hr.cell rowL_ok ln0 0 1 _ hn rfl
  have c2 := hr.cell rowL_ok ln0 0 2 _ hn rfl
  exact ⟨c0, c1, c2, ho.2, ho.1, hf, e2.symm⟩
/-- a slice of one entry -/
theorem ens1d {W : World} {b : Nat} {d : Int} {s : List UInt8} {A : Option Addr} {n c : Nat} {l : List Ln} (c0 : W.cell? ⟨b, 0, none⟩ = some (.int .i64 d)) (c1 : W.cell? ⟨b, 1, none⟩ = some (.string ⟨s.toArray⟩)) (c2 : W.cell? ⟨b, 2, none⟩ = some (.slice A n c)) (hl : Lns W A n c l) : Ens W (some ⟨b, 0, none⟩) 1 1 [(d, s, l)] := by
  refine Res.ens (ps := [((d, s, A, n, c), (d, s, l))]) ⟨rds_cells [((d, s, A, n, c), (d, s, l))] (block_lt_of_cell c0) ?_ (by show 1 ≤ maxLen; decide), ?_⟩ (by decide)
  · intro j u hu
    rcases j with _ | _ | _ | j
    · exact c0.trans hu
    · exact c1.trans hu
    · exact c2.trans hu
    · cases hu
  · intro p hp
    rw [List.mem_singleton.1 hp]
    exact ⟨rfl, rfl, hl⟩
/-- an entry and a code, returned -/
def EnQ (d : Int) (s : List UInt8) (l : List Ln) (i : Int) (w : World) (e : Ending) (w' : World) : Prop :=
  ∃ A n c, e = .returned (.tuple #[.agg #[.int .i64 d, .string ⟨s.toArray⟩, .slice A n c], .int .i64 i]) ∧ Lns w' A n c l ∧ Below w.heap.size w w'
theorem nrm_enq {d : Int} {c : List UInt8} {l : List Ln} {w w' : World} {e : Ending} (h : NrmPost d c l w e w') : EnQ (nrmY d c l).1 (nrmY d c l).2.1 (nrmY d c l).2.2 (nrmI d c l) w e w' := nrm_enp h
theorem rev_enq {d : Int} {c : List UInt8} {l : List Ln} {w w' : World} {e : Ending} (h : RevPost d c l w e w') : EnQ (revY d c l).1 (revY d c l).2.1 (revY d c l).2.2 (revI d c l) w e w' := rev_enp h
/-- a call ahead: a world of it is one of the caller's -/
theorem below_ahead {w W w' : World} (h : Below w.heap.size w W) (hb : Below W.heap.size W w') : Below w.heap.size w w' := h.trans (hb.mono h.size)
end Go.Proofs.YtdnomfekblmnbaaGreatDoor

/- EntryChecks: the walk. -/
namespace Go.Proofs.YtdnomfekblmnbaaGreatDoor
open Go.RowKit Go.Maps Num

set_option maxRecDepth 100000 in
set_option maxHeartbeats 4000000 in
theorem checks_fit (d : Int) (cz : List UInt8) (A : Option Addr) (n c : Nat) (l : List Ln) (ka kc : List UInt8) (w : World) (hr : rowL.Rds w A n c l) (hg : g1B cz l = false) (ht : Tab w) (hm : ML w) :
    Calls Tryz.prog 5 #[.agg (enV d cz A n c), .string ⟨ka.toArray⟩, .string ⟨kc.toArray⟩] w (BoolPost true w) := by
  have hF := g1_fit hg
  have hl := hF.lns hr
  have hcz : cz.length ≤ maxLen := by have := hF.cause; unfold maxLen; omega
  have h13 : ∀ x ∈ l, x.2.2.length ≤ 13 := fun x hx => (hF.ln x hx).2.2
  have h60 : ∀ x ∈ l, x.2.2.length ≤ 60 := fun x hx => Nat.le_trans (h13 x hx) (by decide)
  have X0 := Lib.hid (Bx.new (d := d) (s := cz) hl)
  have B0 := Lib.hid (Below.al (Below.refl _ w) (.cells #[.int .i64 d, .string ⟨cz.toArray⟩, .slice A n c] 32))
  have HG := Lib.hid (fun W (h : Below w.heap.size w W) => rgreat1_any d cz A n c l W (hr.below h))
  rw [hg] at HG
  have HN := Lib.hid (fun W (h : Below w.heap.size w W) => (Nrm_any d cz A n c l W (hl.below h) hcz h60 (ht.below h) (hm.below h)).mono fun _ _ => nrm_enq)
  have HM := Lib.hid (fun W (h : Below w.heap.size w W) => (rnrm_any d cz A n c l W (hl.below h) hcz h13).mono fun _ _ => nrm_enq)
  have HR := Lib.hid (fun W (h : Below w.heap.size w W) => (Rev_any d cz A n c l W (hl.below h) hcz h60 (ht.below h) (hm.below h)).mono fun _ _ => rev_enq)
  have HS := Lib.hid (fun W (h : Below w.heap.size w W) => (rrev_any d cz A n c l W (hl.below h) hcz h13).mono fun _ _ => rev_enq)
  have HC := Lib.hid (fun W (h : Below w.heap.size w W) => Chk_any d cz A n c l W (hl.below h) hcz (ht.below h) (hm.below h))
  have HD := Lib.hid (fun W (h : Below w.heap.size w W) => rchkE_any d cz A n c l W (hl.below h) hcz h13)
  have HA := Lib.hid (fun W (h : Below w.heap.size w W) => Amount_any d cz A n c l ka kc W (hl.below h) (ht.below h))
  have HU := Lib.hid (fun W (h : Below w.heap.size w W) => ramt_any d cz A n c l ka kc W (hl.below h) h13)
  have HW := Lib.hid (fun W (h : Below w.heap.size w W) => awake_any W (ht.below h) (hm.below h))
  have HP := Lib.hid (fun W (h : Below w.heap.size w W) => (show BoolPost true w (.returned (.bool true)) W from ⟨rfl, h⟩))
  have HX := Lib.hid (fun (d1 : Int) (z1 : List UInt8) (A1 : Option Addr) (n1 c1 : Nat) (A2 : Option Addr) (n2 c2 : Nat) (l1 : List Ln) (W : World) (h1 : Lns W A1 n1 c1 l1) (h2 : Lns W A2 n2 c2 l1) => (show Calls Tryz.prog 25 #[.agg #[.int .i64 d1, .string ⟨z1.toArray⟩, .slice A1 n1 c1], .agg #[.int .i64 d1, .string ⟨z1.toArray⟩, .slice A2 n2 c2]] W (BoolPost true W) by
    have h := rsame1_any d1 d1 z1 z1 A1 A2 n1 c1 n2 c2 l1 l1 W h1 h2
    rwa [decide_eq_true rfl] at h))
  clear hr hl hF h13 h60 ht hm hg
  generalize BoolPost true w = Post at *
  generalize nrmY d cz l = y at *
  generalize nrmI d cz l = yi at *
  generalize revY d cz l = z at *
  generalize revI d cz l = zi at *
  generalize chkE d cz l = ce at *
  generalize txt (tot l (ka, kc)) = am at *
  obtain ⟨y0, y1, y2⟩ := y
  obtain ⟨z0, z1, z2⟩ := z
  unfold enV at *
  go_enter Tryz.func5, Tryz.ntmps5
  go_wp2_with fail
  have lx : w.heap.size < (w.alloc (.cells #[.int .i64 d, .string ⟨cz.toArray⟩, .slice A n c] 32)).heap.size := X0.out.lt
  generalize w.alloc (.cells #[.int .i64 d, .string ⟨cz.toArray⟩, .slice A n c] 32) = w0 at *
  refine (HG.out _ B0.out).mono ?_
  rintro e w1 ⟨rfl, hb⟩
  have B1 := Lib.hid (below_next B0.out hb ⟨rfl, rfl, rfl, rfl⟩)
  have X1 := Lib.hid (X0.out.below hb)
  clear hb X0 B0 HG lx
  obtain ⟨c0, c1, c2, _⟩ := X1.out
  go_wp2_with fail
  clear c0 c1 c2
  refine (HN.out _ B1.out).mono ?_
  rintro e w2 ⟨A1, n1, k1, rfl, hL, hb⟩
  have B2 := Lib.hid (below_next B1.out hb ⟨rfl, rfl, rfl, rfl⟩)
  have X2 := Lib.hid (X1.out.below hb)
  have N3 := Lib.hid (Bx.new (d := y0) (s := y1) hL)
  have X3 := Lib.hid (X2.out.al (.cells #[.int .i64 y0, .string ⟨y1.toArray⟩, .slice A1 n1 k1] 32))
  have B3 := Lib.hid (Below.al B2.out (.cells #[.int .i64 y0, .string ⟨y1.toArray⟩, .slice A1 n1 k1] 32))
  clear hb hL X1 B1 HN
  obtain ⟨c0, c1, c2, _⟩ := X2.out
  have lx : w.heap.size < w2.heap.size := X2.out.lt
  go_wp2_with fail
  clear c0 c1 c2 lx X2 B2
  generalize w2.alloc (.cells #[.int .i64 y0, .string ⟨y1.toArray⟩, .slice A1 n1 k1] 32) = w3 at *
  generalize w2.heap.size = bn at *
  refine (HM.out _ B3.out).mono ?_
  rintro e w4 ⟨A2, n2, k2, rfl, hL, hb⟩
  have B4 := Lib.hid (below_next B3.out hb ⟨rfl, rfl, rfl, rfl⟩)
  have X4 := Lib.hid (X3.out.below hb)
  have N4 := Lib.hid (N3.out.below hb)
  have M5 := Lib.hid (Bx.new (d := y0) (s := y1) hL)
  have X5 := Lib.hid (X4.out.al (.cells #[.int .i64 y0, .string ⟨y1.toArray⟩, .slice A2 n2 k2] 32))
  have N5 := Lib.hid (N4.out.al (.cells #[.int .i64 y0, .string ⟨y1.toArray⟩, .slice A2 n2 k2] 32))
  have B5 := Lib.hid (Below.al B4.out (.cells #[.int .i64 y0, .string ⟨y1.toArray⟩, .slice A2 n2 k2] 32))
  clear hb hL X3 N3 B3 HM
  obtain ⟨c0, c1, c2, _⟩ := X4.out
  have lx : w.heap.size < w4.heap.size := X4.out.lt
  go_wp2_with fail
  clear c0 c1 c2 lx X4 N4 B4
  generalize w4.alloc (.cells #[.int .i64 y0, .string ⟨y1.toArray⟩, .slice A2 n2 k2] 32) = w5 at *
  generalize w4.heap.size = bm at *
  refine (HR.out _ B5.out).mono ?_
  rintro e w6 ⟨A3, n3, k3, rfl, hL, hb⟩
  have B6 := Lib.hid (below_next B5.out hb ⟨rfl, rfl, rfl, rfl⟩)
  have X6 := Lib.hid (X5.out.below hb)
  have N6 := Lib.hid (N5.out.below hb)
  have M6 := Lib.hid (M5.out.below hb)
  have R7 := Lib.hid (Bx.new (d := z0) (s := z1) hL)
  have X7 := Lib.hid (X6.out.al (.cells #[.int .i64 z0, .string ⟨z1.toArray⟩, .slice A3 n3 k3] 32))
  have N7 := Lib.hid (N6.out.al (.cells #[.int .i64 z0, .string ⟨z1.toArray⟩, .slice A3 n3 k3] 32))
  have M7 := Lib.hid (M6.out.al (.cells #[.int .i64 z0, .string ⟨z1.toArray⟩, .slice A3 n3 k3] 32))
  have B7 := Lib.hid (Below.al B6.out (.cells #[.int .i64 z0, .string ⟨z1.toArray⟩, .slice A3 n3 k3] 32))
  clear hb hL X5 N5 M5 B5 HR
  obtain ⟨c0, c1, c2, _⟩ := X6.out
  have lx : w.heap.size < w6.heap.size := X6.out.lt
  go_wp2_with fail
  clear c0 c1 c2 lx X6 N6 M6 B6
  generalize w6.alloc (.cells #[.int .i64 z0, .string ⟨z1.toArray⟩, .slice A3 n3 k3] 32) = w7 at *
  generalize w6.heap.size = br at *
  refine (HS.out _ B7.out).mono ?_
  rintro e w8 ⟨A4, n4, k4, rfl, hL, hb⟩
  have B8 := Lib.hid (below_next B7.out hb ⟨rfl, rfl, rfl, rfl⟩)
  have X8 := Lib.hid (X7.out.below hb)
  have N8 := Lib.hid (N7.out.below hb)
  have M8 := Lib.hid (M7.out.below hb)
  have R8 := Lib.hid (R7.out.below hb)
  have S9 := Lib.hid (Bx.new (d := z0) (s := z1) hL)
  have X9 := Lib.hid (X8.out.al (.cells #[.int .i64 z0, .string ⟨z1.toArray⟩, .slice A4 n4 k4] 32))
  have N9 := Lib.hid (N8.out.al (.cells #[.int .i64 z0, .string ⟨z1.toArray⟩, .slice A4 n4 k4] 32))
  have M9 := Lib.hid (M8.out.al (.cells #[.int .i64 z0, .string ⟨z1.toArray⟩, .slice A4 n4 k4] 32))
  have R9 := Lib.hid (R8.out.al (.cells #[.int .i64 z0, .string ⟨z1.toArray⟩, .slice A4 n4 k4] 32))
  have B9 := Lib.hid (Below.al B8.out (.cells #[.int .i64 z0, .string ⟨z1.toArray⟩, .slice A4 n4 k4] 32))
  clear hb hL X7 N7 M7 R7 B7 HS X8 N8 M8 R8
  go_wp2_with fail
  generalize w8.alloc (.cells #[.int .i64 z0, .string ⟨z1.toArray⟩, .slice A4 n4 k4] 32) = w9 at *
  generalize w8.heap.size = bs at *
  clear B8
  have HSC := Lib.hid (fun W (h : Below w9.heap.size w9 W) => (show (W.cell? ⟨w.heap.size, 0, none⟩ = some (.int .i64 d) ∧ W.cell? ⟨w.heap.size, 1, none⟩ = some (.string ⟨cz.toArray⟩) ∧ W.cell? ⟨w.heap.size, 2, none⟩ = some (.slice A n c)) ∧ (W.cell? ⟨bn, 0, none⟩ = some (.int .i64 y0) ∧ W.cell? ⟨bn, 1, none⟩ = some (.string ⟨y1.toArray⟩) ∧ W.cell? ⟨bn, 2, none⟩ = some (.slice A1 n1 k1)) ∧ (W.cell? ⟨bm, 0, none⟩ = some (.int .i64 y0) ∧ W.cell? ⟨bm, 1, none⟩ = some (.string ⟨y1.toArray⟩) ∧ W.cell? ⟨bm, 2, none⟩ = some (.slice A2 n2 k2)) ∧ (W.cell? ⟨br, 0, none⟩ = some (.int .i64 z0) ∧ W.cell? ⟨br, 1, none⟩ = some (.string ⟨z1.toArray⟩) ∧ W.cell? ⟨br, 2, none⟩ = some (.slice A3 n3 k3)) ∧ (W.cell? ⟨bs, 0, none⟩ = some (.int .i64 z0) ∧ W.cell? ⟨bs, 1, none⟩ = some (.string ⟨z1.toArray⟩) ∧ W.cell? ⟨bs, 2, none⟩ = some (.slice A4 n4 k4)) from ⟨⟨(X9.out.below h).c0, (X9.out.below h).c1, (X9.out.below h).c2⟩, ⟨(N9.out.below h).c0, (N9.out.below h).c1, (N9.out.below h).c2⟩, ⟨(M9.out.below h).c0, (M9.out.below h).c1, (M9.out.below h).c2⟩, ⟨(R9.out.below h).c0, (R9.out.below h).c1, (R9.out.below h).c2⟩, ⟨(S9.out.below h).c0, (S9.out.below h).c1, (S9.out.below h).c2⟩⟩))
  have HBc := Lib.hid (Below.refl w9.heap.size w9)
  go_region_held3 (fun W => (W.cell? ⟨w.heap.size, 0, none⟩ = some (.int .i64 d) ∧ W.cell? ⟨w.heap.size, 1, none⟩ = some (.string ⟨cz.toArray⟩) ∧ W.cell? ⟨w.heap.size, 2, none⟩ = some (.slice A n c)) ∧ (W.cell? ⟨bn, 0, none⟩ = some (.int .i64 y0) ∧ W.cell? ⟨bn, 1, none⟩ = some (.string ⟨y1.toArray⟩) ∧ W.cell? ⟨bn, 2, none⟩ = some (.slice A1 n1 k1)) ∧ (W.cell? ⟨bm, 0, none⟩ = some (.int .i64 y0) ∧ W.cell? ⟨bm, 1, none⟩ = some (.string ⟨y1.toArray⟩) ∧ W.cell? ⟨bm, 2, none⟩ = some (.slice A2 n2 k2)) ∧ (W.cell? ⟨br, 0, none⟩ = some (.int .i64 z0) ∧ W.cell? ⟨br, 1, none⟩ = some (.string ⟨z1.toArray⟩) ∧ W.cell? ⟨br, 2, none⟩ = some (.slice A3 n3 k3)) ∧ (W.cell? ⟨bs, 0, none⟩ = some (.int .i64 z0) ∧ W.cell? ⟨bs, 1, none⟩ = some (.string ⟨z1.toArray⟩) ∧ W.cell? ⟨bs, 2, none⟩ = some (.slice A4 n4 k4)))
    (first | (refine HSC.out _ ?_; repeat (first | exact HBc.out | refine Below.drew ?_ | refine Below.al ?_ _)))
    (first
      | (go_at_call 24; with_reducible refine (HC.out _ ?_).mono ?_
         · refine below_ahead B9.out ?_
           repeat (first | exact HBc.out | refine Below.drew ?_ | refine Below.al ?_ _)
         rintro e w' ⟨rfl, hb⟩
         have HBc := Lib.hid (below_via (w := w9) hb (by repeat (first | exact HBc.out | refine Below.drew ?_ | refine Below.al ?_ _)))
         clear hb)
      | (go_at_call 19; with_reducible refine (HD.out _ ?_).mono ?_
         · refine below_ahead B9.out ?_
           repeat (first | exact HBc.out | refine Below.drew ?_ | refine Below.al ?_ _)
         rintro e w' ⟨rfl, hb⟩
         have HBc := Lib.hid (below_via (w := w9) hb (by repeat (first | exact HBc.out | refine Below.drew ?_ | refine Below.al ?_ _)))
         clear hb)
      | (go_at_call 26; with_reducible refine (HA.out _ ?_).mono ?_
         · refine below_ahead B9.out ?_
           repeat (first | exact HBc.out | refine Below.drew ?_ | refine Below.al ?_ _)
         rintro e w' ⟨rfl, hb⟩
         have HBc := Lib.hid (below_via (w := w9) hb (by repeat (first | exact HBc.out | refine Below.drew ?_ | refine Below.al ?_ _)))
         clear hb)
      | (go_at_call 27; with_reducible refine (HU.out _ ?_).mono ?_
         · refine below_ahead B9.out ?_
           repeat (first | exact HBc.out | refine Below.drew ?_ | refine Below.al ?_ _)
         rintro e w' ⟨rfl, hb⟩
         have HBc := Lib.hid (below_via (w := w9) hb (by repeat (first | exact HBc.out | refine Below.drew ?_ | refine Below.al ?_ _)))
         clear hb)
      | (go_at_call 11; with_reducible refine (HW.out _ ?_).mono ?_
         · refine below_ahead B9.out ?_
           repeat (first | exact HBc.out | refine Below.drew ?_ | refine Below.al ?_ _)
         rintro e w' ⟨rfl, hb⟩
         have HBc := Lib.hid (below_via (w := w9) hb (by repeat (first | exact HBc.out | refine Below.drew ?_ | refine Below.al ?_ _)))
         clear hb)
      | (go_at_call 25; with_reducible refine (HX.out y0 y1 A1 n1 k1 A2 n2 k2 y2 _ ?_ ?_).mono ?_
         · refine N9.out.lns.below ?_
           repeat (first | exact HBc.out | refine Below.drew ?_ | refine Below.al ?_ _)
         · refine M9.out.lns.below ?_
           repeat (first | exact HBc.out | refine Below.drew ?_ | refine Below.al ?_ _)
         rintro e w' ⟨rfl, hb⟩
         have HBc := Lib.hid (below_via (w := w9) hb (by repeat (first | exact HBc.out | refine Below.drew ?_ | refine Below.al ?_ _)))
         clear hb)
      | (go_at_call 25; with_reducible refine (HX.out z0 z1 A3 n3 k3 A4 n4 k4 z2 _ ?_ ?_).mono ?_
         · refine R9.out.lns.below ?_
           repeat (first | exact HBc.out | refine Below.drew ?_ | refine Below.al ?_ _)
         · refine S9.out.lns.below ?_
           repeat (first | exact HBc.out | refine Below.drew ?_ | refine Below.al ?_ _)
         rintro e w' ⟨rfl, hb⟩
         have HBc := Lib.hid (below_via (w := w9) hb (by repeat (first | exact HBc.out | refine Below.drew ?_ | refine Below.al ?_ _)))
         clear hb))
  all_goals
    go_wp2_with fail
    exact HP.out _ (below_ahead B9.out (by repeat (first | exact HBc.out | refine Below.drew ?_ | refine Below.al ?_ _)))
set_option maxRecDepth 100000 in
set_option maxHeartbeats 4000000 in
theorem checks_great (d : Int) (cz : List UInt8) (A : Option Addr) (n c : Nat) (l : List Ln) (ka kc : List UInt8) (w : World) (hr : rowL.Rds w A n c l) (hg : g1B cz l = true) (ht : Tab w) (hm : ML w) :
    Calls Tryz.prog 5 #[.agg (enV d cz A n c), .string ⟨ka.toArray⟩, .string ⟨kc.toArray⟩] w (BoolPost true w) := by
  have B0 := Lib.hid (Below.al (Below.refl _ w) (.cells #[.int .i64 d, .string ⟨cz.toArray⟩, .slice A n c] 32))
  have HG := Lib.hid (fun W (h : Below w.heap.size w W) => rgreat1_any d cz A n c l W (hr.below h))
  rw [hg] at HG
  have HW := Lib.hid (fun W (h : Below w.heap.size w W) => awake_any W (ht.below h) (hm.below h))
  have HP := Lib.hid (fun W (h : Below w.heap.size w W) => (show BoolPost true w (.returned (.bool true)) W from ⟨rfl, h⟩))
  clear hr ht hm hg
  generalize BoolPost true w = Post at *
  unfold enV at *
  go_enter Tryz.func5, Tryz.ntmps5
  go_wp2_with fail
  generalize w.alloc (.cells #[.int .i64 d, .string ⟨cz.toArray⟩, .slice A n c] 32) = w0 at *
  refine (HG.out _ B0.out).mono ?_
  rintro e w1 ⟨rfl, hb⟩
  have B1 := Lib.hid (below_next B0.out hb ⟨rfl, rfl, rfl, rfl⟩)
  clear hb B0 HG
  go_wp2_with fail
  refine (HW.out _ B1.out).mono ?_
  rintro e w2 ⟨rfl, hb⟩
  have B2 := Lib.hid (below_next B1.out hb ⟨rfl, rfl, rfl, rfl⟩)
  clear hb B1
  go_wp2_with fail
  exact HP.out _ B2.out
theorem checks_row (d : Int) (cz : List UInt8) (A : Option Addr) (n c : Nat) (l : List Ln) (ka kc : ByteArray) (w : World) (hr : rowL.Rds w A n c l) (ht : Tab w) (hm : ML w) :
    Calls Tryz.prog 5 #[.agg (enV d cz A n c), .string ka, .string kc] w (BoolPost true w) := by
  suffices H : ∀ ka kc : List UInt8, Calls Tryz.prog 5 #[.agg (enV d cz A n c), .string ⟨ka.toArray⟩, .string ⟨kc.toArray⟩] w (BoolPost true w) from H ka.data.toList kc.data.toList
  intro ka kc
  cases hg : g1B cz l with
  | true => exact checks_great d cz A n c l ka kc w hr hg ht hm
  | false => exact checks_fit d cz A n c l ka kc w hr hg ht hm
end Go.Proofs.YtdnomfekblmnbaaGreatDoor

/- EntryChecks: for every entry and any strings the call of tranchelaw35.EntryChecks returns true, and its arguments read as before. The card ties the variables of Go's library that it lists; the seat is a pruned copy: of packages left out the card says nothing. -/
namespace Go.Proofs.YtdnomfekblmnbaaGreatDoor.entryChecks
open Go.ChangeShapes Go.WideShapes Go.ChangeAt Go.RowKit
open Go.ChangeMaps (open_string shut_string)
set_option linter.unusedVariables false

set_option maxRecDepth 100000 in
theorem lifted (os : Os) (started : os.Started) (H : Type) (enc : TypeId × Value → H) :
    ReturnsInHanded {} Tryz.checked os 5 .any (fun w args => (Rows.entryChecksSpec.pre enc Tryz.prog Tryz.f5 [] false w args ∧ laidMetH Tryz.prog Rows.entryChecksRow.laid w) ∧ sizedMet enc Tryz.prog Tryz.f5 (OpenSpec.ofChange Rows.entryChecksSpec) false w args)
      (Rows.entryChecksSpec.post enc Tryz.prog Tryz.f5 false true false false) := by
  refine handed_both (C := Tryz.checked) (X := fun w _ => laidMetH Tryz.prog Rows.entryChecksRow.laid w) (fun _ _ _ hh h => h.of_heap hh) own started (by kernel_rfl) Tryz.func5
    (ChangeSpec.witness_shaped (enc := enc) (C := Tryz.checked) (os := os) (X := fun w _ => laidMetH Tryz.prog Rows.entryChecksRow.laid w) false (World.laidAll Tryz.prog os Rows.entryChecksRow.laid) #[.agg #[.int .i64 0, .string ByteArray.empty, .slice none 0 0], .string ByteArray.empty, .string ByteArray.empty] 8 (World.laidAll_os _ _ _)
      (World.shaped_of_ZipB (by kernel_rfl) (by kernel_rfl)) (by kernel_rfl) (by kernel_rfl) (by kernel_rfl)
      (by rw [MakeChecks.laidMetH_plain _ _ _ (by kernel_rfl)]; exact laidMet_laidAll _ (by kernel_rfl) (by kernel_rfl))) ?_
  intro W base args ds gs before hval0 hW hL hsh
  have hval : ∀ (j : Nat) t v, Tryz.f5.params[j]? = some t → args[j]? = some v → Value.okWide Tryz.prog W .any base t v := hval0
  have hW' := hW
  obtain ⟨p, q, hA0, hV, rfl, hfz, hnd⟩ := hW
  have hA : DataW.TrodAll enc Tryz.prog W 0 (fun _ => true) true Tryz.f5.params.toList args.toList ds p := hA0
  rw [Tryz.params5] at hA hval
  obtain ⟨v0, vs0, d0, ds0, p0, q0, hargs, rfl, rfl, h0, r0⟩ := trodAll_cons hA
  obtain ⟨v1, vs1, d1, ds1, p1, q1, rfl, rfl, rfl, h1, r1⟩ := trodAll_cons r0
  obtain ⟨v2, vs2, d2, ds2, p2, q2, rfl, rfl, rfl, h2, r2⟩ := trodAll_cons r1
  obtain ⟨rfl, rfl, rfl⟩ := trodAll_nil r2
  obtain rfl : args = #[v0, v1, v2] := by cases args; simp_all
  obtain ⟨rfl, rfl⟩ := trodVars_none hV
  obtain ⟨t0, z0, A0, n0, c0, l0, rfl, s0⟩ := arg_entry (hval 0 32 v0 rfl rfl) h0
  obtain ⟨a1, rfl, rfl, rfl, w1⟩ := open_string Tryz.underlying9 (hval 1 9 v1 rfl rfl) h1
  obtain ⟨a2, rfl, rfl, rfl, w2⟩ := open_string Tryz.underlying9 (hval 2 9 v2 rfl rfl) h2
  clear hA0 hval0
  refine (checks_row t0 z0 A0 n0 c0 l0 a1 a2 W s0 (tab_of hL) (ml_of hsh)).mono fun e W' ⟨he, hg⟩ => ?_
  subst he
  exact ⟨_, rfl, post_true (tb := 4) hW' rfl laid (by kernel_rfl) rfl Tryz.underlying4 ⟨rfl, rfl, rfl⟩ hg⟩

theorem over : Rows.EntryChecksSaid :=
  OpenClaim.holds_of_wide 5 Tryz.f5 rfl rfl rfl rfl rfl rfl rfl ⟨rfl, rfl, rfl, rfl, rfl⟩ rfl rfl rfl rfl rfl (by kernel_rfl) Tryz.func5 (by kernel_rfl)
    (of_decide_eq_true (by kernel_rfl)) (by unfold Func.isWrapper; first | (rw [if_pos (by decide +kernel)]; kernel_rfl) | (rw [if_neg (by decide +kernel)]; exact ⟨rfl, rfl⟩))
    (fun os started H enc _ => lifted os started H enc)

theorem plain (f : FuncId) (fn : Func) (hf : Tryz.pinned.checked.prog.funcNamed "tranche/tranchelaw35.EntryChecks" = some f) (hfn : Tryz.pinned.checked.prog.funcs[f]? = some fn) :
    true = Tryz.pinned.checked.prog.looks [] ∧ ∀ (j : Nat) t, fn.params[j]? = some t → Tryz.pinned.checked.prog.wantsStandIn t = false := by
  obtain rfl : f = 5 := Option.some.inj ((show Tryz.prog.funcNamed "tranche/tranchelaw35.EntryChecks" = some 5 by kernel_rfl).symm.trans hf) |>.symm
  obtain rfl : fn = Tryz.f5 := (Option.some.inj (Tryz.func5.symm.trans hfn)).symm
  refine ⟨by kernel_rfl, fun j t ht => ?_⟩
  rw [Tryz.params5] at ht
  have hm : t ∈ [32, 9, 9] := by simpa using Array.mem_of_getElem? ht
  have hall : (([32, 9, 9] : List TypeId).all fun u => !Tryz.prog.wantsStandIn u) = true := by kernel_rfl
  exact (show Tryz.prog.wantsStandIn t = false by simpa using List.all_eq_true.1 hall t hm)

theorem proved : Rows.EntryChecksCardSaid :=
  Claim7.holds_tied_plain_at .later [] _ _ _ _ over (fun _ h => by cases h) (by kernel_rfl) (fun _ h => by cases h) entryChecks_row_tie rfl ⟨rfl, rfl⟩ (by kernel_rfl) rfl plain (by kernel_rfl)
end Go.Proofs.YtdnomfekblmnbaaGreatDoor.entryChecks
