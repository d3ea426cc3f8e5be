/- What the walks of the laws share: boxes with entries, returned entries, slices of one entry. -/
import Derived.Test.YtdnomfekblmnbaaGreatDoorQ7
import Derived.Test.YtdnomfekblmnbaaGreatDoorQ9
import Derived.Test.YtdnomfekblmnbaaGreatDoorQ8
import Derived.Test.YtdnomfekblmnbaaGreatDoorQ10
import Derived.WalkLawsBesides
import Derived.Deep.DeepCutAuto
namespace Go.Proofs.YtdnomfekblmnbaaGreatDoor
open Go.RowKit Go.Maps Num

/-- a box with an entry in it -/
structure Bx (W : World) (b : Nat) (d : Int) (s : List UInt8) (A : Option Addr) (n c : Nat) (l : List Ln) : Prop where
  c0 : W.cell? ⟨b, 0, none⟩ = some (.int .i64 d)
  c1 : W.cell? ⟨b, 1, none⟩ = some (.string ⟨s.toArray⟩)
  c2 : W.cell? ⟨b, 2, none⟩ = some (.slice A n c)
  lns : Lns W A n c l
theorem Bx.lt {W : World} {b : Nat} {d : Int} {s : List UInt8} {A : Option Addr} {n c : Nat} {l : List Ln} (h : Bx W b d s A n c l) : b < W.heap.size := block_lt_of_cell h.c0
theorem Bx.below {W W' : World} {b : Nat} {d : Int} {s : List UInt8} {A : Option Addr} {n c : Nat} {l : List Ln} (h : Bx W b d s A n c l) (hb : Below W.heap.size W W') : Bx W' b d s A n c l :=
  ⟨(hb.cell (p := ⟨b, 0, none⟩) h.lt).trans h.c0, (hb.cell (p := ⟨b, 1, none⟩) h.lt).trans h.c1, (hb.cell (p := ⟨b, 2, none⟩) h.lt).trans h.c2, h.lns.below hb⟩
theorem Bx.new {W : World} {d : Int} {s : List UInt8} {A : Option Addr} {n c : Nat} {l : List Ln} (h : Lns W A n c l) : Bx (W.alloc (.cells #[.int .i64 d, .string ⟨s.toArray⟩, .slice A n c] 32)) W.heap.size d s A n c l := by
  obtain ⟨⟨c0, c1, c2⟩, _⟩ := cells3 (heap_alloc_new W (.cells #[.int .i64 d, .string ⟨s.toArray⟩, .slice A n c] 32))
  exact ⟨c0, c1, c2, h.below ((Below.refl _ _).alloc (Nat.le_refl _) _)⟩
theorem Bx.al {W : World} {b : Nat} {d : Int} {s : List UInt8} {A : Option Addr} {n c : Nat} {l : List Ln} (h : Bx W b d s A n c l) (o : Obj) : Bx (W.alloc o) b d s A n c l := h.below (Below.al (Below.refl _ _) o)
/-- the like, of any lines -/
structure BxR (W : World) (b : Nat) (d : Int) (s : List UInt8) (A : Option Addr) (n c : Nat) : Prop where
  c0 : W.cell? ⟨b, 0, none⟩ = some (.int .i64 d)
  c1 : W.cell? ⟨b, 1, none⟩ = some (.string ⟨s.toArray⟩)
  c2 : W.cell? ⟨b, 2, none⟩ = some (.slice A n c)
theorem BxR.lt {W : World} {b : Nat} {d : Int} {s : List UInt8} {A : Option Addr} {n c : Nat} (h : BxR W b d s A n c) : b < W.heap.size := block_lt_of_cell h.c0
theorem BxR.below {W W' : World} {b : Nat} {d : Int} {s : List UInt8} {A : Option Addr} {n c : Nat} (h : BxR W b d s A n c) (hb : Below W.heap.size W W') : BxR W' b d s A n c :=
  ⟨(hb.cell (p := ⟨b, 0, none⟩) h.lt).trans h.c0, (hb.cell (p := ⟨b, 1, none⟩) h.lt).trans h.c1, (hb.cell (p := ⟨b, 2, none⟩) h.lt).trans h.c2⟩
theorem BxR.new (W : World) (d : Int) (s : List UInt8) (A : Option Addr) (n c : Nat) : BxR (W.alloc (.cells #[.int .i64 d, .string ⟨s.toArray⟩, .slice A n c] 32)) W.heap.size d s A n c := by
  obtain ⟨⟨c0, c1, c2⟩, _⟩ := cells3 (heap_alloc_new W (.cells #[.int .i64 d, .string ⟨s.toArray⟩, .slice A n c] 32))
  exact ⟨c0, c1, c2⟩
theorem BxR.al {W : World} {b : Nat} {d : Int} {s : List UInt8} {A : Option Addr} {n c : Nat} (h : BxR W b d s A n c) (o : Obj) : BxR (W.alloc o) b d s A n c := h.below (Below.al (Below.refl _ _) o)
theorem zblk {W w' : World} {b : Nat} {cs : Array Value} {t : TypeId} (hb : Below W.heap.size W w') (h : W.heap[b]? = some (.cells cs t)) : w'.heap[b]? = some (.cells cs t) := (hb.block b (block_lt_of_row h)).trans h
theorem zA (w : World) (o1 o2 : Obj) : ((w.alloc o1).alloc o2).heap[w.heap.size]? = some o1 := by
  rw [heap_alloc_old _ _ (by simp)]; exact heap_alloc_new w o1
theorem zB (w : World) (o1 o2 : Obj) : ((w.alloc o1).alloc o2).heap[w.heap.size + 1]? = some o2 := by
  have h := heap_alloc_new (w.alloc o1) o2
  rwa [show (w.alloc o1).heap.size = w.heap.size + 1 by simp] at h
theorem own_set3 {α : Type} {R : Row α} {B : Nat} {w : World} {v : Value} {l : List α} (h : R.Own B w v l) {b : Nat} (hb : b < B) (p q u : Value) : R.Own B (((w.setCell ⟨b, 0, none⟩ p).setCell ⟨b, 1, none⟩ q).setCell ⟨b, 2, none⟩ u) v l :=
  have hr : ∀ k, some b = some k → k < B := fun k e => by have := Option.some.inj e; omega
  ((h.kept (grown_setCell w ⟨b, 0, none⟩ p) hr).kept (grown_setCell _ ⟨b, 1, none⟩ q) hr).kept (grown_setCell _ ⟨b, 2, none⟩ u) hr
theorem own_lns {B n c : Nat} {w : World} {A : Option Addr} {l : List Ln} (h : rowL.Own B w (.slice A n c) l) (hn : n ≤ 1000) (hs : ∀ x ∈ l, Sml x) : Lns w A n c l := by
  obtain ⟨A', c', e, hr⟩ := h.rds
  injection e with e1 e2 e3
  subst e1 e3
  rw [← e2] at hr
  exact Lns.of_rds hr hn hs
theorem below_set1 {B b : Nat} {w W : World} (h : Below B w W) (hB : B ≤ w.heap.size) (hb : B ≤ b) (i : Nat) (v : Value) : Below B w (W.setCell ⟨b, i, none⟩ v) := below_grown h hB (grown_setCell W ⟨b, i, none⟩ v) hb
theorem below_al2 {B : Nat} {w W : World} (h : Below B w W) (hB : w.heap.size = B) (o : Obj) : Below B w (W.alloc o) := h.alloc (by have := h.size; omega) o
theorem below_set2 {B b : Nat} {w W : World} (h : Below B w W) (hB : w.heap.size = B) (hb : B ≤ b) (i : Nat) (v : Value) : Below B w (W.setCell ⟨b, i, none⟩ v) := below_set1 h (by omega) hb i v
/-- the first line of a slice of the call's own -/
theorem own_head {B g n k : Nat} {w : World} {x : Ln} {r : List Ln} (h : rowL.Own B w (.slice (some ⟨g, 0, none⟩) n k) (x :: r)) (hn : 0 < n) :
    w.cell? ⟨g, 0, none⟩ = some (.string ⟨x.1.toArray⟩) ∧ w.cell? ⟨g, 1, none⟩ = some (.string ⟨x.2.1.toArray⟩) ∧ w.cell? ⟨g, 2, none⟩ = some (.string ⟨x.2.2.toArray⟩) ∧ g < w.heap.size ∧ B ≤ g ∧ w.frozen? ⟨g, 2, none⟩ = false ∧ (x :: r).length = n := by
  have hf := Row.Own.frz h 2
  have ho := h.own g rfl
  obtain ⟨A, c, e, hr⟩ := h.rds
  injection e with e1 e2 e3
  subst e1 e3
  rw [← e2] at hr
  have c0 := hr.cell rowL_ok ln0 0 0 _ hn rfl
  have c1 := hr.cell rowL_ok ln0 0 1 _ hn rfl
  have c2 := hr.cell rowL_ok ln0 0 2 _ hn rfl
  exact ⟨c0, c1, c2, ho.2, ho.1, hf, e2.symm⟩
theorem below_ahead2 {B : Nat} {w W w' : World} (h : Below B w W) (hB : w.heap.size = B) (hb : Below W.heap.size W w') : Below B w w' := h.trans (hb.mono (by have := h.size; omega))
/-- the first line's amount is written -/
theorem own_set_amt {B g n k : Nat} {w : World} {a cu am : List UInt8} {r : List Ln} (h : rowL.Own B w (.slice (some ⟨g, 0, none⟩) n k) ((a, cu, am) :: r)) (nm : List UInt8) : rowL.Own B (w.setCell ⟨g, 2, none⟩ (.string ⟨nm.toArray⟩)) (.slice (some ⟨g, 0, none⟩) n k) ((a, cu, nm) :: r) := by
  have hn : n = ((a, cu, am) :: r).length := by
    rcases h.2 with ⟨e, _⟩ | ⟨g', cap', cur, e, _⟩
    · cases e
    · injection e
  subst hn
  have h' : w.ownsRow B 45 3 (.slice (some ⟨g, 0, none⟩) ((a, cu, am) :: r).length k) ((a, cu, am) :: r).length (rowL.vs ((a, cu, am) :: r)) := h
  exact (h'.stored 2 (.string ⟨nm.toArray⟩)).1
/-- a slice of one entry -/
theorem ens1d {W : World} {b : Nat} {d : Int} {s : List UInt8} {A : Option Addr} {n c : Nat} {l : List Ln} (c0 : W.cell? ⟨b, 0, none⟩ = some (.int .i64 d)) (c1 : W.cell? ⟨b, 1, none⟩ = some (.string ⟨s.toArray⟩)) (c2 : W.cell? ⟨b, 2, none⟩ = some (.slice A n c)) (hl : Lns W A n c l) : Ens W (some ⟨b, 0, none⟩) 1 1 [(d, s, l)] := by
  refine Res.ens (ps := [((d, s, A, n, c), (d, s, l))]) ⟨rds_cells [((d, s, A, n, c), (d, s, l))] (block_lt_of_cell c0) ?_ (by show 1 ≤ maxLen; decide), ?_⟩ (by decide)
  · intro j u hu
    rcases j with _ | _ | _ | j
    · exact c0.trans hu
    · exact c1.trans hu
    · exact c2.trans hu
    · cases hu
  · intro p hp
    rw [List.mem_singleton.1 hp]
    exact ⟨rfl, rfl, hl⟩
/-- an entry and a code, returned -/
def EnQ (d : Int) (s : List UInt8) (l : List Ln) (i : Int) (w : World) (e : Ending) (w' : World) : Prop :=
  ∃ A n c, e = .returned (.tuple #[.agg #[.int .i64 d, .string ⟨s.toArray⟩, .slice A n c], .int .i64 i]) ∧ Lns w' A n c l ∧ Below w.heap.size w w'
theorem nrm_enq {d : Int} {c : List UInt8} {l : List Ln} {w w' : World} {e : Ending} (h : NrmPost d c l w e w') : EnQ (nrmY d c l).1 (nrmY d c l).2.1 (nrmY d c l).2.2 (nrmI d c l) w e w' := nrm_enp h
theorem rev_enq {d : Int} {c : List UInt8} {l : List Ln} {w w' : World} {e : Ending} (h : RevPost d c l w e w') : EnQ (revY d c l).1 (revY d c l).2.1 (revY d c l).2.2 (revI d c l) w e w' := rev_enp h
/-- a call ahead: a world of it is one of the caller's -/
theorem below_ahead {w W w' : World} (h : Below w.heap.size w W) (hb : Below W.heap.size W w') : Below w.heap.size w w' := h.trans (hb.mono h.size)
end Go.Proofs.YtdnomfekblmnbaaGreatDoor

/- EntryOrder: the walk. -/
namespace Go.Proofs.YtdnomfekblmnbaaGreatDoor
open Go.RowKit Go.Maps Num

/-- an entry that a law examines -/
def fitB (p : RE) : Prop := g1B p.2.2.1 p.2.2.2 = false ∧ chkE p.2.1 p.2.2.1 p.2.2.2 = 0
set_option maxRecDepth 100000 in
set_option maxHeartbeats 8000000 in
theorem order_all (dx : Int) (cx : List UInt8) (Ax : Option Addr) (nx kx : Nat) (lx : List Ln) (dy : Int) (cy : List UInt8) (Ay : Option Addr) (ny ky : Nat) (ly : List Ln) (dz : Int) (cz : List UInt8) (Az : Option Addr) (nz kz : Nat) (lz : List Ln) (w : World) (hx : rowL.Rds w Ax nx kx lx) (hy : rowL.Rds w Ay ny ky ly) (hz : rowL.Rds w Az nz kz lz) (ht : Tab w) (hm : ML w) :
    Calls Tryz.prog 4 #[.agg (enV dx cx Ax nx kx), .agg (enV dy cy Ay ny ky), .agg (enV dz cz Az nz kz)] w (BoolPost true w) := by
  have B0 := Lib.hid (Below.al (Below.al (Below.al (Below.refl _ w) (.cells #[.int .i64 dx, .string ⟨cx.toArray⟩, .slice Ax nx kx] 32)) (.cells #[.int .i64 dy, .string ⟨cy.toArray⟩, .slice Ay ny ky] 32)) (.cells #[.int .i64 dz, .string ⟨cz.toArray⟩, .slice Az nz kz] 32))
  have s1 : (w.alloc (.cells #[.int .i64 dx, .string ⟨cx.toArray⟩, .slice Ax nx kx] 32)).heap.size = w.heap.size + 1 := by simp
  have s2 : ((w.alloc (.cells #[.int .i64 dx, .string ⟨cx.toArray⟩, .slice Ax nx kx] 32)).alloc (.cells #[.int .i64 dy, .string ⟨cy.toArray⟩, .slice Ay ny ky] 32)).heap.size = w.heap.size + 2 := by simp
  have X0 := Lib.hid (((BxR.new w dx cx Ax nx kx).al (.cells #[.int .i64 dy, .string ⟨cy.toArray⟩, .slice Ay ny ky] 32)).al (.cells #[.int .i64 dz, .string ⟨cz.toArray⟩, .slice Az nz kz] 32))
  have Y0 := (BxR.new (w.alloc (.cells #[.int .i64 dx, .string ⟨cx.toArray⟩, .slice Ax nx kx] 32)) dy cy Ay ny ky).al (.cells #[.int .i64 dz, .string ⟨cz.toArray⟩, .slice Az nz kz] 32)
  have Z0 := BxR.new ((w.alloc (.cells #[.int .i64 dx, .string ⟨cx.toArray⟩, .slice Ax nx kx] 32)).alloc (.cells #[.int .i64 dy, .string ⟨cy.toArray⟩, .slice Ay ny ky] 32)) dz cz Az nz kz
  rw [s1] at Y0
  rw [s2] at Z0
  change BxR _ (w.heap.size + 1 + 1) _ _ _ _ _ at Z0
  have Y0 := Lib.hid Y0
  have Z0 := Lib.hid Z0
  clear s1 s2
  have HRD := Lib.hid (show ∀ p ∈ [((dx, cx, Ax, nx, kx), (dx, cx, lx)), ((dy, cy, Ay, ny, ky), (dy, cy, ly)), ((dz, cz, Az, nz, kz), (dz, cz, lz))], RdG w p by
    intro p hp
    simp only [List.mem_cons, List.not_mem_nil, or_false] at hp
    rcases hp with rfl | rfl | rfl
    · exact ⟨rfl, rfl, hx⟩
    · exact ⟨rfl, rfl, hy⟩
    · exact ⟨rfl, rfl, hz⟩)
  have HK := Lib.hid (fun (p : RE) (hp : RdG w p) (hg : g1B p.2.2.1 p.2.2.2 = false) (W : World) (h : Below w.heap.size w W) => (show Calls Tryz.prog 19 #[.agg (enV p.2.1 p.2.2.1 (rawA p.1) (rawN p.1) (rawC p.1))] W (IntPost (chkE p.2.1 p.2.2.1 p.2.2.2) W) from
    rchkE_any _ _ _ _ _ _ W (((g1_fit hg).lns hp.2.2).below h) (by have := (g1_fit hg).cause; unfold maxLen; omega) (fun q hq => ((g1_fit hg).ln q hq).2.2)))
  have HW := Lib.hid (fun W (h : Below w.heap.size w W) => awake_any W (ht.below h) (hm.below h))
  have HP := Lib.hid (fun W (h : Below w.heap.size w W) => (show BoolPost true w (.returned (.bool true)) W from ⟨rfl, h⟩))
  have HC := Lib.hid (fun (hgx : g1B cx lx = false) (hgy : g1B cy ly = false) (hgz : g1B cz lz = false) => (show (∀ W, Below w.heap.size w W → Calls Tryz.prog 14 #[.agg (enV dx cx Ax nx kx), .agg (enV dy cy Ay ny ky)] W (IntPost (cmpE (dx, cx, lx) (dy, cy, ly)) W))
      ∧ (∀ W, Below w.heap.size w W → Calls Tryz.prog 14 #[.agg (enV dy cy Ay ny ky), .agg (enV dz cz Az nz kz)] W (IntPost (cmpE (dy, cy, ly) (dz, cz, lz)) W))
      ∧ (∀ W, Below w.heap.size w W → Calls Tryz.prog 14 #[.agg (enV dx cx Ax nx kx), .agg (enV dz cz Az nz kz)] W (IntPost (cmpE (dx, cx, lx) (dz, cz, lz)) W))
      ∧ (∀ W, Below w.heap.size w W → Calls Tryz.prog 14 #[.agg (enV dy cy Ay ny ky), .agg (enV dx cx Ax nx kx)] W (IntPost (cmpE (dy, cy, ly) (dx, cx, lx)) W))
      ∧ (∀ W, Below w.heap.size w W → Calls Tryz.prog 14 #[.agg (enV dx cx Ax nx kx), .agg (enV dx cx Ax nx kx)] W (IntPost (cmpE (dx, cx, lx) (dx, cx, lx)) W))
      ∧ (∀ W A n k l, Below w.heap.size w W → Lns W A n k l → Calls Tryz.prog 14 #[.agg (enV dx cx Ax nx kx), .agg (enV dx cx A n k)] W (IntPost (cmpE (dx, cx, lx) (dx, cx, l)) W))
      ∧ (∀ W, Below w.heap.size w W → Calls Tryz.prog 20 #[.agg (enV dx cx Ax nx kx)] W (EnQ (revY dx cx lx).1 (revY dx cx lx).2.1 (revY dx cx lx).2.2 (revI dx cx lx) W))
      ∧ Lns w Ax nx kx lx ∧ Lns w Ay ny ky ly from by
    have hfx := g1_fit hgx
    have hfy := g1_fit hgy
    have hfz := g1_fit hgz
    exact ⟨fun W (h : Below w.heap.size w W) => ecmp_any dx dy cx cy Ax Ay nx kx ny ky lx ly W ((hfx.lns hx).below h) ((hfy.lns hy).below h), fun W (h : Below w.heap.size w W) => ecmp_any dy dz cy cz Ay Az ny ky nz kz ly lz W ((hfy.lns hy).below h) ((hfz.lns hz).below h), fun W (h : Below w.heap.size w W) => ecmp_any dx dz cx cz Ax Az nx kx nz kz lx lz W ((hfx.lns hx).below h) ((hfz.lns hz).below h), fun W (h : Below w.heap.size w W) => ecmp_any dy dx cy cx Ay Ax ny ky nx kx ly lx W ((hfy.lns hy).below h) ((hfx.lns hx).below h), fun W (h : Below w.heap.size w W) => ecmp_any dx dx cx cx Ax Ax nx kx nx kx lx lx W ((hfx.lns hx).below h) ((hfx.lns hx).below h),
      fun W A n k l h hl => ecmp_any dx dx cx cx Ax A nx kx n k lx l W ((hfx.lns hx).below h) hl,
      fun W h => (Rev_any dx cx Ax nx kx lx W ((hfx.lns hx).below h) (by have := hfx.cause; unfold maxLen; omega) (fun q hq => Nat.le_trans (hfx.ln q hq).2.2 (by decide)) (ht.below h) (hm.below h)).mono fun _ _ => rev_enq, hfx.lns hx, hfy.lns hy⟩))
  clear hx hy hz ht hm
  generalize hps : [((dx, cx, Ax, nx, kx), (dx, cx, lx)), ((dy, cy, Ay, ny, ky), (dy, cy, ly)), ((dz, cz, Az, nz, kz), (dz, cz, lz))] = ps at HRD
  have HPS := Lib.hid hps
  clear hps
  generalize BoolPost true w = Post at *
  unfold enV at HK HC ⊢
  go_enter Tryz.func4, Tryz.ntmps4
  go_upto_region 1 with fail
  generalize ((w.alloc (.cells #[.int .i64 dx, .string ⟨cx.toArray⟩, .slice Ax nx kx] 32)).alloc (.cells #[.int .i64 dy, .string ⟨cy.toArray⟩, .slice Ay ny ky] 32)).alloc (.cells #[.int .i64 dz, .string ⟨cz.toArray⟩, .slice Az nz kz] 32) = w0 at *
  obtain ⟨x0, x1, x2⟩ := X0.out
  obtain ⟨y0, y1, y2⟩ := Y0.out
  obtain ⟨z0, z1, z2⟩ := Z0.out
  go_wp2_with fail
  clear x0 x1 x2 y0 y1 y2 z0 z1 z2
  have B1 := Lib.hid (Below.al B0.out (.cells #[.int .i64 dx, .string ⟨cx.toArray⟩, .slice Ax nx kx, .int .i64 dy, .string ⟨cy.toArray⟩, .slice Ay ny ky, .int .i64 dz, .string ⟨cz.toArray⟩, .slice Az nz kz] 32))
  have X1 := Lib.hid (X0.out.al (.cells #[.int .i64 dx, .string ⟨cx.toArray⟩, .slice Ax nx kx, .int .i64 dy, .string ⟨cy.toArray⟩, .slice Ay ny ky, .int .i64 dz, .string ⟨cz.toArray⟩, .slice Az nz kz] 32))
  have Y1 := Lib.hid (Y0.out.al (.cells #[.int .i64 dx, .string ⟨cx.toArray⟩, .slice Ax nx kx, .int .i64 dy, .string ⟨cy.toArray⟩, .slice Ay ny ky, .int .i64 dz, .string ⟨cz.toArray⟩, .slice Az nz kz] 32))
  have Z1 := Lib.hid (Z0.out.al (.cells #[.int .i64 dx, .string ⟨cx.toArray⟩, .slice Ax nx kx, .int .i64 dy, .string ⟨cy.toArray⟩, .slice Ay ny ky, .int .i64 dz, .string ⟨cz.toArray⟩, .slice Az nz kz] 32))
  have L1 := Lib.hid (show rowE.Rds (w0.alloc (.cells #[.int .i64 dx, .string ⟨cx.toArray⟩, .slice Ax nx kx, .int .i64 dy, .string ⟨cy.toArray⟩, .slice Ay ny ky, .int .i64 dz, .string ⟨cz.toArray⟩, .slice Az nz kz] 32)) (some ⟨w0.heap.size, 0, none⟩) 3 3 ps by
    rw [← HPS.out]; exact rds_block rowE_ok [((dx, cx, Ax, nx, kx), (dx, cx, lx)), ((dy, cy, Ay, ny, ky), (dy, cy, ly)), ((dz, cz, Az, nz, kz), (dz, cz, lz))] (heap_alloc_new w0 (.cells #[.int .i64 dx, .string ⟨cx.toArray⟩, .slice Ax nx kx, .int .i64 dy, .string ⟨cy.toArray⟩, .slice Ay ny ky, .int .i64 dz, .string ⟨cz.toArray⟩, .slice Az nz kz] 32)) rfl (by show 3 ≤ maxLen; decide))
  have ll := Lib.hid (show ps.length = 3 by rw [← HPS.out]; rfl)
  have lb : w0.heap.size < (w0.alloc (.cells #[.int .i64 dx, .string ⟨cx.toArray⟩, .slice Ax nx kx, .int .i64 dy, .string ⟨cy.toArray⟩, .slice Ay ny ky, .int .i64 dz, .string ⟨cz.toArray⟩, .slice Az nz kz] 32)).heap.size := by simp
  clear X0 Y0 Z0 B0
  generalize w0.alloc (.cells #[.int .i64 dx, .string ⟨cx.toArray⟩, .slice Ax nx kx, .int .i64 dy, .string ⟨cy.toArray⟩, .slice Ay ny ky, .int .i64 dz, .string ⟨cz.toArray⟩, .slice Az nz kz] 32) = w1 at *
  generalize w0.heap.size = bl at *
  go_loopw [19, 8] (fun i _ wr => ∃ k : Nat, k ≤ 3 ∧ i = .int .i64 (k : Int) ∧ Hid (∀ x ∈ ps.take k, fitB x) ∧ Hid (Below w1.heap.size w1 wr)) (fun i _ _ => 3 - (intOf i).toNat)
  case atStart => exact ⟨0, by omega, rfl, Lib.hid (by simp), Lib.hid (Below.refl _ _)⟩
  case round =>
    obtain ⟨k, hk, rfl, HE, HB⟩ := hrel
    have HBw := Lib.hid (below_ahead B1.out HB.out)
    by_cases hlt : k < 3
    · have hkl : k < ps.length := by rw [ll.out]; exact hlt
      obtain ⟨p0, p1, p2⟩ := rds_cells3 (L1.out.below HB.out) k hlt
      rw [Nat.zero_add] at p0 p1 p2
      have hki : (k : Int) < (3 : Int) := by omega
      have lbr : bl < wr.heap.size := Nat.lt_of_lt_of_le lb HB.out.size
      have hmm := re_mem ps k hkl
      have hrd := HRD.out _ hmm
      have HTK := Lib.hid (take_re ps k hkl)
      have HKk := Lib.hid (HK.out _ hrd)
      clear hkl hmm
      generalize ps.getD k re0 = u at *
      obtain ⟨⟨d1, z1, A1, n1, m1⟩, ⟨d2, z2, k2⟩⟩ := u
      obtain ⟨e1, e2, e3⟩ := hrd
      simp only [rawA, rawN, rawC] at p0 p1 p2 e1 e2 e3 HKk
      subst e1 e2
      have LC := Lib.hid (fun W (h : Below w.heap.size w W) => rgreat1_any d1 z1 A1 n1 m1 k2 W (e3.below h))
      unfold enV at LC
      obtain ⟨gy, hgy⟩ : ∃ gy, g1B z1 k2 = gy := ⟨_, rfl⟩
      rw [hgy] at LC HKk
      clear e3
      have HBa := Lib.hid (Below.al HBw.out (.cells #[.int .i64 d1, .string ⟨z1.toArray⟩, .slice A1 n1 m1] 32))
      have U0 := Lib.hid (BxR.new wr d1 z1 A1 n1 m1)
      have HBl := Lib.hid (Below.al HB.out (.cells #[.int .i64 d1, .string ⟨z1.toArray⟩, .slice A1 n1 m1] 32))
      go_wp2_with fail
      generalize wr.alloc (.cells #[.int .i64 d1, .string ⟨z1.toArray⟩, .slice A1 n1 m1] 32) = wa at *
      generalize wr.heap.size = bu at *
      refine (LC.out _ HBa.out).mono ?_
      rintro e w' ⟨rfl, hb⟩
      have HB2 := Lib.hid (below_next HBa.out hb ⟨rfl, rfl, rfl, rfl⟩)
      have HL2 := Lib.hid (below_next HBl.out hb ⟨rfl, rfl, rfl, rfl⟩)
      have U1 := Lib.hid (U0.out.below hb)
      clear hb LC HBa HBl U0 p0 p1 p2
      obtain ⟨u0, u1, u2⟩ := U1.out
      cases gy
      · go_wp2_with fail
        refine (HKk.out trivial _ HB2.out).mono ?_
        rintro e w'' ⟨rfl, hb⟩
        have HB3 := Lib.hid (below_next HB2.out hb ⟨rfl, rfl, rfl, rfl⟩)
        have HL3 := Lib.hid (below_next HL2.out hb ⟨rfl, rfl, rfl, rfl⟩)
        clear hb
        obtain ⟨ck, hck⟩ : ∃ ck, chkE d1 z1 k2 = ck := ⟨_, rfl⟩
        rw [hck]
        by_cases h0 : ck = 0
        · subst h0
          have HE2 := Lib.hid (show ∀ x ∈ ps.take (k + 1), fitB x from fun x hx => by
            rw [HTK.out] at hx
            rcases List.mem_append.1 hx with h | h
            · exact HE.out x h
            · rw [List.mem_singleton.1 h]; exact ⟨hgy, hck⟩)
          clear hgy hck
          go_wp2_with fail
          go_roundw
          case rel => exact ⟨k + 1, by omega, by go_num, HE2, HL3⟩
          case measure => simp [intOf]; omega
        · have hb0 : (ck == 0) = false := beq_eq_false_iff_ne.2 h0
          have hb1 : (ck != 0) = true := by rw [bne_iff_ne]; exact h0
          clear hgy hck
          go_wp2_with fail
          refine (HW.out _ HB3.out).mono ?_
          rintro e w4 ⟨rfl, hb⟩
          have HB4 := Lib.hid (below_next HB3.out hb ⟨rfl, rfl, rfl, rfl⟩)
          clear hb
          go_wp2_with fail
          exact HP.out _ HB4.out
      · clear hgy
        go_wp2_with fail
        refine (HW.out _ HB2.out).mono ?_
        rintro e w4 ⟨rfl, hb⟩
        have HB4 := Lib.hid (below_next HB2.out hb ⟨rfl, rfl, rfl, rfl⟩)
        clear hb
        go_wp2_with fail
        exact HP.out _ HB4.out
    · have hkn : k = 3 := by omega
      subst hkn
      have hall := HE.out
      rw [List.take_of_length_le (by rw [ll.out]; exact Nat.le_refl _), ← HPS.out] at hall
      have fx := hall ((dx, cx, Ax, nx, kx), (dx, cx, lx)) (by simp)
      have fy := hall ((dy, cy, Ay, ny, ky), (dy, cy, ly)) (by simp)
      have fz := hall ((dz, cz, Az, nz, kz), (dz, cz, lz)) (by simp)
      have hki : ¬ ((3 : Nat) : Int) < (3 : Int) := by omega
      obtain ⟨cxy, cyz, cxz, cyx, cxx, cxr, crv, hlx, hly⟩ := HC.out fx.1 fy.1 fz.1
      have vx := chkE_iff.1 fx.2
      have vy := chkE_iff.1 fy.2
      simp only at vx vy
      have hrev := Lib.hid (show cmpE (dx, cx, lx) (dx, cx, lx.map negL) ≠ 0 from cmpE_ne_rev vx)
      have e1 : revY dx cx lx = (dx, cx, lx.map negL) := if_pos fx.2
      have e2 : revI dx cx lx = 0 := if_pos fx.2
      rw [e1, e2] at crv
      have hanti := cmpE_cmp.anti (dx, cx, lx) (dy, cy, ly)
      rw [hanti] at cyx
      rw [cmpE_cmp.self] at cxx
      have h3 := Lib.hid (cmp3 (x := (dx, cx, lx)) (y := (dy, cy, ly)) (z := (dz, cz, lz)))
      have r1 := Lib.hid (cmpE_cmp.rng (dx, cx, lx) (dy, cy, ly))
      have r2 := Lib.hid (cmpE_cmp.rng (dy, cy, ly) (dz, cz, lz))
      have r3 := Lib.hid (cmpE_cmp.rng (dx, cx, lx) (dz, cz, lz))
      have h0 := Lib.hid (show cmpE (dx, cx, lx) (dy, cy, ly) = 0 ↔ ([(dx, cx, lx)] : List En) = [(dy, cy, ly)] by
        rw [cmpE_zero (a := (dx, cx, lx)) (b := (dy, cy, ly)) vx.all vy.all]; simp)
      have CXY := Lib.hid cxy
      have CYZ := Lib.hid cyz
      have CXZ := Lib.hid cxz
      have CYX := Lib.hid cyx
      have CXX := Lib.hid cxx
      have CXR := Lib.hid (fun W A n k h hl => cxr W A n k (lx.map negL) h hl)
      have CRV := Lib.hid crv
      have HLX := Lib.hid hlx
      have HLY := Lib.hid hly
      clear cxy cyz cxz cyx cxx cxr crv hlx hly vx vy fx fy fz hall e1 e2 hanti HC HK HRD HE L1 ll lb
      generalize cmpE (dx, cx, lx) (dy, cy, ly) = a at *
      generalize cmpE (dy, cy, ly) (dz, cz, lz) = b at *
      generalize cmpE (dx, cx, lx) (dz, cz, lz) = c at *
      generalize cmpE (dx, cx, lx) (dx, cx, lx.map negL) = rr at *
      have Xr := Lib.hid (X1.out.below HB.out)
      have Yr := Lib.hid (Y1.out.below HB.out)
      have Zr := Lib.hid (Z1.out.below HB.out)
      clear X1 Y1 Z1 B1 HB HPS

      have HSC := Lib.hid (fun W (h : Below wr.heap.size wr W) => (show (W.cell? ⟨w.heap.size, 0, none⟩ = some (.int .i64 dx) ∧ W.cell? ⟨w.heap.size, 1, none⟩ = some (.string ⟨cx.toArray⟩) ∧ W.cell? ⟨w.heap.size, 2, none⟩ = some (.slice Ax nx kx)) ∧ (W.cell? ⟨w.heap.size + 1, 0, none⟩ = some (.int .i64 dy) ∧ W.cell? ⟨w.heap.size + 1, 1, none⟩ = some (.string ⟨cy.toArray⟩) ∧ W.cell? ⟨w.heap.size + 1, 2, none⟩ = some (.slice Ay ny ky)) ∧ (W.cell? ⟨w.heap.size + 1 + 1, 0, none⟩ = some (.int .i64 dz) ∧ W.cell? ⟨w.heap.size + 1 + 1, 1, none⟩ = some (.string ⟨cz.toArray⟩) ∧ W.cell? ⟨w.heap.size + 1 + 1, 2, none⟩ = some (.slice Az nz kz)) from ⟨⟨(Xr.out.below h).c0, (Xr.out.below h).c1, (Xr.out.below h).c2⟩, ⟨(Yr.out.below h).c0, (Yr.out.below h).c1, (Yr.out.below h).c2⟩, ⟨(Zr.out.below h).c0, (Zr.out.below h).c1, (Zr.out.below h).c2⟩⟩))
      have HBc := Lib.hid (Below.refl wr.heap.size wr)
      go_wp2_with fail
      go_region_held3 (fun W => (W.cell? ⟨w.heap.size, 0, none⟩ = some (.int .i64 dx) ∧ W.cell? ⟨w.heap.size, 1, none⟩ = some (.string ⟨cx.toArray⟩) ∧ W.cell? ⟨w.heap.size, 2, none⟩ = some (.slice Ax nx kx)) ∧ (W.cell? ⟨w.heap.size + 1, 0, none⟩ = some (.int .i64 dy) ∧ W.cell? ⟨w.heap.size + 1, 1, none⟩ = some (.string ⟨cy.toArray⟩) ∧ W.cell? ⟨w.heap.size + 1, 2, none⟩ = some (.slice Ay ny ky)) ∧ (W.cell? ⟨w.heap.size + 1 + 1, 0, none⟩ = some (.int .i64 dz) ∧ W.cell? ⟨w.heap.size + 1 + 1, 1, none⟩ = some (.string ⟨cz.toArray⟩) ∧ W.cell? ⟨w.heap.size + 1 + 1, 2, none⟩ = some (.slice Az nz kz)))
        (first | (refine HSC.out _ ?_; repeat (first | exact HBc.out | refine Below.drew ?_ | refine Below.al ?_ _)))
        (first
          | (go_at_call 14; with_reducible refine (CXY.out _ ?_).mono ?_
             · refine below_ahead HBw.out ?_
               repeat (first | exact HBc.out | refine Below.drew ?_ | refine Below.al ?_ _)
             rintro e w' ⟨rfl, hb⟩
             have HBc := Lib.hid (below_via (w := wr) hb (by repeat (first | exact HBc.out | refine Below.drew ?_ | refine Below.al ?_ _)))
             clear hb)
          | (go_at_call 14; with_reducible refine (CYZ.out _ ?_).mono ?_
             · refine below_ahead HBw.out ?_
               repeat (first | exact HBc.out | refine Below.drew ?_ | refine Below.al ?_ _)
             rintro e w' ⟨rfl, hb⟩
             have HBc := Lib.hid (below_via (w := wr) hb (by repeat (first | exact HBc.out | refine Below.drew ?_ | refine Below.al ?_ _)))
             clear hb)
          | (go_at_call 14; with_reducible refine (CXZ.out _ ?_).mono ?_
             · refine below_ahead HBw.out ?_
               repeat (first | exact HBc.out | refine Below.drew ?_ | refine Below.al ?_ _)
             rintro e w' ⟨rfl, hb⟩
             have HBc := Lib.hid (below_via (w := wr) hb (by repeat (first | exact HBc.out | refine Below.drew ?_ | refine Below.al ?_ _)))
             clear hb))
      go_upto_region 8 with fail
      go_cut [76] (fun s76 wx => s76 = .bool false ∧ Hid (Below wr.heap.size wr wx))
      case first =>
        obtain ⟨⟨x0, x1, x2⟩, ⟨y0, y1, y2⟩, ⟨z0, z1, z2⟩⟩ := HSC.out _ HBc.out
        go_wp2_with fail
        refine (CYX.out _ (below_ahead HBw.out HBc.out)).mono ?_
        rintro e w8 ⟨rfl, hb⟩
        have HBd := Lib.hid (below_via (w := wr) hb HBc.out)
        clear hb x0 x1 x2 y0 y1 y2 z0 z1 z2 HBc HSC CXY CYZ CXZ CYX CXX CXR CRV HLX HLY
        rcases r1.out with rfl | rfl | rfl <;> rcases r2.out with rfl | rfl | rfl
        · have hc : c = -1 := (by have := r3.out; have := h3.out; omega)
          subst hc
          clear r1 r2 r3 h3 h0
          go_wp2_with fail
          go_meet
          exact ⟨rfl, HBd⟩
        · have hc : c = -1 := (by have := r3.out; have := h3.out; omega)
          subst hc
          clear r1 r2 r3 h3 h0
          go_wp2_with fail
          go_meet
          exact ⟨rfl, HBd⟩
        · clear r1 r2 r3 h3 h0
          go_wp2_with fail
          go_meet
          exact ⟨rfl, HBd⟩
        · have hc : c = -1 := (by have := r3.out; have := h3.out; omega)
          subst hc
          clear r1 r2 r3 h3 h0
          go_wp2_with fail
          go_meet
          exact ⟨rfl, HBd⟩
        · have hc : c = 0 := (by have := r3.out; have := h3.out; omega)
          subst hc
          clear r1 r2 r3 h3 h0
          go_wp2_with fail
          go_meet
          exact ⟨rfl, HBd⟩
        · have hc : c = 1 := (by have := r3.out; have := h3.out; omega)
          subst hc
          clear r1 r2 r3 h3 h0
          go_wp2_with fail
          go_meet
          exact ⟨rfl, HBd⟩
        · clear r1 r2 r3 h3 h0
          go_wp2_with fail
          go_meet
          exact ⟨rfl, HBd⟩
        · have hc : c = 1 := (by have := r3.out; have := h3.out; omega)
          subst hc
          clear r1 r2 r3 h3 h0
          go_wp2_with fail
          go_meet
          exact ⟨rfl, HBd⟩
        · have hc : c = 1 := (by have := r3.out; have := h3.out; omega)
          subst hc
          clear r1 r2 r3 h3 h0
          go_wp2_with fail
          go_meet
          exact ⟨rfl, HBd⟩
      case rest =>
      obtain ⟨rfl, HBe⟩ := hcut
      have HBv := Lib.hid (below_ahead HBw.out HBe.out)
      have Xc := Lib.hid (Xr.out.below HBe.out)
      have Yc := Lib.hid (Yr.out.below HBe.out)
      clear Xr Yr Zr HSC HBc HBw CXY CYZ CXZ CYX r1 r2 r3 h3 HBe
      obtain ⟨x0, x1, x2⟩ := Xc.out
      go_wp2_with fail
      clear x0 x1 x2
      refine (CRV.out _ HBv.out).mono ?_
      rintro e w5 ⟨A5, n5, k5, rfl, hL, hb⟩
      have B5 := Lib.hid (below_next HBv.out hb ⟨rfl, rfl, rfl, rfl⟩)
      have X5 := Lib.hid (Xc.out.below hb)
      have Y5 := Lib.hid (Yc.out.below hb)
      have R6 := Lib.hid (Bx.new (d := dx) (s := cx) hL)
      have X6 := Lib.hid (X5.out.al (.cells #[.int .i64 dx, .string ⟨cx.toArray⟩, .slice A5 n5 k5] 32))
      have Y6 := Lib.hid (Y5.out.al (.cells #[.int .i64 dx, .string ⟨cx.toArray⟩, .slice A5 n5 k5] 32))
      have B6 := Lib.hid (Below.al B5.out (.cells #[.int .i64 dx, .string ⟨cx.toArray⟩, .slice A5 n5 k5] 32))
      clear hb hL Xc Yc HBv CRV X5 Y5
      go_upto_region 11 with fail
      generalize w5.alloc (.cells #[.int .i64 dx, .string ⟨cx.toArray⟩, .slice A5 n5 k5] 32) = w6 at *
      generalize w5.heap.size = br at *
      clear B5
      have hq := (Bx.new (W := w6) (d := dx) (s := cx) (HLX.out.below B6.out)).al (.cells #[.int .i64 dy, .string ⟨cy.toArray⟩, .slice Ay ny ky] 32)
      have hq2 := Bx.new (W := w6.alloc (.cells #[.int .i64 dx, .string ⟨cx.toArray⟩, .slice Ax nx kx] 32)) (d := dy) (s := cy) (HLY.out.below (Below.al B6.out (.cells #[.int .i64 dx, .string ⟨cx.toArray⟩, .slice Ax nx kx] 32)))
      rw [show (w6.alloc (.cells #[.int .i64 dx, .string ⟨cx.toArray⟩, .slice Ax nx kx] 32)).heap.size = w6.heap.size + 1 by simp] at hq2
      have HS := Lib.hid (Same_any _ _ _ _ _ _ [(dx, cx, lx)] [(dy, cy, ly)] _ (ens1d hq.c0 hq.c1 hq.c2 hq.lns) (ens1d hq2.c0 hq2.c1 hq2.c2 hq2.lns))
      obtain ⟨sm, hsm⟩ : ∃ sm, decide (([(dx, cx, lx)] : List En) = [(dy, cy, ly)]) = sm := ⟨_, rfl⟩
      rw [hsm] at HS
      have es1 : (a == 0) = sm := by rw [← hsm, Bool.eq_iff_iff, beq_iff_eq, decide_eq_true_iff]; exact h0.out
      have es2 : decide (a = 0) = sm := by rw [← hsm, Bool.eq_iff_iff, decide_eq_true_iff, decide_eq_true_iff]; exact h0.out
      have hb1 : (rr == 0) = false := beq_eq_false_iff_ne.2 hrev.out
      have hb2 : (rr != 0) = true := by rw [bne_iff_ne]; exact hrev.out
      have BE := Lib.hid (Below.al (Below.al B6.out (.cells #[.int .i64 dx, .string ⟨cx.toArray⟩, .slice Ax nx kx] 32)) (.cells #[.int .i64 dy, .string ⟨cy.toArray⟩, .slice Ay ny ky] 32))
      have XE := Lib.hid ((X6.out.al (.cells #[.int .i64 dx, .string ⟨cx.toArray⟩, .slice Ax nx kx] 32)).al (.cells #[.int .i64 dy, .string ⟨cy.toArray⟩, .slice Ay ny ky] 32))
      have RE6 := Lib.hid ((R6.out.al (.cells #[.int .i64 dx, .string ⟨cx.toArray⟩, .slice Ax nx kx] 32)).al (.cells #[.int .i64 dy, .string ⟨cy.toArray⟩, .slice Ay ny ky] 32))
      clear hq hq2 hsm h0 hrev R6
      obtain ⟨x0, x1, x2⟩ := X6.out
      obtain ⟨y0, y1, y2⟩ := Y6.out
      have lx6 : w.heap.size < w6.heap.size := X6.out.lt
      have ly6 : w.heap.size + 1 < w6.heap.size := Y6.out.lt
      clear X6 Y6 B6
      go_wp2_with fail
      refine HS.out.mono ?_
      rintro e w7 ⟨rfl, hb⟩
      have B7 := Lib.hid (below_next BE.out hb ⟨rfl, rfl, rfl, rfl⟩)
      have X7 := Lib.hid (XE.out.below hb)
      have R7 := Lib.hid (RE6.out.below hb)
      clear hb HS BE XE RE6 x0 x1 x2 y0 y1 y2 lx6 ly6
      obtain ⟨x0, x1, x2⟩ := X7.out
      go_wp2_with fail
      clear x0 x1 x2
      refine (CXX.out _ B7.out).mono ?_
      rintro e w8 ⟨rfl, hb⟩
      have B8 := Lib.hid (below_next B7.out hb ⟨rfl, rfl, rfl, rfl⟩)
      have X8 := Lib.hid (X7.out.below hb)
      have R8 := Lib.hid (R7.out.below hb)
      clear hb B7 X7 R7
      obtain ⟨x0, x1, x2⟩ := X8.out
      obtain ⟨r0, r1, r2, hLr⟩ := R8.out
      have HLr := Lib.hid hLr
      clear hLr
      go_wp2_with fail
      clear x0 x1 x2 r0 r1 r2
      refine (CXR.out _ _ _ _ B8.out HLr.out).mono ?_
      rintro e w9 ⟨rfl, hb⟩
      have B9 := Lib.hid (below_next B8.out hb ⟨rfl, rfl, rfl, rfl⟩)
      clear hb B8 X8 R8
      go_wp2_with fail
      refine (HW.out _ B9.out).mono ?_
      rintro e w10 ⟨rfl, hb⟩
      have B10 := Lib.hid (below_next B9.out hb ⟨rfl, rfl, rfl, rfl⟩)
      clear hb B9
      go_wp2_with fail
      exact HP.out _ B10.out
end Go.Proofs.YtdnomfekblmnbaaGreatDoor

/- EntryOrder: for any three entries the call of tranchelaw35.EntryOrder returns true, and its arguments read as before. The card ties the variables of Go's library that it lists; the seat is a pruned copy: of packages left out the card says nothing. -/
namespace Go.Proofs.YtdnomfekblmnbaaGreatDoor.entryOrder
open Go.ChangeShapes Go.WideShapes Go.ChangeAt Go.RowKit
open Go.ChangeMaps (open_string shut_string)
set_option linter.unusedVariables false

set_option maxRecDepth 100000 in
theorem lifted (os : Os) (started : os.Started) (H : Type) (enc : TypeId × Value → H) :
    ReturnsInHanded {} Tryz.checked os 4 .any (fun w args => (Rows.entryOrderSpec.pre enc Tryz.prog Tryz.f4 [] false w args ∧ laidMetH Tryz.prog Rows.entryOrderRow.laid w) ∧ sizedMet enc Tryz.prog Tryz.f4 (OpenSpec.ofChange Rows.entryOrderSpec) false w args)
      (Rows.entryOrderSpec.post enc Tryz.prog Tryz.f4 false true false false) := by
  refine handed_both (C := Tryz.checked) (X := fun w _ => laidMetH Tryz.prog Rows.entryOrderRow.laid w) (fun _ _ _ hh h => h.of_heap hh) own started (by kernel_rfl) Tryz.func4
    (ChangeSpec.witness_shaped (enc := enc) (C := Tryz.checked) (os := os) (X := fun w _ => laidMetH Tryz.prog Rows.entryOrderRow.laid w) false (World.laidAll Tryz.prog os Rows.entryOrderRow.laid) #[.agg #[.int .i64 0, .string ByteArray.empty, .slice none 0 0], .agg #[.int .i64 0, .string ByteArray.empty, .slice none 0 0], .agg #[.int .i64 0, .string ByteArray.empty, .slice none 0 0]] 8 (World.laidAll_os _ _ _)
      (World.shaped_of_ZipB (by kernel_rfl) (by kernel_rfl)) (by kernel_rfl) (by kernel_rfl) (by kernel_rfl)
      (by rw [MakeChecks.laidMetH_plain _ _ _ (by kernel_rfl)]; exact laidMet_laidAll _ (by kernel_rfl) (by kernel_rfl))) ?_
  intro W base args ds gs before hval0 hW hL hsh
  have hval : ∀ (j : Nat) t v, Tryz.f4.params[j]? = some t → args[j]? = some v → Value.okWide Tryz.prog W .any base t v := hval0
  have hW' := hW
  obtain ⟨p, q, hA0, hV, rfl, hfz, hnd⟩ := hW
  have hA : DataW.TrodAll enc Tryz.prog W 0 (fun _ => true) true Tryz.f4.params.toList args.toList ds p := hA0
  rw [Tryz.params4] at hA hval
  obtain ⟨v0, vs0, d0, ds0, p0, q0, hargs, rfl, rfl, h0, r0⟩ := trodAll_cons hA
  obtain ⟨v1, vs1, d1, ds1, p1, q1, rfl, rfl, rfl, h1, r1⟩ := trodAll_cons r0
  obtain ⟨v2, vs2, d2, ds2, p2, q2, rfl, rfl, rfl, h2, r2⟩ := trodAll_cons r1
  obtain ⟨rfl, rfl, rfl⟩ := trodAll_nil r2
  obtain rfl : args = #[v0, v1, v2] := by cases args; simp_all
  obtain ⟨rfl, rfl⟩ := trodVars_none hV
  obtain ⟨t0, z0, A0, n0, c0, l0, rfl, s0⟩ := arg_entry (hval 0 32 v0 rfl rfl) h0
  obtain ⟨t1, z1, A1, n1, c1, l1, rfl, s1⟩ := arg_entry (hval 1 32 v1 rfl rfl) h1
  obtain ⟨t2, z2, A2, n2, c2, l2, rfl, s2⟩ := arg_entry (hval 2 32 v2 rfl rfl) h2
  clear hA0 hval0
  refine (order_all t0 z0 A0 n0 c0 l0 t1 z1 A1 n1 c1 l1 t2 z2 A2 n2 c2 l2 W s0 s1 s2 (tab_of hL) (ml_of hsh)).mono fun e W' ⟨he, hg⟩ => ?_
  subst he
  exact ⟨_, rfl, post_true (tb := 4) hW' rfl laid (by kernel_rfl) rfl Tryz.underlying4 ⟨rfl, rfl, rfl⟩ hg⟩

theorem over : Rows.EntryOrderSaid :=
  OpenClaim.holds_of_wide 4 Tryz.f4 rfl rfl rfl rfl rfl rfl rfl ⟨rfl, rfl, rfl, rfl, rfl⟩ rfl rfl rfl rfl rfl (by kernel_rfl) Tryz.func4 (by kernel_rfl)
    (of_decide_eq_true (by kernel_rfl)) (by unfold Func.isWrapper; first | (rw [if_pos (by decide +kernel)]; kernel_rfl) | (rw [if_neg (by decide +kernel)]; exact ⟨rfl, rfl⟩))
    (fun os started H enc _ => lifted os started H enc)

theorem plain (f : FuncId) (fn : Func) (hf : Tryz.pinned.checked.prog.funcNamed "tranche/tranchelaw35.EntryOrder" = some f) (hfn : Tryz.pinned.checked.prog.funcs[f]? = some fn) :
    true = Tryz.pinned.checked.prog.looks [] ∧ ∀ (j : Nat) t, fn.params[j]? = some t → Tryz.pinned.checked.prog.wantsStandIn t = false := by
  obtain rfl : f = 4 := Option.some.inj ((show Tryz.prog.funcNamed "tranche/tranchelaw35.EntryOrder" = some 4 by kernel_rfl).symm.trans hf) |>.symm
  obtain rfl : fn = Tryz.f4 := (Option.some.inj (Tryz.func4.symm.trans hfn)).symm
  refine ⟨by kernel_rfl, fun j t ht => ?_⟩
  rw [Tryz.params4] at ht
  have hm : t ∈ [32, 32, 32] := by simpa using Array.mem_of_getElem? ht
  have hall : (([32, 32, 32] : List TypeId).all fun u => !Tryz.prog.wantsStandIn u) = true := by kernel_rfl
  exact (show Tryz.prog.wantsStandIn t = false by simpa using List.all_eq_true.1 hall t hm)

theorem proved : Rows.EntryOrderCardSaid :=
  Claim7.holds_tied_plain_at .later [] _ _ _ _ over (fun _ h => by cases h) (by kernel_rfl) (fun _ h => by cases h) entryOrder_row_tie rfl ⟨rfl, rfl⟩ (by kernel_rfl) rfl plain (by kernel_rfl)
end Go.Proofs.YtdnomfekblmnbaaGreatDoor.entryOrder
