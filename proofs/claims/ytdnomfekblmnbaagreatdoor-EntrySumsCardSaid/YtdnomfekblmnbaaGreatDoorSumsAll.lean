/- What the walks of the laws share: boxes with entries, returned entries, slices of one entry. -/
import Derived.Test.YtdnomfekblmnbaaGreatDoorQ7
import Derived.Test.YtdnomfekblmnbaaGreatDoorQ9
import Derived.Test.YtdnomfekblmnbaaGreatDoorQ10
import Derived.Test.YtdnomfekblmnbaaGreatDoorQ5
import Derived.WalkLawsBesides
import Derived.Deep.DeepCutAuto
namespace Go.Proofs.YtdnomfekblmnbaaGreatDoor
open Go.RowKit Go.Maps Num

/-- a box with an entry in it -/
structure Bx (W : World) (b : Nat) (d : Int) (s : List UInt8) (A : Option Addr) (n c : Nat) (l : List Ln) : Prop where
  c0 : W.cell? ⟨b, 0, none⟩ = some (.int .i64 d)
  c1 : W.cell? ⟨b, 1, none⟩ = some (.string ⟨s.toArray⟩)
  c2 : W.cell? ⟨b, 2, none⟩ = some (.slice A n c)
  lns : Lns W A n c l
theorem Bx.lt {W : World} {b : Nat} {d : Int} {s : List UInt8} {A : Option Addr} {n c : Nat} {l : List Ln} (h : Bx W b d s A n c l) : b < W.heap.size := block_lt_of_cell h.c0
theorem Bx.below {W W' : World} {b : Nat} {d : Int} {s : List UInt8} {A : Option Addr} {n c : Nat} {l : List Ln} (h : Bx W b d s A n c l) (hb : Below W.heap.size W W') : Bx W' b d s A n c l :=
  ⟨(hb.cell (p := ⟨b, 0, none⟩) h.lt).trans h.c0, (hb.cell (p := ⟨b, 1, none⟩) h.lt).trans h.c1, (hb.cell (p := ⟨b, 2, none⟩) h.lt).trans h.c2, h.lns.below hb⟩
theorem Bx.new {W : World} {d : Int} {s : List UInt8} {A : Option Addr} {n c : Nat} {l : List Ln} (h : Lns W A n c l) : Bx (W.alloc (.cells #[.int .i64 d, .string ⟨s.toArray⟩, .slice A n c] 32)) W.heap.size d s A n c l := by
  obtain ⟨⟨c0, c1, c2⟩, _⟩ := cells3 (heap_alloc_new W (.cells #[.int .i64 d, .string ⟨s.toArray⟩, .slice A n c] 32))
  exact ⟨c0, c1, c2, h.below ((Below.refl _ _).alloc (Nat.le_refl _) _)⟩
theorem Bx.al {W : World} {b : Nat} {d : Int} {s : List UInt8} {A : Option Addr} {n c : Nat} {l : List Ln} (h : Bx W b d s A n c l) (o : Obj) : Bx (W.alloc o) b d s A n c l := h.below (Below.al (Below.refl _ _) o)
/-- the like, of any lines -/
structure BxR (W : World) (b : Nat) (d : Int) (s : List UInt8) (A : Option Addr) (n c : Nat) : Prop where
  c0 : W.cell? ⟨b, 0, none⟩ = some (.int .i64 d)
  c1 : W.cell? ⟨b, 1, none⟩ = some (.string ⟨s.toArray⟩)
  c2 : W.cell? ⟨b, 2, none⟩ = some (.slice A n c)
theorem BxR.lt {W : World} {b : Nat} {d : Int} {s : List UInt8} {A : Option Addr} {n c : Nat} (h : BxR W b d s A n c) : b < W.heap.size := block_lt_of_cell h.c0
theorem BxR.below {W W' : World} {b : Nat} {d : Int} {s : List UInt8} {A : Option Addr} {n c : Nat} (h : BxR W b d s A n c) (hb : Below W.heap.size W W') : BxR W' b d s A n c :=
  ⟨(hb.cell (p := ⟨b, 0, none⟩) h.lt).trans h.c0, (hb.cell (p := ⟨b, 1, none⟩) h.lt).trans h.c1, (hb.cell (p := ⟨b, 2, none⟩) h.lt).trans h.c2⟩
theorem BxR.new (W : World) (d : Int) (s : List UInt8) (A : Option Addr) (n c : Nat) : BxR (W.alloc (.cells #[.int .i64 d, .string ⟨s.toArray⟩, .slice A n c] 32)) W.heap.size d s A n c := by
  obtain ⟨⟨c0, c1, c2⟩, _⟩ := cells3 (heap_alloc_new W (.cells #[.int .i64 d, .string ⟨s.toArray⟩, .slice A n c] 32))
  exact ⟨c0, c1, c2⟩
theorem BxR.al {W : World} {b : Nat} {d : Int} {s : List UInt8} {A : Option Addr} {n c : Nat} (h : BxR W b d s A n c) (o : Obj) : BxR (W.alloc o) b d s A n c := h.below (Below.al (Below.refl _ _) o)
theorem zblk {W w' : World} {b : Nat} {cs : Array Value} {t : TypeId} (hb : Below W.heap.size W w') (h : W.heap[b]? = some (.cells cs t)) : w'.heap[b]? = some (.cells cs t) := (hb.block b (block_lt_of_row h)).trans h
theorem zA (w : World) (o1 o2 : Obj) : ((w.alloc o1).alloc o2).heap[w.heap.size]? = some o1 := by
  rw [heap_alloc_old _ _ (by simp)]; exact heap_alloc_new w o1
theorem zB (w : World) (o1 o2 : Obj) : ((w.alloc o1).alloc o2).heap[w.heap.size + 1]? = some o2 := by
  have h := heap_alloc_new (w.alloc o1) o2
  rwa [show (w.alloc o1).heap.size = w.heap.size + 1 by simp] at h
theorem own_set3 {α : Type} {R : Row α} {B : Nat} {w : World} {v : Value} {l : List α} (h : R.Own B w v l) {b : Nat} (hb : b < B) (p q u : Value) : R.Own B (((w.setCell ⟨b, 0, none⟩ p).setCell ⟨b, 1, none⟩ q).setCell ⟨b, 2, none⟩ u) v l :=
  have hr : ∀ k, some b = some k → k < B := fun k e => by have := Option.some.inj e; omega
  ((h.kept (grown_setCell w ⟨b, 0, none⟩ p) hr).kept (grown_setCell _ ⟨b, 1, none⟩ q) hr).kept (grown_setCell _ ⟨b, 2, none⟩ u) hr
theorem own_lns {B n c : Nat} {w : World} {A : Option Addr} {l : List Ln} (h : rowL.Own B w (.slice A n c) l) (hn : n ≤ 1000) (hs : ∀ x ∈ l, Sml x) : Lns w A n c l := by
  obtain ⟨A', c', e, hr⟩ := h.rds
  injection e with e1 e2 e3
  subst e1 e3
  rw [← e2] at hr
  exact Lns.of_rds hr hn hs
theorem below_set1 {B b : Nat} {w W : World} (h : Below B w W) (hB : B ≤ w.heap.size) (hb : B ≤ b) (i : Nat) (v : Value) : Below B w (W.setCell ⟨b, i, none⟩ v) := below_grown h hB (grown_setCell W ⟨b, i, none⟩ v) hb
theorem below_al2 {B : Nat} {w W : World} (h : Below B w W) (hB : w.heap.size = B) (o : Obj) : Below B w (W.alloc o) := h.alloc (by have := h.size; omega) o
theorem below_set2 {B b : Nat} {w W : World} (h : Below B w W) (hB : w.heap.size = B) (hb : B ≤ b) (i : Nat) (v : Value) : Below B w (W.setCell ⟨b, i, none⟩ v) := below_set1 h (by omega) hb i v
/-- the first line of a slice of the call's own -/
theorem own_head {B g n k : Nat} {w : World} {x : Ln} {r : List Ln} (h : rowL.Own B w (.slice (some ⟨g, 0, none⟩) n k) (x :: r)) (hn : 0 < n) :
    w.cell? ⟨g, 0, none⟩ = some (.string ⟨x.1.toArray⟩) ∧ w.cell? ⟨g, 1, none⟩ = some (.string ⟨x.2.1.toArray⟩) ∧ w.cell? ⟨g, 2, none⟩ = some (.string ⟨x.2.2.toArray⟩) ∧ g < w.heap.size ∧ B ≤ g ∧ w.frozen? ⟨g, 2, none⟩ = false ∧ (x :: r).length = n := by
  have hf := Row.Own.frz h 2
  have ho := h.own g rfl
  obtain ⟨A, c, e, hr⟩ := h.rds
  injection e with e1 e2 e3
  subst e1 e3
  rw [← e2] at hr
  have c0 := hr.cell rowL_ok ln0 0 0 _ hn rfl
  have c1 := hr.cell rowL_ok ln0 0 1 _ hn rfl
  have c2 := hr.cell rowL_ok ln0 0 2 _ hn rfl
  exact ⟨c0, c1, c2, ho.2, ho.1, hf, e2.symm⟩
theorem below_ahead2 {B : Nat} {w W w' : World} (h : Below B w W) (hB : w.heap.size = B) (hb : Below W.heap.size W w') : Below B w w' := h.trans (hb.mono (by have := h.size; omega))
/-- the first line's amount is written -/
theorem own_set_amt {B g n k : Nat} {w : World} {a cu am : List UInt8} {r : List Ln} (h : rowL.Own B w (.slice (some ⟨g, 0, none⟩) n k) ((a, cu, am) :: r)) (nm : List UInt8) : rowL.Own B (w.setCell ⟨g, 2, none⟩ (.string ⟨nm.toArray⟩)) (.slice (some ⟨g, 0, none⟩) n k) ((a, cu, nm) :: r) := by
  have hn : n = ((a, cu, am) :: r).length := by
    rcases h.2 with ⟨e, _⟩ | ⟨g', cap', cur, e, _⟩
    · cases e
    · injection e
  subst hn
  have h' : w.ownsRow B 45 3 (.slice (some ⟨g, 0, none⟩) ((a, cu, am) :: r).length k) ((a, cu, am) :: r).length (rowL.vs ((a, cu, am) :: r)) := h
  exact (h'.stored 2 (.string ⟨nm.toArray⟩)).1
/-- a slice of one entry -/
theorem ens1d {W : World} {b : Nat} {d : Int} {s : List UInt8} {A : Option Addr} {n c : Nat} {l : List Ln} (c0 : W.cell? ⟨b, 0, none⟩ = some (.int .i64 d)) (c1 : W.cell? ⟨b, 1, none⟩ = some (.string ⟨s.toArray⟩)) (c2 : W.cell? ⟨b, 2, none⟩ = some (.slice A n c)) (hl : Lns W A n c l) : Ens W (some ⟨b, 0, none⟩) 1 1 [(d, s, l)] := by
  refine Res.ens (ps := [((d, s, A, n, c), (d, s, l))]) ⟨rds_cells [((d, s, A, n, c), (d, s, l))] (block_lt_of_cell c0) ?_ (by show 1 ≤ maxLen; decide), ?_⟩ (by decide)
  · intro j u hu
    rcases j with _ | _ | _ | j
    · exact c0.trans hu
    · exact c1.trans hu
    · exact c2.trans hu
    · cases hu
  · intro p hp
    rw [List.mem_singleton.1 hp]
    exact ⟨rfl, rfl, hl⟩
/-- an entry and a code, returned -/
def EnQ (d : Int) (s : List UInt8) (l : List Ln) (i : Int) (w : World) (e : Ending) (w' : World) : Prop :=
  ∃ A n c, e = .returned (.tuple #[.agg #[.int .i64 d, .string ⟨s.toArray⟩, .slice A n c], .int .i64 i]) ∧ Lns w' A n c l ∧ Below w.heap.size w w'
theorem nrm_enq {d : Int} {c : List UInt8} {l : List Ln} {w w' : World} {e : Ending} (h : NrmPost d c l w e w') : EnQ (nrmY d c l).1 (nrmY d c l).2.1 (nrmY d c l).2.2 (nrmI d c l) w e w' := nrm_enp h
theorem rev_enq {d : Int} {c : List UInt8} {l : List Ln} {w w' : World} {e : Ending} (h : RevPost d c l w e w') : EnQ (revY d c l).1 (revY d c l).2.1 (revY d c l).2.2 (revI d c l) w e w' := rev_enp h
/-- a call ahead: a world of it is one of the caller's -/
theorem below_ahead {w W w' : World} (h : Below w.heap.size w W) (hb : Below W.heap.size W w') : Below w.heap.size w w' := h.trans (hb.mono h.size)
end Go.Proofs.YtdnomfekblmnbaaGreatDoor

/- EntrySums: the walk. -/
namespace Go.Proofs.YtdnomfekblmnbaaGreatDoor
open Go.RowKit Go.Maps Num

set_option maxRecDepth 100000 in
set_option maxHeartbeats 8000000 in
theorem sums_great (d : Int) (cz : List UInt8) (A : Option Addr) (n c : Nat) (l : List Ln) (w : World) (hr : rowL.Rds w A n c l) (hg : g1B cz l = true) (ht : Tab w) (hm : ML w) :
    Calls Tryz.prog 6 #[.agg (enV d cz A n c)] w (BoolPost true w) := by
  have B0 := Lib.hid (Below.al (Below.refl _ w) (.cells #[.int .i64 d, .string ⟨cz.toArray⟩, .slice A n c] 32))
  have HG := Lib.hid (fun W (h : Below w.heap.size w W) => rgreat1_any d cz A n c l W (hr.below h))
  rw [hg] at HG
  have HW := Lib.hid (fun W (h : Below w.heap.size w W) => awake_any W (ht.below h) (hm.below h))
  have HP := Lib.hid (fun W (h : Below w.heap.size w W) => (show BoolPost true w (.returned (.bool true)) W from ⟨rfl, h⟩))
  have HX0 := Lib.hid (BxR.new w d cz A n c)
  clear hr ht hm hg
  generalize BoolPost true w = Post at *
  unfold enV at *
  go_enter Tryz.func6, Tryz.ntmps6
  go_upto_region 1 with fail
  generalize w.alloc (.cells #[.int .i64 d, .string ⟨cz.toArray⟩, .slice A n c] 32) = w0 at *
  obtain ⟨x0, x1, x2⟩ := HX0.out
  go_wp2_with fail
  clear x0 x1 x2
  refine (HG.out _ B0.out).mono ?_
  rintro e w1 ⟨rfl, hb⟩
  have B1 := Lib.hid (below_next B0.out hb ⟨rfl, rfl, rfl, rfl⟩)
  have X1 := Lib.hid (HX0.out.below hb)
  clear hb B0 HG HX0
  obtain ⟨x0, x1, x2⟩ := X1.out
  go_wp2_with fail
  clear x0 x1 x2
  refine (HW.out _ B1.out).mono ?_
  rintro e w2 ⟨rfl, hb⟩
  have B2 := Lib.hid (below_next B1.out hb ⟨rfl, rfl, rfl, rfl⟩)
  clear hb
  go_wp2_with fail
  exact HP.out _ B2.out
set_option maxRecDepth 100000 in
set_option maxHeartbeats 8000000 in
theorem sums_bad (d : Int) (cz : List UInt8) (A : Option Addr) (n c : Nat) (l : List Ln) (w : World) (hr : rowL.Rds w A n c l) (hg : g1B cz l = false) (hb : nrmI d cz l ≠ 0) (ht : Tab w) (hm : ML w) :
    Calls Tryz.prog 6 #[.agg (enV d cz A n c)] w (BoolPost true w) := by
  have B0 := Lib.hid (Below.al (Below.refl _ w) (.cells #[.int .i64 d, .string ⟨cz.toArray⟩, .slice A n c] 32))
  have HG := Lib.hid (fun W (h : Below w.heap.size w W) => rgreat1_any d cz A n c l W (hr.below h))
  rw [hg] at HG
  have HW := Lib.hid (fun W (h : Below w.heap.size w W) => awake_any W (ht.below h) (hm.below h))
  have HP := Lib.hid (fun W (h : Below w.heap.size w W) => (show BoolPost true w (.returned (.bool true)) W from ⟨rfl, h⟩))
  have HX0 := Lib.hid (BxR.new w d cz A n c)
  have hf := g1_fit hg
  have HN := Lib.hid (show ∀ W, Below w.heap.size w W → Calls Tryz.prog 21 #[.agg (enV d cz A n c)] W (EnQ 0 [] [] (nrmI d cz l) W) from fun W h => by
    have q := (Nrm_any d cz A n c l W ((hf.lns hr).below h) (by have := hf.cause; unfold maxLen; omega) (fun x hx => Nat.le_trans (hf.ln x hx).2.2 (by decide)) (ht.below h) (hm.below h)).mono fun _ _ => nrm_enq
    rw [show nrmY d cz l = en0 from if_neg hb] at q
    exact q)
  generalize nrmI d cz l = yi at *
  have hb1 : (yi == 0) = false := beq_eq_false_iff_ne.2 hb
  have hb2 : (yi != 0) = true := by rw [bne_iff_ne]; exact hb
  clear hr ht hm hg hf hb
  generalize BoolPost true w = Post at *
  unfold enV at *
  go_enter Tryz.func6, Tryz.ntmps6
  go_upto_region 1 with fail
  generalize w.alloc (.cells #[.int .i64 d, .string ⟨cz.toArray⟩, .slice A n c] 32) = w0 at *
  obtain ⟨x0, x1, x2⟩ := HX0.out
  go_wp2_with fail
  clear x0 x1 x2
  refine (HG.out _ B0.out).mono ?_
  rintro e w1 ⟨rfl, hb⟩
  have B1 := Lib.hid (below_next B0.out hb ⟨rfl, rfl, rfl, rfl⟩)
  have X1 := Lib.hid (HX0.out.below hb)
  clear hb B0 HG HX0
  obtain ⟨x0, x1, x2⟩ := X1.out
  go_wp2_with fail
  clear x0 x1 x2
  refine (HN.out _ B1.out).mono ?_
  rintro e w2 ⟨A1, n1, k1, rfl, hL, hb⟩
  obtain rfl : n1 = 0 := hL.len.symm
  have B2 := Lib.hid (below_next B1.out hb ⟨rfl, rfl, rfl, rfl⟩)
  clear hb hL
  go_wp2_with fail
  refine (HW.out _ ?_).mono ?_
  · refine Below.al B2.out _
  rintro e w3 ⟨rfl, hb⟩
  have B3 := Lib.hid (below_next (Below.al B2.out _) hb ⟨rfl, rfl, rfl, rfl⟩)
  clear hb
  go_wp2_with fail
  exact HP.out _ B3.out
set_option maxRecDepth 100000 in
set_option maxHeartbeats 8000000 in
theorem sums_ok (d : Int) (cz : List UInt8) (A : Option Addr) (n c : Nat) (l : List Ln) (w : World) (hr : rowL.Rds w A n c l) (hg : g1B cz l = false) (hn : Nrd d cz l) (ht : Tab w) (hm : ML w) :
    Calls Tryz.prog 6 #[.agg (enV d cz A n c)] w (BoolPost true w) := by
  have B0 := Lib.hid (Below.al (Below.refl _ w) (.cells #[.int .i64 d, .string ⟨cz.toArray⟩, .slice A n c] 32))
  have HG := Lib.hid (fun W (h : Below w.heap.size w W) => rgreat1_any d cz A n c l W (hr.below h))
  rw [hg] at HG
  have HW := Lib.hid (fun W (h : Below w.heap.size w W) => awake_any W (ht.below h) (hm.below h))
  have HP := Lib.hid (fun W (h : Below w.heap.size w W) => (show BoolPost true w (.returned (.bool true)) W from ⟨rfl, h⟩))
  have HX0 := Lib.hid (BxR.new w d cz A n c)
  have hf := g1_fit hg
  have hl := hf.lns hr
  have hcz : cz.length ≤ maxLen := by have := hf.cause; unfold maxLen; omega
  have HL := Lib.hid hl
  have CN1 := Lib.hid (show ∀ W, Below w.heap.size w W → Calls Tryz.prog 21 #[.agg (enV d cz A n c)] W (EnQ d cz (nrmL l) 0 W) from fun W h => by
    have q := (Nrm_any d cz A n c l W (hl.below h) hcz (fun x hx => Nat.le_trans (hf.ln x hx).2.2 (by decide)) (ht.below h) (hm.below h)).mono fun _ _ => nrm_enq
    rw [show nrmY d cz l = (d, cz, nrmL l) from if_pos (nrmI_iff.2 hn), nrmI_iff.2 hn] at q
    exact q)
  have CN2 := Lib.hid (show ∀ W A1 n1 k1, Below w.heap.size w W → Lns W A1 n1 k1 (nrmL l) → Calls Tryz.prog 21 #[.agg (enV d cz A1 n1 k1)] W (EnQ d cz (nrmL l) 0 W) from fun W A1 n1 k1 h hL => by
    have q := (Nrm_any d cz A1 n1 k1 (nrmL l) W hL hcz (fun x hx => Nat.le_trans (nrm_len hf x hx) (by decide)) (ht.below h) (hm.below h)).mono fun _ _ => nrm_enq
    rw [show nrmY d cz (nrmL l) = (d, cz, nrmL (nrmL l)) from if_pos (nrmI_iff.2 hn.again), nrmI_iff.2 hn.again, hn.self] at q
    exact q)
  have CCK := Lib.hid (show ∀ W A1 n1 k1, 0 < n1 → Below w.heap.size w W → Lns W A1 n1 k1 (nrmL l) → Calls Tryz.prog 24 #[.agg (enV d cz A1 n1 k1)] W (IntPost 0 W) from fun W A1 n1 k1 h0 h hL => by
    have q := Chk_any d cz A1 n1 k1 (nrmL l) W hL hcz (ht.below h) (hm.below h)
    rw [chkE_iff.2 (hn.vld (by rw [hL.len]; exact h0))] at q
    exact q)
  have CAX := Lib.hid (fun W (ka kc : List UInt8) (h : Below w.heap.size w W) => Amount_any d cz A n c l ka kc W (hl.below h) (ht.below h))
  have CAN := Lib.hid (show ∀ W A1 n1 k1 (ka kc : List UInt8), Below w.heap.size w W → Lns W A1 n1 k1 (nrmL l) → Calls Tryz.prog 26 #[.agg (enV d cz A1 n1 k1), .string ⟨ka.toArray⟩, .string ⟨kc.toArray⟩] W (StrPost (txt (tot l (ka, kc))) W) from fun W A1 n1 k1 ka kc h hL => by
    have q := Amount_any d cz A1 n1 k1 (nrmL l) ka kc W hL (ht.below h)
    rw [hn.of.tot] at q
    exact q)
  have HS64 := Lib.hid hn.top
  have H66 := Lib.hid hf.len
  clear hr ht hm hg hf hn hl hcz
  generalize hml : nrmL l = m at *
  generalize BoolPost true w = Post at *
  unfold enV at *
  go_enter Tryz.func6, Tryz.ntmps6
  go_upto_region 1 with fail
  generalize w.alloc (.cells #[.int .i64 d, .string ⟨cz.toArray⟩, .slice A n c] 32) = w0 at *
  obtain ⟨x0, x1, x2⟩ := HX0.out
  go_wp2_with fail
  clear x0 x1 x2
  refine (HG.out _ B0.out).mono ?_
  rintro e w1 ⟨rfl, hb⟩
  have B1 := Lib.hid (below_next B0.out hb ⟨rfl, rfl, rfl, rfl⟩)
  have X1 := Lib.hid (HX0.out.below hb)
  clear hb B0 HG HX0
  obtain ⟨x0, x1, x2⟩ := X1.out
  go_wp2_with fail
  clear x0 x1 x2
  refine (CN1.out _ B1.out).mono ?_
  rintro e w2 ⟨A1, n1, k1, rfl, hL, hb⟩
  have B2 := Lib.hid (below_next B1.out hb ⟨rfl, rfl, rfl, rfl⟩)
  have X2 := Lib.hid (X1.out.below hb)
  have Y3 := Lib.hid (Bx.new (d := d) (s := cz) hL)
  have X3 := Lib.hid (X2.out.al (.cells #[.int .i64 d, .string ⟨cz.toArray⟩, .slice A1 n1 k1] 32))
  have B3 := Lib.hid (Below.al B2.out (.cells #[.int .i64 d, .string ⟨cz.toArray⟩, .slice A1 n1 k1] 32))
  clear hb hL X1 B1 CN1 X2
  go_upto_region 6 with fail
  clear B2
  generalize w2.alloc (.cells #[.int .i64 d, .string ⟨cz.toArray⟩, .slice A1 n1 k1] 32) = w3 at *
  generalize w2.heap.size = by_ at *
  obtain ⟨y0, y1, y2, hLy⟩ := Y3.out
  have HLy := Lib.hid hLy
  clear hLy
  go_wp2_with fail
  clear y0 y1 y2
  refine (CN2.out _ _ _ _ B3.out HLy.out).mono ?_
  rintro e w4 ⟨A2, n2, k2, rfl, hL, hb⟩
  have B4 := Lib.hid (below_next B3.out hb ⟨rfl, rfl, rfl, rfl⟩)
  have X4 := Lib.hid (X3.out.below hb)
  have Y4 := Lib.hid (Y3.out.below hb)
  have Z5 := Lib.hid (Bx.new (d := d) (s := cz) hL)
  have X5 := Lib.hid (X4.out.al (.cells #[.int .i64 d, .string ⟨cz.toArray⟩, .slice A2 n2 k2] 32))
  have Y5 := Lib.hid (Y4.out.al (.cells #[.int .i64 d, .string ⟨cz.toArray⟩, .slice A2 n2 k2] 32))
  have B5 := Lib.hid (Below.al B4.out (.cells #[.int .i64 d, .string ⟨cz.toArray⟩, .slice A2 n2 k2] 32))
  clear hb hL X3 Y3 B3 CN2 HLy X4 Y4
  go_upto_region 7 with fail
  clear B4
  generalize w4.alloc (.cells #[.int .i64 d, .string ⟨cz.toArray⟩, .slice A2 n2 k2] 32) = w5 at *
  generalize w4.heap.size = bz at *
  go_cut [70] (fun s70 wx => s70 = .bool false ∧ Hid (Below w5.heap.size w5 wx))
  case first =>
    clear CAX CAN
    have hq := (Bx.new (W := w5) (d := d) (s := cz) Y5.out.lns).al (.cells #[.int .i64 d, .string ⟨cz.toArray⟩, .slice A2 n2 k2] 32)
    have hq2 := Bx.new (W := w5.alloc (.cells #[.int .i64 d, .string ⟨cz.toArray⟩, .slice A1 n1 k1] 32)) (d := d) (s := cz) (Z5.out.al (.cells #[.int .i64 d, .string ⟨cz.toArray⟩, .slice A1 n1 k1] 32)).lns
    rw [show (w5.alloc (.cells #[.int .i64 d, .string ⟨cz.toArray⟩, .slice A1 n1 k1] 32)).heap.size = w5.heap.size + 1 by simp] at hq2
    have hS := Same_any _ _ _ _ _ _ [(d, cz, m)] [(d, cz, m)] _ (ens1d hq.c0 hq.c1 hq.c2 hq.lns) (ens1d hq2.c0 hq2.c1 hq2.c2 hq2.lns)
    rw [decide_eq_true rfl] at hS
    have HS := Lib.hid hS
    have BE := Lib.hid (Below.al (Below.al (Below.refl _ w5) (.cells #[.int .i64 d, .string ⟨cz.toArray⟩, .slice A1 n1 k1] 32)) (.cells #[.int .i64 d, .string ⟨cz.toArray⟩, .slice A2 n2 k2] 32))
    have XE := Lib.hid ((X5.out.al (.cells #[.int .i64 d, .string ⟨cz.toArray⟩, .slice A1 n1 k1] 32)).al (.cells #[.int .i64 d, .string ⟨cz.toArray⟩, .slice A2 n2 k2] 32))
    have YE := Lib.hid ((Y5.out.al (.cells #[.int .i64 d, .string ⟨cz.toArray⟩, .slice A1 n1 k1] 32)).al (.cells #[.int .i64 d, .string ⟨cz.toArray⟩, .slice A2 n2 k2] 32))
    clear hq hq2 hS
    obtain ⟨y0, y1, y2, _⟩ := Y5.out
    obtain ⟨z0, z1, z2, _⟩ := Z5.out
    have ly : by_ < w5.heap.size := Y5.out.lt
    have lz : bz < w5.heap.size := Z5.out.lt
    clear X5 Y5 Z5
    go_wp2_with fail
    refine HS.out.mono ?_
    rintro e w6 ⟨rfl, hb⟩
    have B6 := Lib.hid (below_next BE.out hb ⟨rfl, rfl, rfl, rfl⟩)
    have X6 := Lib.hid (XE.out.below hb)
    have Y6 := Lib.hid (YE.out.below hb)
    clear hb HS BE XE YE y0 y1 y2 z0 z1 z2 ly lz
    obtain ⟨x0, x1, x2⟩ := X6.out
    obtain ⟨y0, y1, y2, hLy⟩ := Y6.out
    have HLy := Lib.hid hLy
    clear hLy
    by_cases h0 : 0 < n1
    · have h0i : (0 : Int) < (n1 : Int) := by omega
      have h0d : decide ((0 : Int) < (n1 : Int)) = true := decide_eq_true h0i
      go_wp2_with fail
      refine (CCK.out _ _ _ _ h0 (below_ahead B5.out B6.out) HLy.out).mono ?_
      rintro e w7 ⟨rfl, hb⟩
      have B7 := Lib.hid (below_next B6.out hb ⟨rfl, rfl, rfl, rfl⟩)
      have X7 := Lib.hid (X6.out.below hb)
      have Y7 := Lib.hid (Y6.out.below hb)
      clear hb x0 x1 x2 y0 y1 y2 B6 X6 Y6
      obtain ⟨x0, x1, x2⟩ := X7.out
      obtain ⟨y0, y1, y2, _⟩ := Y7.out
      go_wp2_with fail
      go_meet
      exact ⟨rfl, B7⟩
    · have h0i : ¬ (0 : Int) < (n1 : Int) := by omega
      have h0d : decide ((0 : Int) < (n1 : Int)) = false := decide_eq_false h0i
      go_wp2_with fail
      go_meet
      exact ⟨rfl, B6⟩
  case rest =>
  obtain ⟨rfl, hbe⟩ := hcut
  have B8 := Lib.hid (below_ahead B5.out hbe.out)
  have X8 := Lib.hid (X5.out.below hbe.out)
  have Y8 := Lib.hid (Y5.out.below hbe.out)
  clear hbe X5 Y5 Z5 B5 CCK
  obtain ⟨x0, x1, x2⟩ := X8.out
  obtain ⟨y0, y1, y2, hLy⟩ := Y8.out
  have HLy := Lib.hid hLy
  obtain ⟨N, hN⟩ : ∃ N, (l ++ m).length = N := ⟨_, rfl⟩
  have HN := Lib.hid hN
  have HN1 := Lib.hid (show N ≤ 1000 by rw [← hN, List.length_append]; have := H66.out; have := HS64.out; omega)
  clear hN
  have HSM := Lib.hid (show ∀ x ∈ l ++ m, Sml x from fun x hx => by
    rcases List.mem_append.1 hx with h | h
    · exact HL.out.sml x h
    · exact HLy.out.sml x h)
  clear hLy
  have lx : w.heap.size < wc.heap.size := X8.out.lt
  have ly : by_ < wc.heap.size := Y8.out.lt
  go_wp2_with fail
  clear x0 x1 x2 y0 y1 y2 lx ly
  refine (concat_anyL wc.heap.size A A1 n c n1 k1 l m _ (by simp) (by go_simp) (by go_simp) (HL.out.rds.below (Below.al B8.out _)) (HLy.out.rds.below (Below.al (Below.refl _ _) _)) HL.out.small HLy.out.small).mono ?_
  rintro e w9 ⟨v, rfl, hv, hb⟩
  obtain ⟨A3, k3, rfl, _⟩ := hv.rds
  rw [HN.out] at hv ⊢
  have B9 := Lib.hid (below_next (Below.al B8.out _) hb ⟨rfl, rfl, rfl, rfl⟩)
  have X9 := Lib.hid ((X8.out.al (.cells #[.slice A n c, .slice A1 n1 k1] 30)).below hb)
  have Y9 := Lib.hid ((Y8.out.al (.cells #[.slice A n c, .slice A1 n1 k1] 30)).below hb)
  have HM := Lib.hid (own_lns hv HN1.out HSM.out)
  clear hb hv X8 Y8 B8 HLy HSM
  have hN1 := HN1.out
  go_wp2_with fail
  go_loopw [78, 8] (fun i _ wr => ∃ k : Nat, k ≤ N ∧ i = .int .i64 (k : Int) ∧ Hid (Below w9.heap.size w9 wr)) (fun i _ _ => N - (intOf i).toNat)
  case atStart => exact ⟨0, by omega, rfl, Lib.hid (Below.refl _ _)⟩
  case round =>
    obtain ⟨k, hk, rfl, HB⟩ := hrel
    have HBw := Lib.hid (below_ahead B9.out HB.out)
    by_cases hlt : k < N
    · obtain ⟨b1, o1, rfl, hb1, hc1⟩ := HM.out.at_ (by omega)
      obtain ⟨q0, q1, q2⟩ := hc1 k hlt
      have r0 := (HB.out.cell (p := ⟨b1, o1 + k * 3, none⟩) hb1).trans q0
      have r1 := (HB.out.cell (p := ⟨b1, o1 + k * 3 + 1, none⟩) hb1).trans q1
      have r2 := (HB.out.cell (p := ⟨b1, o1 + k * 3 + 2, none⟩) hb1).trans q2
      have hki : (k : Int) < (N : Int) := by omega
      have Xr := Lib.hid (X9.out.below HB.out)
      have Yr := Lib.hid (Y9.out.below HB.out)
      clear q0 q1 q2 hc1
      generalize (l ++ m).getD k ln0 = x at *
      obtain ⟨a, cu, am⟩ := x
      simp only at r0 r1 r2
      have Xa := Lib.hid (Xr.out.al (.cells #[.string ⟨a.toArray⟩, .string ⟨cu.toArray⟩, .string ⟨am.toArray⟩] 45))
      have Ya := Lib.hid (Yr.out.al (.cells #[.string ⟨a.toArray⟩, .string ⟨cu.toArray⟩, .string ⟨am.toArray⟩] 45))
      have Ba := Lib.hid (Below.al HBw.out (.cells #[.string ⟨a.toArray⟩, .string ⟨cu.toArray⟩, .string ⟨am.toArray⟩] 45))
      have Bl := Lib.hid (Below.al HB.out (.cells #[.string ⟨a.toArray⟩, .string ⟨cu.toArray⟩, .string ⟨am.toArray⟩] 45))
      have La := Lib.hid (heap_alloc_new wr (.cells #[.string ⟨a.toArray⟩, .string ⟨cu.toArray⟩, .string ⟨am.toArray⟩] 45))
      go_upto_region 12 with fail
      clear r0 r1 r2
      generalize wr.alloc (.cells #[.string ⟨a.toArray⟩, .string ⟨cu.toArray⟩, .string ⟨am.toArray⟩] 45) = wa at *
      generalize wr.heap.size = bw at *
      have HSC := Lib.hid (fun W (h : Below wa.heap.size wa W) => (show (W.cell? ⟨w.heap.size, 0, none⟩ = some (.int .i64 d) ∧ W.cell? ⟨w.heap.size, 1, none⟩ = some (.string ⟨cz.toArray⟩) ∧ W.cell? ⟨w.heap.size, 2, none⟩ = some (.slice A n c)) ∧ (W.cell? ⟨by_, 0, none⟩ = some (.int .i64 d) ∧ W.cell? ⟨by_, 1, none⟩ = some (.string ⟨cz.toArray⟩) ∧ W.cell? ⟨by_, 2, none⟩ = some (.slice A1 n1 k1)) ∧ (W.cell? ⟨bw, 0, none⟩ = some (.string ⟨a.toArray⟩) ∧ W.cell? ⟨bw, 1, none⟩ = some (.string ⟨cu.toArray⟩) ∧ W.cell? ⟨bw, 2, none⟩ = some (.string ⟨am.toArray⟩)) from ⟨⟨(Xa.out.below h).c0, (Xa.out.below h).c1, (Xa.out.below h).c2⟩, ⟨(Ya.out.below h).c0, (Ya.out.below h).c1, (Ya.out.below h).c2⟩, (cells3 (zblk h La.out)).1⟩))
      have HBc := Lib.hid (Below.refl wa.heap.size wa)
      go_region_held3 (fun W => (W.cell? ⟨w.heap.size, 0, none⟩ = some (.int .i64 d) ∧ W.cell? ⟨w.heap.size, 1, none⟩ = some (.string ⟨cz.toArray⟩) ∧ W.cell? ⟨w.heap.size, 2, none⟩ = some (.slice A n c)) ∧ (W.cell? ⟨by_, 0, none⟩ = some (.int .i64 d) ∧ W.cell? ⟨by_, 1, none⟩ = some (.string ⟨cz.toArray⟩) ∧ W.cell? ⟨by_, 2, none⟩ = some (.slice A1 n1 k1)) ∧ (W.cell? ⟨bw, 0, none⟩ = some (.string ⟨a.toArray⟩) ∧ W.cell? ⟨bw, 1, none⟩ = some (.string ⟨cu.toArray⟩) ∧ W.cell? ⟨bw, 2, none⟩ = some (.string ⟨am.toArray⟩)))
        (first | (refine HSC.out _ ?_; repeat (first | exact HBc.out | refine Below.drew ?_ | refine Below.al ?_ _)))
        (first
          | (go_at_call 26; with_reducible refine (CAX.out _ a cu ?_).mono ?_
             · refine below_ahead Ba.out ?_
               repeat (first | exact HBc.out | refine Below.drew ?_ | refine Below.al ?_ _)
             rintro e w' ⟨rfl, hb⟩
             have HBc := Lib.hid (below_via (w := wa) hb (by repeat (first | exact HBc.out | refine Below.drew ?_ | refine Below.al ?_ _)))
             clear hb)
          | (go_at_call 26; with_reducible refine (CAN.out _ A1 n1 k1 a cu ?_ ?_).mono ?_
             · refine below_ahead Ba.out ?_
               repeat (first | exact HBc.out | refine Below.drew ?_ | refine Below.al ?_ _)
             · refine Ya.out.lns.below ?_
               repeat (first | exact HBc.out | refine Below.drew ?_ | refine Below.al ?_ _)
             rintro e w' ⟨rfl, hb⟩
             have HBc := Lib.hid (below_via (w := wa) hb (by repeat (first | exact HBc.out | refine Below.drew ?_ | refine Below.al ?_ _)))
             clear hb))
      all_goals
        have HBf := Lib.hid (below_ahead Bl.out HBc.out)
        clear HSC HBc
        go_wp2_with fail
        go_roundw
        case rel => exact ⟨k + 1, by omega, by go_num, HBf⟩
        case measure => simp [intOf]; omega
    · have hkn : k = N := by omega
      subst hkn
      have hki : ¬ (k : Int) < (k : Int) := by omega
      go_wp2_with fail
      refine (HW.out _ HBw.out).mono ?_
      rintro e w12 ⟨rfl, hb⟩
      have B12 := Lib.hid (below_next HBw.out hb ⟨rfl, rfl, rfl, rfl⟩)
      clear hb
      go_wp2_with fail
      exact HP.out _ B12.out
theorem sums_row (d : Int) (cz : List UInt8) (A : Option Addr) (n c : Nat) (l : List Ln) (w : World) (hr : rowL.Rds w A n c l) (ht : Tab w) (hm : ML w) :
    Calls Tryz.prog 6 #[.agg (enV d cz A n c)] w (BoolPost true w) := by
  cases hg : g1B cz l with
  | true => exact sums_great d cz A n c l w hr hg ht hm
  | false =>
    by_cases hn : nrmI d cz l = 0
    · exact sums_ok d cz A n c l w hr hg (nrmI_iff.1 hn) ht hm
    · exact sums_bad d cz A n c l w hr hg hn ht hm
end Go.Proofs.YtdnomfekblmnbaaGreatDoor

/- EntrySums: for every entry the call of tranchelaw35.EntrySums returns true, and its arguments read as before. The card ties the variables of Go's library that it lists; the seat is a pruned copy: of packages left out the card says nothing. -/
namespace Go.Proofs.YtdnomfekblmnbaaGreatDoor.entrySums
open Go.ChangeShapes Go.WideShapes Go.ChangeAt Go.RowKit
open Go.ChangeMaps (open_string shut_string)
set_option linter.unusedVariables false

set_option maxRecDepth 100000 in
theorem lifted (os : Os) (started : os.Started) (H : Type) (enc : TypeId × Value → H) :
    ReturnsInHanded {} Tryz.checked os 6 .any (fun w args => (Rows.entrySumsSpec.pre enc Tryz.prog Tryz.f6 [] false w args ∧ laidMetH Tryz.prog Rows.entrySumsRow.laid w) ∧ sizedMet enc Tryz.prog Tryz.f6 (OpenSpec.ofChange Rows.entrySumsSpec) false w args)
      (Rows.entrySumsSpec.post enc Tryz.prog Tryz.f6 false true false false) := by
  refine handed_both (C := Tryz.checked) (X := fun w _ => laidMetH Tryz.prog Rows.entrySumsRow.laid w) (fun _ _ _ hh h => h.of_heap hh) own started (by kernel_rfl) Tryz.func6
    (ChangeSpec.witness_shaped (enc := enc) (C := Tryz.checked) (os := os) (X := fun w _ => laidMetH Tryz.prog Rows.entrySumsRow.laid w) false (World.laidAll Tryz.prog os Rows.entrySumsRow.laid) #[.agg #[.int .i64 0, .string ByteArray.empty, .slice none 0 0]] 8 (World.laidAll_os _ _ _)
      (World.shaped_of_ZipB (by kernel_rfl) (by kernel_rfl)) (by kernel_rfl) (by kernel_rfl) (by kernel_rfl)
      (by rw [MakeChecks.laidMetH_plain _ _ _ (by kernel_rfl)]; exact laidMet_laidAll _ (by kernel_rfl) (by kernel_rfl))) ?_
  intro W base args ds gs before hval0 hW hL hsh
  have hval : ∀ (j : Nat) t v, Tryz.f6.params[j]? = some t → args[j]? = some v → Value.okWide Tryz.prog W .any base t v := hval0
  have hW' := hW
  obtain ⟨p, q, hA0, hV, rfl, hfz, hnd⟩ := hW
  have hA : DataW.TrodAll enc Tryz.prog W 0 (fun _ => true) true Tryz.f6.params.toList args.toList ds p := hA0
  rw [Tryz.params6] at hA hval
  obtain ⟨v0, vs0, d0, ds0, p0, q0, hargs, rfl, rfl, h0, r0⟩ := trodAll_cons hA
  obtain ⟨rfl, rfl, rfl⟩ := trodAll_nil r0
  obtain rfl : args = #[v0] := by cases args; simp_all
  obtain ⟨rfl, rfl⟩ := trodVars_none hV
  obtain ⟨t0, z0, A0, n0, c0, l0, rfl, s0⟩ := arg_entry (hval 0 32 v0 rfl rfl) h0
  clear hA0 hval0
  refine (sums_row t0 z0 A0 n0 c0 l0 W s0 (tab_of hL) (ml_of hsh)).mono fun e W' ⟨he, hg⟩ => ?_
  subst he
  exact ⟨_, rfl, post_true (tb := 4) hW' rfl laid (by kernel_rfl) rfl Tryz.underlying4 ⟨rfl, rfl, rfl⟩ hg⟩

theorem over : Rows.EntrySumsSaid :=
  OpenClaim.holds_of_wide 6 Tryz.f6 rfl rfl rfl rfl rfl rfl rfl ⟨rfl, rfl, rfl, rfl, rfl⟩ rfl rfl rfl rfl rfl (by kernel_rfl) Tryz.func6 (by kernel_rfl)
    (of_decide_eq_true (by kernel_rfl)) (by unfold Func.isWrapper; first | (rw [if_pos (by decide +kernel)]; kernel_rfl) | (rw [if_neg (by decide +kernel)]; exact ⟨rfl, rfl⟩))
    (fun os started H enc _ => lifted os started H enc)

theorem plain (f : FuncId) (fn : Func) (hf : Tryz.pinned.checked.prog.funcNamed "tranche/tranchelaw35.EntrySums" = some f) (hfn : Tryz.pinned.checked.prog.funcs[f]? = some fn) :
    true = Tryz.pinned.checked.prog.looks [] ∧ ∀ (j : Nat) t, fn.params[j]? = some t → Tryz.pinned.checked.prog.wantsStandIn t = false := by
  obtain rfl : f = 6 := Option.some.inj ((show Tryz.prog.funcNamed "tranche/tranchelaw35.EntrySums" = some 6 by kernel_rfl).symm.trans hf) |>.symm
  obtain rfl : fn = Tryz.f6 := (Option.some.inj (Tryz.func6.symm.trans hfn)).symm
  refine ⟨by kernel_rfl, fun j t ht => ?_⟩
  rw [Tryz.params6] at ht
  have hm : t ∈ [32] := by simpa using Array.mem_of_getElem? ht
  have hall : (([32] : List TypeId).all fun u => !Tryz.prog.wantsStandIn u) = true := by kernel_rfl
  exact (show Tryz.prog.wantsStandIn t = false by simpa using List.all_eq_true.1 hall t hm)

theorem proved : Rows.EntrySumsCardSaid :=
  Claim7.holds_tied_plain_at .later [] _ _ _ _ over (fun _ h => by cases h) (by kernel_rfl) (fun _ h => by cases h) entrySums_row_tie rfl ⟨rfl, rfl⟩ (by kernel_rfl) rfl plain (by kernel_rfl)
end Go.Proofs.YtdnomfekblmnbaaGreatDoor.entrySums
