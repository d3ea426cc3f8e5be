/- What the walks of the laws share: boxes with entries, returned entries, slices of one entry. -/
import Derived.Test.YtdnomfekblmnbaaGreatDoorQ7
import Derived.Test.YtdnomfekblmnbaaGreatDoorQ9
import Derived.Test.YtdnomfekblmnbaaGreatDoorQ6
import Derived.Test.YtdnomfekblmnbaaGreatDoorQ5
import Derived.Test.YtdnomfekblmnbaaGreatDoorQ10
import Derived.Test.YtdnomfekblmnbaaGreatDoorQ8
import Derived.WalkLawsBesides
import Derived.Deep.QuietTactic
import Derived.Deep.DeepCutAuto
namespace Go.Proofs.YtdnomfekblmnbaaGreatDoor
open Go.RowKit Go.Maps Num

/-- a box with an entry in it -/
structure Bx (W : World) (b : Nat) (d : Int) (s : List UInt8) (A : Option Addr) (n c : Nat) (l : List Ln) : Prop where
  c0 : W.cell? ⟨b, 0, none⟩ = some (.int .i64 d)
  c1 : W.cell? ⟨b, 1, none⟩ = some (.string ⟨s.toArray⟩)
  c2 : W.cell? ⟨b, 2, none⟩ = some (.slice A n c)
  lns : Lns W A n c l
theorem Bx.lt {W : World} {b : Nat} {d : Int} {s : List UInt8} {A : Option Addr} {n c : Nat} {l : List Ln} (h : Bx W b d s A n c l) : b < W.heap.size := block_lt_of_cell h.c0
theorem Bx.below {W W' : World} {b : Nat} {d : Int} {s : List UInt8} {A : Option Addr} {n c : Nat} {l : List Ln} (h : Bx W b d s A n c l) (hb : Below W.heap.size W W') : Bx W' b d s A n c l :=
  ⟨(hb.cell (p := ⟨b, 0, none⟩) h.lt).trans h.c0, (hb.cell (p := ⟨b, 1, none⟩) h.lt).trans h.c1, (hb.cell (p := ⟨b, 2, none⟩) h.lt).trans h.c2, h.lns.below hb⟩
theorem Bx.new {W : World} {d : Int} {s : List UInt8} {A : Option Addr} {n c : Nat} {l : List Ln} (h : Lns W A n c l) : Bx (W.alloc (.cells #[.int .i64 d, .string ⟨s.toArray⟩, .slice A n c] 32)) W.heap.size d s A n c l := by
  obtain ⟨⟨c0, c1, c2⟩, _⟩ := cells3 (heap_alloc_new W (.cells #[.int .i64 d, .string ⟨s.toArray⟩, .slice A n c] 32))
  exact ⟨c0, c1, c2, h.below ((Below.refl _ _).alloc (Nat.le_refl _) _)⟩
theorem Bx.al {W : World} {b : Nat} {d : Int} {s : List UInt8} {A : Option Addr} {n c : Nat} {l : List Ln} (h : Bx W b d s A n c l) (o : Obj) : Bx (W.alloc o) b d s A n c l := h.below (Below.al (Below.refl _ _) o)
/-- the like, of any lines -/
structure BxR (W : World) (b : Nat) (d : Int) (s : List UInt8) (A : Option Addr) (n c : Nat) : Prop where
  c0 : W.cell? ⟨b, 0, none⟩ = some (.int .i64 d)
  c1 : W.cell? ⟨b, 1, none⟩ = some (.string ⟨s.toArray⟩)
  c2 : W.cell? ⟨b, 2, none⟩ = some (.slice A n c)
theorem BxR.lt {W : World} {b : Nat} {d : Int} {s : List UInt8} {A : Option Addr} {n c : Nat} (h : BxR W b d s A n c) : b < W.heap.size := block_lt_of_cell h.c0
theorem BxR.below {W W' : World} {b : Nat} {d : Int} {s : List UInt8} {A : Option Addr} {n c : Nat} (h : BxR W b d s A n c) (hb : Below W.heap.size W W') : BxR W' b d s A n c :=
  ⟨(hb.cell (p := ⟨b, 0, none⟩) h.lt).trans h.c0, (hb.cell (p := ⟨b, 1, none⟩) h.lt).trans h.c1, (hb.cell (p := ⟨b, 2, none⟩) h.lt).trans h.c2⟩
theorem BxR.new (W : World) (d : Int) (s : List UInt8) (A : Option Addr) (n c : Nat) : BxR (W.alloc (.cells #[.int .i64 d, .string ⟨s.toArray⟩, .slice A n c] 32)) W.heap.size d s A n c := by
  obtain ⟨⟨c0, c1, c2⟩, _⟩ := cells3 (heap_alloc_new W (.cells #[.int .i64 d, .string ⟨s.toArray⟩, .slice A n c] 32))
  exact ⟨c0, c1, c2⟩
theorem BxR.al {W : World} {b : Nat} {d : Int} {s : List UInt8} {A : Option Addr} {n c : Nat} (h : BxR W b d s A n c) (o : Obj) : BxR (W.alloc o) b d s A n c := h.below (Below.al (Below.refl _ _) o)
theorem zblk {W w' : World} {b : Nat} {cs : Array Value} {t : TypeId} (hb : Below W.heap.size W w') (h : W.heap[b]? = some (.cells cs t)) : w'.heap[b]? = some (.cells cs t) := (hb.block b (block_lt_of_row h)).trans h
theorem zA (w : World) (o1 o2 : Obj) : ((w.alloc o1).alloc o2).heap[w.heap.size]? = some o1 := by
  rw [heap_alloc_old _ _ (by simp)]; exact heap_alloc_new w o1
theorem zB (w : World) (o1 o2 : Obj) : ((w.alloc o1).alloc o2).heap[w.heap.size + 1]? = some o2 := by
  have h := heap_alloc_new (w.alloc o1) o2
  rwa [show (w.alloc o1).heap.size = w.heap.size + 1 by simp] at h
theorem own_set3 {α : Type} {R : Row α} {B : Nat} {w : World} {v : Value} {l : List α} (h : R.Own B w v l) {b : Nat} (hb : b < B) (p q u : Value) : R.Own B (((w.setCell ⟨b, 0, none⟩ p).setCell ⟨b, 1, none⟩ q).setCell ⟨b, 2, none⟩ u) v l :=
  have hr : ∀ k, some b = some k → k < B := fun k e => by have := Option.some.inj e; omega
  ((h.kept (grown_setCell w ⟨b, 0, none⟩ p) hr).kept (grown_setCell _ ⟨b, 1, none⟩ q) hr).kept (grown_setCell _ ⟨b, 2, none⟩ u) hr
theorem own_lns {B n c : Nat} {w : World} {A : Option Addr} {l : List Ln} (h : rowL.Own B w (.slice A n c) l) (hn : n ≤ 1000) (hs : ∀ x ∈ l, Sml x) : Lns w A n c l := by
  obtain ⟨A', c', e, hr⟩ := h.rds
  injection e with e1 e2 e3
  subst e1 e3
  rw [← e2] at hr
  exact Lns.of_rds hr hn hs
theorem below_set1 {B b : Nat} {w W : World} (h : Below B w W) (hB : B ≤ w.heap.size) (hb : B ≤ b) (i : Nat) (v : Value) : Below B w (W.setCell ⟨b, i, none⟩ v) := below_grown h hB (grown_setCell W ⟨b, i, none⟩ v) hb
theorem below_al2 {B : Nat} {w W : World} (h : Below B w W) (hB : w.heap.size = B) (o : Obj) : Below B w (W.alloc o) := h.alloc (by have := h.size; omega) o
theorem below_set2 {B b : Nat} {w W : World} (h : Below B w W) (hB : w.heap.size = B) (hb : B ≤ b) (i : Nat) (v : Value) : Below B w (W.setCell ⟨b, i, none⟩ v) := below_set1 h (by omega) hb i v
/-- the first line of a slice of the call's own -/
theorem own_head {B g n k : Nat} {w : World} {x : Ln} {r : List Ln} (h : rowL.Own B w (.slice (some ⟨g, 0, none⟩) n k) (x :: r)) (hn : 0 < n) :
    w.cell? ⟨g, 0, none⟩ = some (.string ⟨x.1.toArray⟩) ∧ w.cell? ⟨g, 1, none⟩ = some (.string ⟨x.2.1.toArray⟩) ∧ w.cell? ⟨g, 2, none⟩ = some (.string ⟨x.2.2.toArray⟩) ∧ g < w.heap.size ∧ B ≤ g ∧ w.frozen? ⟨g, 2, none⟩ = false ∧ (x :: r).length = n := by
  have hf := Row.Own.frz h 2
  have ho := h.own g rfl
  obtain ⟨A, c, e, hr⟩ := h.rds
  injection e with e1 e2 e3
  subst e1 e3
  rw [← e2] at hr
  have c0 := hr.cell rowL_ok ln0 0 0 _ hn rfl
  have c1 := hr.cell rowL_ok ln0 0 1 _ hn rfl
  have c2 := hr.cell rowL_ok ln0 0 2 _ hn rfl
  exact ⟨c0, c1, c2, ho.2, ho.1, hf, e2.symm⟩
theorem below_ahead2 {B : Nat} {w W w' : World} (h : Below B w W) (hB : w.heap.size = B) (hb : Below W.heap.size W w') : Below B w w' := h.trans (hb.mono (by have := h.size; omega))
/-- the first line's amount is written -/
theorem own_set_amt {B g n k : Nat} {w : World} {a cu am : List UInt8} {r : List Ln} (h : rowL.Own B w (.slice (some ⟨g, 0, none⟩) n k) ((a, cu, am) :: r)) (nm : List UInt8) : rowL.Own B (w.setCell ⟨g, 2, none⟩ (.string ⟨nm.toArray⟩)) (.slice (some ⟨g, 0, none⟩) n k) ((a, cu, nm) :: r) := by
  have hn : n = ((a, cu, am) :: r).length := by
    rcases h.2 with ⟨e, _⟩ | ⟨g', cap', cur, e, _⟩
    · cases e
    · injection e
  subst hn
  have h' : w.ownsRow B 45 3 (.slice (some ⟨g, 0, none⟩) ((a, cu, am) :: r).length k) ((a, cu, am) :: r).length (rowL.vs ((a, cu, am) :: r)) := h
  exact (h'.stored 2 (.string ⟨nm.toArray⟩)).1
theorem u8_rng {a : Int} (h : (Lit.int .u8 a).wf = true) : 0 ≤ a ∧ a ≤ 255 := by
  simp only [Lit.wf, Bool.and_eq_true, decide_eq_true_eq] at h
  have h1 : IntKind.min .u8 = 0 := by decide
  have h2 : IntKind.max .u8 = 255 := by decide
  omega
/-- a slice of one entry -/
theorem ens1d {W : World} {b : Nat} {d : Int} {s : List UInt8} {A : Option Addr} {n c : Nat} {l : List Ln} (c0 : W.cell? ⟨b, 0, none⟩ = some (.int .i64 d)) (c1 : W.cell? ⟨b, 1, none⟩ = some (.string ⟨s.toArray⟩)) (c2 : W.cell? ⟨b, 2, none⟩ = some (.slice A n c)) (hl : Lns W A n c l) : Ens W (some ⟨b, 0, none⟩) 1 1 [(d, s, l)] := by
  refine Res.ens (ps := [((d, s, A, n, c), (d, s, l))]) ⟨rds_cells [((d, s, A, n, c), (d, s, l))] (block_lt_of_cell c0) ?_ (by show 1 ≤ maxLen; decide), ?_⟩ (by decide)
  · intro j u hu
    rcases j with _ | _ | _ | j
    · exact c0.trans hu
    · exact c1.trans hu
    · exact c2.trans hu
    · cases hu
  · intro p hp
    rw [List.mem_singleton.1 hp]
    exact ⟨rfl, rfl, hl⟩
/-- an entry and a code, returned -/
def EnQ (d : Int) (s : List UInt8) (l : List Ln) (i : Int) (w : World) (e : Ending) (w' : World) : Prop :=
  ∃ A n c, e = .returned (.tuple #[.agg #[.int .i64 d, .string ⟨s.toArray⟩, .slice A n c], .int .i64 i]) ∧ Lns w' A n c l ∧ Below w.heap.size w w'
theorem nrm_enq {d : Int} {c : List UInt8} {l : List Ln} {w w' : World} {e : Ending} (h : NrmPost d c l w e w') : EnQ (nrmY d c l).1 (nrmY d c l).2.1 (nrmY d c l).2.2 (nrmI d c l) w e w' := nrm_enp h
theorem rev_enq {d : Int} {c : List UInt8} {l : List Ln} {w w' : World} {e : Ending} (h : RevPost d c l w e w') : EnQ (revY d c l).1 (revY d c l).2.1 (revY d c l).2.2 (revI d c l) w e w' := rev_enp h
/-- a call ahead: a world of it is one of the caller's -/
theorem below_ahead {w W w' : World} (h : Below w.heap.size w W) (hb : Below W.heap.size W w') : Below w.heap.size w w' := h.trans (hb.mono h.size)
end Go.Proofs.YtdnomfekblmnbaaGreatDoor

/- Contract of the reference's Sort. -/
namespace Go.Proofs.YtdnomfekblmnbaaGreatDoor
open Go.RowKit Go.Maps Num

theorem own_emptyE (B : Nat) (w : World) (hB : B ≤ w.heap.size) : rowE.Own B (w.alloc (.cells #[] 32)) (.slice (some ⟨w.heap.size, 0, none⟩) 0 0) [] :=
  ⟨rfl, .inr ⟨_, 0, #[], rfl, hB, heap_alloc_new w _, Nat.le_refl _, by unfold maxLen; omega, by simp, rfl⟩⟩
/-- the reference's comparison of two entries that lie in memory -/
theorem rcmp_re (p q : RE) (w : World) (hp : RdE w p) (hq : RdE w q) :
    Calls Tryz.prog 15 #[.agg (encE p).toArray, .agg (encE q).toArray] w fun e w' => e = .returned (.int .i64 (cE p q)) ∧ Below w.heap.size w w' := by
  obtain ⟨⟨d1, z1, A1, n1, c1⟩, e1, f1, k1⟩ := p
  obtain ⟨⟨d2, z2, A2, n2, c2⟩, e2, f2, k2⟩ := q
  obtain ⟨h1, h2, h3⟩ := hp
  obtain ⟨h4, h5, h6⟩ := hq
  simp only at h1 h2 h4 h5
  subst h1 h2 h4 h5
  exact rcmpE_any d1 d2 z1 z2 A1 A2 n1 c1 n2 c2 k1 k2 w h3 h6
def RSrtP (ps : List RE) (w : World) (e : Ending) (w' : World) : Prop := ∃ (v : Value) (qs : List RE), e = .returned v ∧ qs.Perm ps ∧ Srt cE qs ∧ rowE.Own w.heap.size w' v qs ∧ Below w.heap.size w w'
set_option maxRecDepth 100000 in
set_option maxHeartbeats 4000000 in
theorem rsort_any (A : Option Addr) (n c : Nat) (ps : List RE) (w : World) (hl : Res w A n c ps) (hn : n ≤ 1000) : Calls Tryz.prog 81 #[.slice A n c] w (RSrtP ps w) := by
  have hlen := hl.rds.len
  have HOE := Lib.hid (own_emptyE w.heap.size w (Nat.le_refl _))
  have HBE := Lib.hid ((Below.refl w.heap.size w).alloc (Nat.le_refl _) (.cells #[] 32))
  have HR8 := Lib.hid (hl.rds.below HBE.out)
  have HR := Lib.hid hl.all
  have HP := Lib.hid (fun W v qs (h1 : qs.Perm ps) (h2 : Srt cE qs) (h3 : rowE.Own w.heap.size W v qs) (h4 : Below w.heap.size w W) => (show RSrtP ps w (.returned v) W from ⟨v, qs, rfl, h1, h2, h3, h4⟩))
  clear hl
  generalize RSrtP ps w = Post at *
  go_enter Tryz.func81, Tryz.ntmps81
  go_wp2_with (at_builtin; go_must (refine Row.wp_append rowE_ok rfl (.tmp 6) (.tmp 7) rfl w.heap.size _ [] (w.alloc (.cells #[] 32)) A n c ps rfl HOE.out rfl HR8.out HBE.out.size (by simp; omega) ?_); intro v w1 hown1 hg1 _)
  rw [List.nil_append] at hown1
  have B1 := Lib.hid (own_below HOE.out HBE.out (Nat.le_refl _) hg1)
  clear HOE HBE HR8 hg1
  by_cases h0 : 0 < n
  case neg =>
    have hps : ps = [] := List.eq_nil_of_length_eq_zero (by omega)
    subst hps
    obtain ⟨A1, c1, rfl⟩ := hown1.slice
    have hq := Lib.hid (HP.out w1 _ [] (List.Perm.refl _) List.Pairwise.nil hown1 B1.out)
    clear hown1
    simp only [List.length_nil] at hq ⊢
    go_wp2_with fail
    refine wp_loop_rounds 1 ?_
    rw [rounds_succ]
    go_wp2_with fail
    exact hq.out
  obtain ⟨g, cap, rfl, hgB, hgs, _⟩ := hown1.pos (by omega)
  rw [hlen] at hown1 ⊢
  have HL := Lib.hid hlen
  have R0 := Lib.hid (show OutR w.heap.size w1 (.slice (some ⟨g, 0, none⟩) n cap) g ps 1 w1 from ⟨ps, List.Perm.refl _, fun p q h1 h2 => by omega, hown1, grown_refl w1 _⟩)
  have HBW := Lib.hid (fun W (h : w1.grownBy W (some g)) => below_own B1.out (Nat.le_refl _) h (fun q e => by cases e; exact hgB))
  clear hown1 hlen
  go_wp2_with fail
  go_loopw [4, 5] (fun i _ wr => ∃ k : Nat, 1 ≤ k ∧ k ≤ n ∧ i = .int .i64 (k : Int) ∧ Hid (OutR w.heap.size w1 (.slice (some ⟨g, 0, none⟩) n cap) g ps k wr)) (fun i _ _ => n - (intOf i).toNat)
  case atStart => exact ⟨1, by omega, by omega, rfl, R0⟩
  case round =>
    clear R0
    obtain ⟨k, hk1, hk2, rfl, hR⟩ := hrel
    by_cases hlt : k < n
    case neg =>
      have hki : decide ((k : Int) < (n : Int)) = false := by rw [decide_eq_false_iff_not]; omega
      obtain ⟨qs, q1, q2, q3, q4⟩ := hR.out
      have hq := Lib.hid (HP.out wr _ qs q1 (upto_srt q2 (by have := q1.length_eq; rw [HL.out] at this; omega)) q3 (HBW.out _ q4))
      clear q1 q2 q3 q4 hR
      go_wp2_with fail
      exact hq.out
    have hki : (k : Int) < (n : Int) := by omega
    obtain ⟨wo, hwo⟩ : ∃ wo, wo = wr := ⟨_, rfl⟩
    subst hwo
    go_wp2_with fail
    have I0 := Lib.hid (show InR w.heap.size w1 (.slice (some ⟨g, 0, none⟩) n cap) g ps k k wo by
      obtain ⟨qs, q1, q2, q3, q4⟩ := hR.out
      have := sink_start q2
      rw [show k - 1 + 1 = k by omega] at this
      exact ⟨qs, q1, this, q3, q4⟩)
    clear hR
    go_loopw [5] (fun j wr => ∃ q : Nat, q ≤ k ∧ j = .int .i64 (q : Int) ∧ Hid (InR w.heap.size w1 (.slice (some ⟨g, 0, none⟩) n cap) g ps k q wr)) (fun j _ => (intOf j).toNat)
    case atStart => exact ⟨k, Nat.le_refl _, rfl, I0⟩
    case round =>
      clear I0
      obtain ⟨q, hq, rfl, hI⟩ := hrel
      obtain ⟨qs, q1, q2, q3, q4⟩ := hI.out
      have hql := q1.length_eq
      rw [HL.out] at hql
      have Q1 := Lib.hid q1
      have Q2 := Lib.hid q2
      have Q3 := Lib.hid q3
      have Q4 := Lib.hid q4
      have HW := Lib.hid (HBW.out _ q4)
      have hgr : g < wr.heap.size := Nat.lt_of_lt_of_le hgs q4.size
      clear hI q1 q2 q3 q4
      by_cases hz : q = 0
      · subst hz
        have hzi : decide ((0 : Int) < ((0 : Nat) : Int)) = false := by decide
        have hU := Lib.hid (sink_zero Q2.out)
        go_wp2_with fail
        go_quiet (fail)
        have Q4' := Lib.hid (grown_below Q4.out (below_dr (Below.refl wr.heap.size wr) nq))
        have hO := Lib.hid (show OutR w.heap.size w1 (.slice (some ⟨g, 0, none⟩) n cap) g ps (k + 1) (wr.drewN nq) from ⟨qs, Q1.out, hU.out, Q3.out.dr nq, Q4'.out⟩)
        go_wp2_with fail
        exact ⟨⟨k + 1, by omega, by omega, by go_num, hO⟩, by simp [intOf]; omega⟩
      · obtain ⟨j, hj⟩ : ∃ j, q = j + 1 := ⟨q - 1, by omega⟩
        have hjn : j < n := by omega
        have hqn : q < n := by omega
        have hmx := getD_mem re0 qs q (by omega)
        have hmy := getD_mem re0 qs j (by omega)
        have hRx := (HR.out _ (Q1.out.mem_iff.1 hmx)).below HW.out
        have hRy := (HR.out _ (Q1.out.mem_iff.1 hmy)).below HW.out
        obtain ⟨r0, r1, r2⟩ := own_cells3 Q3.out q hqn
        obtain ⟨s0, s1, s2⟩ := own_cells3 Q3.out j hjn
        have hst := Lib.hid (fun h => sink_step (x0 := re0) (show Sink cE re0 qs (j + 1) k by rw [← hj]; exact Q2.out) (by omega) (by omega) h)
        have hsp := Lib.hid (fun h => sink_stop cE_cmp (x0 := re0) (show Sink cE re0 qs (j + 1) k by rw [← hj]; exact Q2.out) (by omega) h)
        rw [← hj] at hst hsp
        have hex := Lib.hid (show exch re0 qs j = (qs.set j (qs.getD q re0)).set q (qs.getD j re0) by rw [hj, List.set_comm _ _ (by omega)]; rfl)
        have hpm := Lib.hid (show (exch re0 qs j).Perm ps from (exch_perm qs j (by omega)).trans Q1.out)
        have ce := rcmp_re (qs.getD j re0) (qs.getD q re0) wr.drew (hRy.below (below_dr (Below.refl _ _) 1)) (hRx.below (below_dr (Below.refl _ _) 1))
        have hanti := cE_cmp.anti (qs.getD j re0) (qs.getD q re0)
        have hw : IntKind.i64.wrap ((q : Int) - 1) = (j : Int) := (IntWalk.i64_in _ (by omega)).trans (by omega)
        have hqi : (q : Int) < (n : Int) := by omega
        have hji : (j : Int) < (n : Int) := by omega
        have hq0 : 0 < q := by omega
        have hq0i : (0 : Int) < (q : Int) := by omega
        generalize hxe : qs.getD q re0 = x at *
        generalize hye : qs.getD j re0 = y at *
        rw [hanti] at hst hsp
        clear hanti
        obtain ⟨⟨d1, z1, A1, n1, c1⟩, x2⟩ := x
        obtain ⟨⟨d2, z2, A2, n2, c2⟩, y2⟩ := y
        simp only at r0 r1 r2 s0 s1 s2
        simp only [encE, rawA, rawN, rawC] at ce
        generalize cE ((d2, z2, A2, n2, c2), y2) ((d1, z1, A1, n1, c1), x2) = cv at *
        have CE := Lib.hid ce
        have HBr := Lib.hid (Below.refl wr.heap.size wr)
        have HS := Lib.hid (And.intro r0 (And.intro r1 (And.intro r2 (And.intro s0 (And.intro s1 s2)))))
        have hjh := Lib.hid hj
        clear ce hmx hmy hRx hRy hxe hye hj
        go_wp2_with fail
        go_region_held3 (fun w' => w'.cell? ⟨g, q * 3, none⟩ = some (.int .i64 d1) ∧ w'.cell? ⟨g, q * 3 + 1, none⟩ = some (.string ⟨z1.toArray⟩) ∧ w'.cell? ⟨g, q * 3 + 2, none⟩ = some (.slice A1 n1 c1) ∧ w'.cell? ⟨g, j * 3, none⟩ = some (.int .i64 d2) ∧ w'.cell? ⟨g, j * 3 + 1, none⟩ = some (.string ⟨z2.toArray⟩) ∧ w'.cell? ⟨g, j * 3 + 2, none⟩ = some (.slice A2 n2 c2))
          (first | exact ⟨f0, f1, f2, f3, f4, f5⟩ | exact ⟨r0, r1, r2, s0, s1, s2⟩ | go_keep)
          (first
            | (go_at_call 15; refine CE.out.mono ?_; rintro e w' ⟨rfl, hb⟩; have HBr := Lib.hid (below_next HBr.out hb ⟨rfl, rfl, rfl, rfl⟩); have f0 := (HBr.out.cell (p := ⟨g, q * 3, none⟩) hgr).trans HS.out.1; have f1 := (HBr.out.cell (p := ⟨g, q * 3 + 1, none⟩) hgr).trans HS.out.2.1; have f2 := (HBr.out.cell (p := ⟨g, q * 3 + 2, none⟩) hgr).trans HS.out.2.2.1; have f3 := (HBr.out.cell (p := ⟨g, j * 3, none⟩) hgr).trans HS.out.2.2.2.1; have f4 := (HBr.out.cell (p := ⟨g, j * 3 + 1, none⟩) hgr).trans HS.out.2.2.2.2.1; have f5 := (HBr.out.cell (p := ⟨g, j * 3 + 2, none⟩) hgr).trans HS.out.2.2.2.2.2; clear hb))
        have Q3' := Lib.hid (Q3.out.below HBr.out)
        have Q4' := Lib.hid (grown_below Q4.out HBr.out)
        by_cases hc : 0 < cv
        · have k0 := Q3'.out.frz (q * 3)
          have k1 := Q3'.out.frz (q * 3 + 1)
          have k2 := Q3'.out.frz (q * 3 + 2)
          have k3 := Q3'.out.frz (j * 3)
          have k4 := Q3'.out.frz (j * 3 + 1)
          have k5 := Q3'.out.frz (j * 3 + 2)
          have hSt := Lib.hid (hst.out (by omega))
          clear r0 r1 r2 s0 s1 s2 hst hsp
          have nn0 : q * 3 ≠ j * 3 + 1 := by omega
          have nn1 : q * 3 ≠ j * 3 + 2 := by omega
          have nn2 : q * 3 + 1 ≠ j * 3 := by omega
          have nn3 : q * 3 + 2 ≠ j * 3 := by omega
          have nn4 : q * 3 + 1 ≠ j * 3 + 2 := by omega
          have nn5 : q * 3 + 2 ≠ j * 3 + 1 := by omega
          have nn6 : q ≠ j := by have := hjh.out; omega
          have nn7 : q * 3 ≠ j * 3 := by have := hjh.out; omega
          have nn8 : j * 3 ≠ q * 3 + 1 := by omega
          have nn9 : j * 3 ≠ q * 3 + 2 := by omega
          have nn10 : j * 3 + 1 ≠ q * 3 := by omega
          have nn11 : j * 3 + 2 ≠ q * 3 := by omega
          have nn12 : j * 3 + 1 ≠ q * 3 + 2 := by omega
          have nn13 : j * 3 + 2 ≠ q * 3 + 1 := by omega
          have nn14 : j ≠ q := by have := hjh.out; omega
          have nn15 : j * 3 ≠ q * 3 := by have := hjh.out; omega
          go_wp2_with fail
          go_region
          clear k0 k1 k2 k3 k4 k5 f0 f1 f2 f3 f4 f5 nn0 nn1 nn2 nn3 nn4 nn5 nn6 nn7 nn8 nn9 nn10 nn11 nn12 nn13 nn14 nn15
          have hI := Lib.hid (show InR w.heap.size w1 (.slice (some ⟨g, 0, none⟩) n cap) g ps k j ((((((w'.setCell ⟨g, j * 3, none⟩ (.int .i64 d1)).setCell ⟨g, j * 3 + 1, none⟩ (.string ⟨z1.toArray⟩)).setCell ⟨g, j * 3 + 2, none⟩ (.slice A1 n1 c1)).setCell ⟨g, q * 3, none⟩ (.int .i64 d2)).setCell ⟨g, q * 3 + 1, none⟩ (.string ⟨z2.toArray⟩)).setCell ⟨g, q * 3 + 2, none⟩ (.slice A2 n2 c2)) by
            obtain ⟨o1, t1⟩ := Q3'.out.set3 rowE_ok.hk rfl j ((d1, z1, A1, n1, c1), x2) (.int .i64 d1) (.string ⟨z1.toArray⟩) (.slice A1 n1 c1) (by omega) rfl
            obtain ⟨o2, t2⟩ := o1.set3 rowE_ok.hk rfl q ((d2, z2, A2, n2, c2), y2) (.int .i64 d2) (.string ⟨z2.toArray⟩) (.slice A2 n2 c2) (by rw [List.length_set]; omega) rfl
            rw [← hex.out] at o2
            exact ⟨_, hpm.out, hSt.out, o2, grown_tr Q4'.out (grown_tr t1 t2)⟩)
          go_wp2_with fail
          exact ⟨⟨j, by have := hjh.out; omega, rfl, InR.dr hI⟩, by have := hjh.out; simp [intOf]; omega⟩
        · have hU := Lib.hid (hsp.out (by omega))
          have hO := Lib.hid (show OutR w.heap.size w1 (.slice (some ⟨g, 0, none⟩) n cap) g ps (k + 1) w' from ⟨qs, Q1.out, hU.out, Q3'.out, Q4'.out⟩)
          go_wp2_with fail
          exact ⟨⟨k + 1, by omega, by omega, by go_num, hO⟩, by simp [intOf]; omega⟩
end Go.Proofs.YtdnomfekblmnbaaGreatDoor

/- Contract of the reference's Less. -/
namespace Go.Proofs.YtdnomfekblmnbaaGreatDoor
open Go.RowKit Go.Maps Num

def RLssP (pa pb : List RE) (w : World) (e : Ending) (w' : World) : Prop :=
  ∃ (v : Value) (rs x y : List RE), e = .returned v ∧ rowE.Own w.heap.size w' v rs ∧ x.Perm pa ∧ y.Perm pb ∧ Srt cE x ∧ Srt cE y ∧ rs = lss cE x y ∧ Below w.heap.size w w'
theorem drop_re (l : List RE) (k : Nat) (h : k < l.length) : l.drop k = l.getD k re0 :: l.drop (k + 1) := by
  rw [List.drop_eq_getElem_cons h, List.getD_eq_getElem?_getD, List.getElem?_eq_getElem h]; rfl
/-- what Less's loops keep -/
def LsR (w2 : World) (x y : List RE) (v : Value) (i k : Nat) (W : World) : Prop :=
  Below w2.heap.size w2 W ∧ ∃ rs, rowE.Own w2.heap.size W v rs ∧ rs.length ≤ i ∧ lss cE x y = rs ++ lss cE (x.drop i) (y.drop k)
theorem LsR.skip {w2 W W' : World} {x y : List RE} {v : Value} {i k : Nat} (h : LsR w2 x y v i k W) (hi : i < x.length) (hk : k < y.length) (hc : cE (y.getD k re0) (x.getD i re0) < 0) (hb : Below W.heap.size W W') : LsR w2 x y v i (k + 1) W' := by
  obtain ⟨h1, rs, h2, h3, h4⟩ := h
  refine ⟨h1.trans (hb.mono h1.size), rs, h2.below hb, h3, ?_⟩
  rw [h4, drop_re x i hi, drop_re y k hk, lss, if_pos hc]
theorem LsR.same {w2 W W' : World} {x y : List RE} {v : Value} {i k : Nat} (h : LsR w2 x y v i k W) (hi : i < x.length) (hk : k < y.length) (hc : cE (y.getD k re0) (x.getD i re0) = 0) (hb : Below W.heap.size W W') : LsR w2 x y v (i + 1) (k + 1) W' := by
  obtain ⟨h1, rs, h2, h3, h4⟩ := h
  refine ⟨h1.trans (hb.mono h1.size), rs, h2.below hb, by omega, ?_⟩
  rw [h4, drop_re x i hi, drop_re y k hk, lss, if_neg (by omega), if_pos hc]
theorem below_ahead' {w W w' : World} (h : Below w.heap.size w W) (hb : Below W.heap.size W w') : Below w.heap.size w w' := h.trans (hb.mono h.size)
theorem below_via' {w W w' : World} (hb : Below W.heap.size W w') (h : Below w.heap.size w W) : Below w.heap.size w w' := h.trans (hb.mono h.size)
theorem LsR.dr {w2 W : World} {x y : List RE} {v : Value} {i k : Nat} (h : LsR w2 x y v i k W) (n : Nat) : LsR w2 x y v i k (W.drewN n) := by
  obtain ⟨h1, rs, h2, h3, h4⟩ := h
  exact ⟨Below.drN h1 n, rs, h2.dr n, h3, h4⟩
theorem LsR.bel {w2 W W' : World} {x y : List RE} {v : Value} {i k : Nat} (h : LsR w2 x y v i k W) (hb : Below W.heap.size W W') : LsR w2 x y v i k W' := by
  obtain ⟨h1, rs, h2, h3, h4⟩ := h
  exact ⟨h1.trans (hb.mono h1.size), rs, h2.below hb, h3, h4⟩
theorem LsR.put {w2 W W' : World} {x y : List RE} {v v' : Value} {i k : Nat} {rs : List RE} (h1 : Below w2.heap.size w2 W) (h2 : rowE.Own w2.heap.size W v rs) (h3 : rs.length ≤ i) (h4 : lss cE x y = rs ++ lss cE (x.drop i) (y.drop k)) (hi : i < x.length)
    (hc : (k < y.length ∧ 0 < cE (y.getD k re0) (x.getD i re0)) ∨ y.length ≤ k) (ho : rowE.Own w2.heap.size W' v' (rs ++ [x.getD i re0])) (hg : W.grownBy W' v.ownBlock) : LsR w2 x y v' (i + 1) k W' := by
  refine ⟨own_below h2 h1 (Nat.le_refl _) hg, _, ho, by rw [List.length_append, List.length_singleton]; omega, ?_⟩
  rw [h4, drop_re x i hi]
  rcases hc with ⟨hk, hc⟩ | hk
  · rw [drop_re y k hk, lss, if_neg (by omega), if_neg (by omega), List.append_assoc]; rfl
  · rw [List.drop_of_length_le hk, lss, List.append_assoc]
    congr 1
    rw [List.singleton_append]
    congr 1
    cases x.drop (i + 1) <;> rw [lss]
set_option maxRecDepth 100000 in
set_option maxHeartbeats 8000000 in
theorem rless_any (A B : Option Addr) (n c m d : Nat) (pa pb : List RE) (w : World) (ha : Res w A n c pa) (hb : Res w B m d pb) (hn : n ≤ 1000) (hm : m ≤ 1000) : Calls Tryz.prog 45 #[.slice A n c, .slice B m d] w (RLssP pa pb w) := by
  have HS1 := Lib.hid (rsort_any A n c pa w ha hn)
  have HS2 := Lib.hid (fun W (h : Below w.heap.size w W) => rsort_any B m d pb W (hb.below h) hm)
  have HRA := Lib.hid (fun W (h : Below w.heap.size w W) p hp => (ha.all p hp).below h)
  have HRB := Lib.hid (fun W (h : Below w.heap.size w W) p hp => (hb.all p hp).below h)
  have HLA := Lib.hid ha.rds.len
  have HLB := Lib.hid hb.rds.len
  have HP := Lib.hid (fun W v rs x y (h0 : rowE.Own w.heap.size W v rs) (h1 : x.Perm pa) (h2 : y.Perm pb) (h3 : Srt cE x) (h4 : Srt cE y) (h5 : rs = lss cE x y) (h6 : Below w.heap.size w W) => (show RLssP pa pb w (.returned v) W from ⟨v, rs, x, y, rfl, h0, h1, h2, h3, h4, h5, h6⟩))
  clear ha hb
  generalize RLssP pa pb w = Post at *
  unfold RSrtP at HS1 HS2
  go_enter Tryz.func45, Tryz.ntmps45
  go_wp2_with fail
  refine HS1.out.mono ?_
  rintro e w1 ⟨v1, x, rfl, px, sx, ox, hb1⟩
  have B1 := Lib.hid hb1
  have OX := Lib.hid ox
  clear hb1 ox HS1
  go_wp2_with fail
  refine (HS2.out _ B1.out).mono ?_
  rintro e w2 ⟨v2, y, rfl, py, sy, oy, hb2⟩
  have B2 := Lib.hid (below_next B1.out hb2 ⟨rfl, rfl, rfl, rfl⟩)
  obtain ⟨Ax, cx, rfl, rx⟩ := (OX.out.below hb2).rds
  obtain ⟨Ay, cy, rfl, ry⟩ := oy.rds
  obtain ⟨nx, hnx⟩ : ∃ nx, x.length = nx := ⟨_, rfl⟩
  obtain ⟨ny, hny⟩ : ∃ ny, y.length = ny := ⟨_, rfl⟩
  have hnx1 : nx ≤ 1000 := by rw [← hnx, px.length_eq, HLA.out]; exact hn
  have hny1 : ny ≤ 1000 := by rw [← hny, py.length_eq, HLB.out]; exact hm
  rw [hnx] at rx ⊢
  rw [hny] at ry ⊢
  have NX := Lib.hid hnx
  have NY := Lib.hid hny
  have RX := Lib.hid rx
  have RY := Lib.hid ry
  have EX := Lib.hid (fun p hp => HRA.out w2 B2.out p (px.mem_iff.1 hp))
  have EY := Lib.hid (fun p hp => HRB.out w2 B2.out p (py.mem_iff.1 hp))
  have HPP := Lib.hid (fun W v (h : LsR w2 x y v nx 0 W ∨ ∃ k, LsR w2 x y v nx k W) => (show Post (.returned v) W from by
    obtain ⟨k, h1, rs, h2, h3, h4⟩ : ∃ k, LsR w2 x y v nx k W := h.elim (fun h => ⟨0, h⟩) id
    rw [List.drop_of_length_le (by rw [NX.out]; exact Nat.le_refl _), lss, List.append_nil] at h4
    exact HP.out W v rs x y (h2.mono B2.out.size) px py sx sy h4.symm (B2.out.trans (h1.mono B2.out.size))))
  have HOE := Lib.hid (own_emptyE w2.heap.size w2 (Nat.le_refl _))
  have HBE := Lib.hid ((Below.refl w2.heap.size w2).alloc (Nat.le_refl _) (.cells #[] 32))
  have R0 := Lib.hid (show LsR w2 x y (.slice (some ⟨w2.heap.size, 0, none⟩) 0 0) 0 0 (w2.alloc (.cells #[] 32)) from ⟨HBE.out, [], HOE.out, by simp, by simp⟩)
  clear hb2 oy OX px py sx sy rx ry HS2 HRA HRB B1 B2 HP HLA HLB hnx hny HOE HBE
  go_wp2_with fail
  go_loopw [9, 8, 7] (fun i k v wr => ∃ (q p : Nat), q ≤ nx ∧ p ≤ ny ∧ i = .int .i64 (q : Int) ∧ k = .int .i64 (p : Int) ∧ Hid (LsR w2 x y v q p wr)) (fun i _ _ _ => nx - (intOf i).toNat)
  case atStart => exact ⟨0, 0, by omega, by omega, rfl, rfl, R0⟩
  case round =>
    clear R0
    obtain ⟨i, p, hi, hp, rfl, rfl, hR⟩ := hrel
    by_cases hlt : i < nx
    case neg =>
      have e : i = nx := by omega
      subst e
      have hki : ¬ (i : Int) < (i : Int) := by omega
      have hq := Lib.hid (HPP.out wr _ (.inr ⟨p, hR.out⟩))
      go_wp2_with fail
      exact hq.out
    have hii : (i : Int) < (nx : Int) := by omega
    obtain ⟨wo, hwo⟩ : ∃ wo, wo = wr := ⟨_, rfl⟩
    subst hwo
    go_wp2_with fail
    go_loopw [8] (fun k wr => ∃ k' : Nat, k' ≤ ny ∧ k = .int .i64 (k' : Int) ∧ Hid (LsR w2 x y u7 i k' wr)) (fun k _ => ny - (intOf k).toNat)
    case atStart => exact ⟨p, hp, rfl, hR⟩
    case round =>
      clear hR
      obtain ⟨k, hk, rfl, hL⟩ := hrel
      have HB := Lib.hid hL.out.1
      have hix : i < x.length := by rw [NX.out]; exact hlt
      have HPUT := Lib.hid (fun (W W' : World) (v' : Value) (rs : List RE) h1 h2 h3 h4 hc ho hg => LsR.put (w2 := w2) (x := x) (y := y) (v := u7) (v' := v') (W := W) (W' := W') (i := i) (k := k) (rs := rs) h1 h2 h3 h4 hix hc ho hg)
      obtain ⟨b1, o1, rfl, _⟩ := RX.out.at_ (by omega)
      have hXC := Lib.hid (fun W (h : Below w2.heap.size w2 W) => rds_cells3 (RX.out.below h) i hlt)
      have hEX := Lib.hid (EX.out _ (re_mem x i hix))
      by_cases hlk : k < ny
      case neg =>
        have hlki : decide ((k : Int) < (ny : Int)) = false := by rw [decide_eq_false_iff_not]; omega
        have HC := Lib.hid (show (k < y.length ∧ 0 < cE (y.getD k re0) (x.getD i re0)) ∨ y.length ≤ k from .inr (by rw [NY.out]; omega))
        clear hEX
        go_wp2_with fail
        go_quiet (fail)
        have hL1 := Lib.hid (LsR.dr hL.out nq)
        clear hL HB
        generalize wr.drewN nq = wq at *
        go_wp2_with fail
        go_quiet (fail)
        have hL2 := Lib.hid (LsR.dr hL1.out nq)
        clear hL1
        generalize wq.drewN nq = wn at *
        generalize x.getD i re0 = xi at *
        obtain ⟨⟨d1, z1, A1, n1, c1⟩, x2⟩ := xi
        obtain ⟨h1, rs, h2, h3, h4⟩ := hL2.out
        obtain ⟨r0, r1, r2⟩ := hXC.out wn h1
        have OF := Lib.hid h2
        have HBn := Lib.hid h1
        have HPU := Lib.hid (fun W' v' ho hg => HPUT.out wn W' v' rs h1 h2 h3 h4 HC.out ho hg)
        clear h1 h2 h4 hL2 HPUT HC
        go_wp2_with (first
          | (at_builtin; refine Row.wp_append1 rowE_ok rfl (.tmp 57) (.tmp 62) rfl w2.heap.size _ rs wn ((d1, z1, A1, n1, c1), x2) _ _ rfl rfl rfl OF.out rfl HBn.out.size (by omega) ?_; intro v8 w5 ho8 hg8 _; have hM := Lib.hid (HPU.out w5 v8 ho8 hg8); clear ho8 hg8)
          | fail)
        exact ⟨⟨i + 1, k, by omega, by omega, by go_num, rfl, hM⟩, by simp [intOf]; omega⟩
      have hky : k < y.length := by rw [NY.out]; exact hlk
      have hlki : (k : Int) < (ny : Int) := by omega
      obtain ⟨b2, o2, rfl, _⟩ := RY.out.at_ (by omega)
      have hYC := Lib.hid (fun W (h : Below w2.heap.size w2 W) => rds_cells3 (RY.out.below h) k hlk)
      have hEY := Lib.hid (EY.out _ (re_mem y k hky))
      have CE := Lib.hid (fun W (h : Below w2.heap.size w2 W) => rcmp_re (y.getD k re0) (x.getD i re0) W (hEY.out.below h) (hEX.out.below h))
      have HSK := Lib.hid (fun (W W' : World) (h : LsR w2 x y u7 i k W) hc hb => LsR.skip (W' := W') h hix hky hc hb)
      have HSM := Lib.hid (fun (W W' : World) (h : LsR w2 x y u7 i k W) hc hb => LsR.same (W' := W') h hix hky hc hb)
      have HCC := Lib.hid (fun (h : 0 < cE (y.getD k re0) (x.getD i re0)) => (show (k < y.length ∧ 0 < cE (y.getD k re0) (x.getD i re0)) ∨ y.length ≤ k from .inl ⟨hky, h⟩))
      clear hix hky hEX hEY
      generalize x.getD i re0 = xi at *
      generalize y.getD k re0 = yk at *
      obtain ⟨⟨d1, z1, A1, n1, c1⟩, x2⟩ := xi
      obtain ⟨⟨d2, z2, A2, n2, c2⟩, y2⟩ := yk
      simp only [encE, rawA, rawN, rawC] at CE
      generalize cE ((d2, z2, A2, n2, c2), y2) ((d1, z1, A1, n1, c1), x2) = cv at *
      have HSC := Lib.hid (fun W (h : Below w2.heap.size w2 W) => (show W.cell? ⟨b2, o2 + k * 3, none⟩ = some (.int .i64 d2) ∧ W.cell? ⟨b2, o2 + k * 3 + 1, none⟩ = some (.string ⟨z2.toArray⟩) ∧ W.cell? ⟨b2, o2 + k * 3 + 2, none⟩ = some (.slice A2 n2 c2) ∧ W.cell? ⟨b1, o1 + i * 3, none⟩ = some (.int .i64 d1) ∧ W.cell? ⟨b1, o1 + i * 3 + 1, none⟩ = some (.string ⟨z1.toArray⟩) ∧ W.cell? ⟨b1, o1 + i * 3 + 2, none⟩ = some (.slice A1 n1 c1) from ⟨(hYC.out W h).1, (hYC.out W h).2.1, (hYC.out W h).2.2, (hXC.out W h).1, (hXC.out W h).2.1, (hXC.out W h).2.2⟩))
      have HBc := Lib.hid (Below.refl wr.heap.size wr)
      clear hYC
      go_wp2_with fail
      go_region_held3 (fun W => W.cell? ⟨b2, o2 + k * 3, none⟩ = some (.int .i64 d2) ∧ W.cell? ⟨b2, o2 + k * 3 + 1, none⟩ = some (.string ⟨z2.toArray⟩) ∧ W.cell? ⟨b2, o2 + k * 3 + 2, none⟩ = some (.slice A2 n2 c2) ∧ W.cell? ⟨b1, o1 + i * 3, none⟩ = some (.int .i64 d1) ∧ W.cell? ⟨b1, o1 + i * 3 + 1, none⟩ = some (.string ⟨z1.toArray⟩) ∧ W.cell? ⟨b1, o1 + i * 3 + 2, none⟩ = some (.slice A1 n1 c1))
        (first | (refine HSC.out _ (below_ahead' HB.out ?_); repeat (first | exact HBc.out | refine Below.drew ?_ | refine Below.alloc ?_ (by omega) _)))
        (first
          | (go_at_call 15; with_reducible refine (CE.out _ ?_).mono ?_
             · refine below_ahead' HB.out ?_
               repeat (first | exact HBc.out | refine Below.drew ?_ | refine Below.alloc ?_ (by omega) _)
             rintro e w' ⟨rfl, hb⟩
             have HBc := Lib.hid (below_via' (w := wr) hb (by repeat (first | exact HBc.out | refine Below.drew ?_ | refine Below.alloc ?_ (by omega) _)))
             clear hb))
      by_cases hc1 : cv < 0
      · have hM := Lib.hid (HSK.out wr w' hL.out hc1 HBc.out)
        go_wp2_with fail
        exact ⟨⟨k + 1, by omega, by go_num, hM⟩, by simp [intOf]; omega⟩
      have hL1 := Lib.hid (LsR.bel hL.out HBc.out)
      have HB1 := Lib.hid hL1.out.1
      clear hL HB HSK HBc
      go_wp2_with fail
      have HBc := Lib.hid (Below.refl w'.heap.size w')
      generalize w' = wq at *
      go_region_held3 (fun W => W.cell? ⟨b2, o2 + k * 3, none⟩ = some (.int .i64 d2) ∧ W.cell? ⟨b2, o2 + k * 3 + 1, none⟩ = some (.string ⟨z2.toArray⟩) ∧ W.cell? ⟨b2, o2 + k * 3 + 2, none⟩ = some (.slice A2 n2 c2) ∧ W.cell? ⟨b1, o1 + i * 3, none⟩ = some (.int .i64 d1) ∧ W.cell? ⟨b1, o1 + i * 3 + 1, none⟩ = some (.string ⟨z1.toArray⟩) ∧ W.cell? ⟨b1, o1 + i * 3 + 2, none⟩ = some (.slice A1 n1 c1))
        (first | (refine HSC.out _ (below_ahead' HB1.out ?_); repeat (first | exact HBc.out | refine Below.drew ?_ | refine Below.alloc ?_ (by omega) _)))
        (first
          | (go_at_call 15; with_reducible refine (CE.out _ ?_).mono ?_
             · refine below_ahead' HB1.out ?_
               repeat (first | exact HBc.out | refine Below.drew ?_ | refine Below.alloc ?_ (by omega) _)
             rintro e w' ⟨rfl, hb⟩
             have HBc := Lib.hid (below_via' (w := wq) hb (by repeat (first | exact HBc.out | refine Below.drew ?_ | refine Below.alloc ?_ (by omega) _)))
             clear hb))
      by_cases hc2 : cv = 0
      · have hM := Lib.hid (HSM.out wq w' hL1.out hc2 HBc.out)
        have hcb : (cv == 0) = true := by rw [beq_iff_eq]; exact hc2
        go_wp2_with fail
        exact ⟨⟨i + 1, k + 1, by omega, by omega, by go_num, by go_num, hM⟩, by simp [intOf]; omega⟩
      have hcb : (cv == 0) = false := beq_eq_false_iff_ne.2 hc2
      have hL2 := Lib.hid (LsR.bel hL1.out HBc.out)
      have HC := Lib.hid (HCC.out (by omega))
      clear hL1 HB1 HSM HBc HSC CE HCC
      generalize w' = wn at *
      obtain ⟨h1, rs, h2, h3, h4⟩ := hL2.out
      obtain ⟨r0, r1, r2⟩ := hXC.out wn h1
      have OF := Lib.hid h2
      have HBn := Lib.hid h1
      have HPU := Lib.hid (fun W' v' ho hg => HPUT.out wn W' v' rs h1 h2 h3 h4 HC.out ho hg)
      clear h1 h2 h4 hL2 HPUT HC
      go_wp2_with (first
        | (at_builtin; refine Row.wp_append1 rowE_ok rfl (.tmp 57) (.tmp 62) rfl w2.heap.size _ rs wn ((d1, z1, A1, n1, c1), x2) _ _ rfl rfl rfl OF.out rfl HBn.out.size (by omega) ?_; intro v8 w5 ho8 hg8 _; have hM := Lib.hid (HPU.out w5 v8 ho8 hg8); clear ho8 hg8)
        | fail)
      exact ⟨⟨i + 1, k, by omega, by omega, by go_num, rfl, hM⟩, by simp [intOf]; omega⟩
end Go.Proofs.YtdnomfekblmnbaaGreatDoor

/- Contract of the reference's Minus. -/
namespace Go.Proofs.YtdnomfekblmnbaaGreatDoor
open Go.RowKit Go.Maps Num

/-- what Minus gives back: two lists and a code -/
def mnsL (a b : List En) : List En := if (a ++ b).all okE then (mns a b).1 else []
def mnsR (a b : List En) : List En := if (a ++ b).all okE then (mns a b).2 else []
def mnsI (a b : List En) : Int := if (a ++ b).all okE then 0 else 1
def MnsQ (l1 l2 : List En) (i : Int) (w : World) (e : Ending) (w' : World) : Prop :=
  ∃ A1 n1 c1 A2 n2 c2, e = .returned (.tuple #[.slice A1 n1 c1, .slice A2 n2 c2, .int .i64 i]) ∧ Ens w' A1 n1 c1 l1 ∧ Ens w' A2 n2 c2 l2 ∧ Below w.heap.size w w'
theorem ens_zero (w : World) (A : Option Addr) (c : Nat) (hc : c ≤ maxLen) : Ens w A 0 c [] := Res.ens (ps := []) ⟨Row.Rds.nil w A c hc, fun p hp => (List.not_mem_nil hp).elim⟩ (by omega)
theorem mns_q {a b : List En} {w w' : World} {e : Ending} (h : MnsP a b w e w') : MnsQ (mnsL a b) (mnsR a b) (mnsI a b) w e w' := by
  obtain ⟨hb, h⟩ := h
  unfold mnsL mnsR mnsI
  split at h
  · rename_i h0
    obtain ⟨A1, c1, A2, c2, rfl, h1, h2⟩ := h
    rw [if_pos h0, if_pos h0, if_pos h0]
    exact ⟨A1, _, c1, A2, _, c2, rfl, h1, h2, hb⟩
  · rename_i h0
    rw [if_neg h0, if_neg h0, if_neg h0, h]
    exact ⟨none, 0, 0, none, 0, 0, rfl, ens_zero _ _ _ (by decide), ens_zero _ _ _ (by decide), hb⟩
theorem mns_swap (a b : List En) : (mns b a).1 = (mns a b).2 := by
  unfold mns
  rw [mrg_swap cmpE_cmp]
/-- what Less gives back, told of the entries -/
theorem less_out {a b : List En} {pa pb : List RE} {w w' : World} {e : Ending} (ea : pa.map Prod.snd = a) (eb : pb.map Prod.snd = b) (hok : (a ++ b).all okE = true) (ra : ∀ p ∈ pa, RdE w p) (hn : a.length ≤ 1000) (h : RLssP pa pb w e w') :
    ∃ A1 n1 c1, e = .returned (.slice A1 n1 c1) ∧ Ens w' A1 n1 c1 (mns a b).1 ∧ Below w.heap.size w w' := by
  obtain ⟨v, rs, x, y, he, ho, px, py, sx, sy, hrs, hb⟩ := h
  rw [List.all_eq_true] at hok
  have e1 := srt_of (pa := pa) (fun z hz => hok z (by rw [ea] at hz; exact List.mem_append_left _ hz)) px sx
  have e2 := srt_of (pa := pb) (fun z hz => hok z (by rw [eb] at hz; exact List.mem_append_right _ hz)) py sy
  rw [ea] at e1
  rw [eb] at e2
  have hmm := mrg_map (c := cmpE) (Prod.snd : RE → En) x y
  rw [e1, e2] at hmm
  have hsub := mrg_sub (c := cE) x y
  have f1 : rs.map Prod.snd = (mns a b).1 := by
    rw [hrs, lss_mrg cE_cmp]
    unfold mns
    rw [hmm]; rfl
  have hsb : rs.Sublist x := by rw [hrs, lss_mrg cE_cmp]; exact hsub.1
  obtain ⟨A1, c1, rfl, r1⟩ := ho.rds
  have hl : rs.length ≤ a.length := by
    have := hsb.length_le
    have h2 := px.length_eq
    have h3 : pa.length = a.length := by rw [← ea, List.length_map]
    omega
  refine ⟨A1, _, c1, he, ?_, hb⟩
  rw [← f1]
  exact Res.ens ⟨r1, fun p hp => (ra p (px.mem_iff.1 (hsb.subset hp))).below hb⟩ (by omega)
set_option maxRecDepth 100000 in
set_option maxHeartbeats 8000000 in
theorem rminus_any (A B : Option Addr) (n c m d : Nat) (a b : List En) (w : World) (ha : Ens w A n c a) (hb : Ens w B m d b) (za : ∀ x ∈ a ++ b, x.2.1.length ≤ maxLen ∧ ∀ y ∈ x.2.2, y.2.2.length ≤ 13) (hn : n ≤ 100) (hm : m ≤ 100) :
    Calls Tryz.prog 13 #[.slice A n c, .slice B m d] w (MnsQ (mnsL a b) (mnsR a b) (mnsI a b) w) := by
  obtain ⟨pa, ea, ra⟩ := ha.res
  obtain ⟨pb, eb, rb⟩ := hb.res
  have hla := ha.len
  have hlb := hb.len
  have hpa : pa.length = n := by rw [← hla, ← ea, List.length_map]
  have hpb : pb.length = m := by rw [← hlb, ← eb, List.length_map]
  have HOE := Lib.hid (own_emptyE w.heap.size w (Nat.le_refl _))
  have HBE := Lib.hid ((Below.refl w.heap.size w).alloc (Nat.le_refl _) (.cells #[] 32))
  have RA := Lib.hid ra
  have RB := Lib.hid rb
  have HAL := Lib.hid (show ∀ p ∈ pa ++ pb, RdE w p from fun p hp => by
    rcases List.mem_append.1 hp with h | h
    · exact ra.all p h
    · exact rb.all p h)
  have HCK := Lib.hid (fun (p : RE) (hp : p ∈ pa ++ pb) (W : World) (h : Below w.heap.size w W) => (show Calls Tryz.prog 19 #[.agg (encE p).toArray] W (IntPost (chkE p.2.1 p.2.2.1 p.2.2.2) W) by
    obtain ⟨h1, h2, h3⟩ := HAL.out p hp
    have hz := za p.2 (by rw [← ea, ← eb, ← List.map_append]; exact List.mem_map_of_mem hp)
    obtain ⟨⟨d1, z1, A1, n1, c1⟩, e1, f1, k1⟩ := p
    simp only at h1 h2
    subst h1 h2
    exact rchkE_any d1 z1 A1 n1 c1 k1 W (h3.below h) hz.1 hz.2))
  have HL1 := Lib.hid (fun (hok : (a ++ b).all okE = true) (W : World) (h : Below w.heap.size w W) => (rless_any A B n c m d pa pb W (ra.below h) (rb.below h) (by omega) (by omega)).mono fun _ _ => less_out ea eb hok (fun p hp => (ra.all p hp).below h) (by omega))
  have HL2 := Lib.hid (fun (hok : (a ++ b).all okE = true) (W : World) (h : Below w.heap.size w W) => (show Calls Tryz.prog 45 #[.slice B m d, .slice A n c] W (fun e w' => ∃ A1 n1 c1, e = .returned (.slice A1 n1 c1) ∧ Ens w' A1 n1 c1 (mns a b).2 ∧ Below W.heap.size W w') from (rless_any B A m d n c pb pa W (rb.below h) (ra.below h) (by omega) (by omega)).mono fun e w' hh => by
    have q := less_out eb ea (by rw [List.all_append, Bool.and_comm, ← List.all_append]; exact hok) (fun p hp => (rb.all p hp).below h) (by omega) hh
    rw [mns_swap] at q
    exact q))
  have HOK := Lib.hid (show (a ++ b).all okE = (pa ++ pb).all (fun p => okE p.2) by rw [← ea, ← eb, ← List.map_append, List.all_map]; rfl)
  have HGOOD := Lib.hid (fun (hok : (a ++ b).all okE = true) W A1 n1 c1 A2 n2 c2 (h1 : Ens W A1 n1 c1 (mns a b).1) (h2 : Ens W A2 n2 c2 (mns a b).2) (h3 : Below w.heap.size w W) => (show MnsQ (mnsL a b) (mnsR a b) (mnsI a b) w (.returned (.tuple #[.slice A1 n1 c1, .slice A2 n2 c2, .int .i64 0])) W by
    unfold mnsL mnsR mnsI
    rw [if_pos hok, if_pos hok, if_pos hok]
    exact ⟨A1, n1, c1, A2, n2, c2, rfl, h1, h2, h3⟩))
  have HBAD := Lib.hid (fun (hok : ¬ (a ++ b).all okE = true) W A1 A2 (h3 : Below w.heap.size w W) => (show MnsQ (mnsL a b) (mnsR a b) (mnsI a b) w (.returned (.tuple #[.slice A1 0 0, .slice A2 0 0, .int .i64 1])) W by
    unfold mnsL mnsR mnsI
    rw [if_neg hok, if_neg hok, if_neg hok]
    exact ⟨A1, 0, 0, A2, 0, 0, rfl, ens_zero _ _ _ (by decide), ens_zero _ _ _ (by decide), h3⟩))
  have HR8 := Lib.hid (ra.rds.below HBE.out)
  have HR9 := Lib.hid (fun W (h : Below w.heap.size w W) => rb.rds.below h)
  have HLP := Lib.hid (show (pa ++ pb).length = n + m by rw [List.length_append, hpa, hpb])
  have HPA := Lib.hid hpa
  clear ha hb ra rb hla hlb za
  generalize MnsQ (mnsL a b) (mnsR a b) (mnsI a b) w = Post at *
  go_enter Tryz.func13, Tryz.ntmps13
  go_wp2_with (first
    | (at_builtin; refine Row.wp_append rowE_ok rfl (.tmp 9) (.tmp 10) rfl w.heap.size _ [] (w.alloc (.cells #[] 32)) A n c pa rfl HOE.out rfl HR8.out HBE.out.size (by simp; omega) ?_; intro v1 w1 ho1 hg1 _; rw [List.nil_append] at ho1; have O1 := Lib.hid ho1; have B1 := Lib.hid (own_below HOE.out HBE.out (Nat.le_refl _) hg1); clear ho1 hg1)
    | (at_builtin; refine Row.wp_append rowE_ok rfl (.tmp 11) (.tmp 12) rfl w.heap.size _ pa w1 B m d pb rfl O1.out rfl (HR9.out _ B1.out) B1.out.size (by rw [HPA.out]; omega) ?_; intro v2 w2 ho2 hg2 _; have O2 := Lib.hid ho2; have B2 := Lib.hid (own_below O1.out B1.out (Nat.le_refl _) hg2); clear ho2 hg2)
    | fail)
  obtain ⟨A3, c3, rfl, r3⟩ := O2.out.rds
  obtain ⟨N, hN⟩ : ∃ N, (pa ++ pb).length = N := ⟨_, rfl⟩
  rw [hN] at r3 ⊢
  have hN1 : N ≤ 200 := by rw [← hN, HLP.out]; omega
  have R3 := Lib.hid r3
  have HN := Lib.hid hN
  clear r3 hN O1 O2 B1 HOE HBE HR8 HR9 HLP HPA RA RB hpa hpb ea eb
  go_loopw [8] (fun i wr => ∃ k : Nat, k ≤ N ∧ i = .int .i64 (k : Int) ∧ Hid (∀ p ∈ (pa ++ pb).take k, okE p.2 = true) ∧ Hid (Below w2.heap.size w2 wr)) (fun i _ => N - (intOf i).toNat)
  case atStart => exact ⟨0, by omega, rfl, Lib.hid (by simp), Lib.hid (Below.refl _ _)⟩
  case round =>
    obtain ⟨k, hk, rfl, HE, HB⟩ := hrel
    have HBw := Lib.hid (below_ahead' B2.out HB.out)
    by_cases hlt : k < N
    · have hkl : k < (pa ++ pb).length := by rw [HN.out]; exact hlt
      obtain ⟨b1, o1, rfl, hb1, _⟩ := R3.out.at_ (by omega)
      obtain ⟨p0, p1, p2⟩ := rds_cells3 (R3.out.below HB.out) k hlt
      have hki : (k : Int) < (N : Int) := by omega
      have hmm := re_mem (pa ++ pb) k hkl
      have HTK := Lib.hid (take_re (pa ++ pb) k hkl)
      have HKk := Lib.hid (HCK.out _ hmm)
      have HNO := Lib.hid (show okE ((pa ++ pb).getD k re0).2 = false → ¬ (a ++ b).all okE = true from fun h e => by
        rw [HOK.out, List.all_eq_true] at e
        have := e _ hmm
        rw [h] at this
        cases this)
      clear hkl hmm
      generalize (pa ++ pb).getD k re0 = u at *
      obtain ⟨⟨d1, z1, A1, n1, m1⟩, ⟨d2, z2, k2⟩⟩ := u
      simp only [encE, rawA, rawN, rawC] at p0 p1 p2 HKk
      obtain ⟨ck, hck⟩ : ∃ ck, chkE d2 z2 k2 = ck := ⟨_, rfl⟩
      rw [hck] at HKk
      have HCKE := Lib.hid hck
      clear hck
      go_wp2_with fail
      refine (HKk.out _ HBw.out).mono ?_
      rintro e w' ⟨rfl, hb⟩
      have HB2 := Lib.hid (below_ahead' HBw.out hb)
      have HBl := Lib.hid (below_ahead' HB.out hb)
      clear hb p0 p1 p2
      by_cases h0 : ck = 0
      · subst h0
        have HE2 := Lib.hid (show ∀ x ∈ (pa ++ pb).take (k + 1), okE x.2 = true from fun x hx => by
          rw [HTK.out] at hx
          rcases List.mem_append.1 hx with h | h
          · exact HE.out x h
          · rw [List.mem_singleton.1 h]; exact decide_eq_true HCKE.out)
        go_wp2_with fail
        go_roundw
        case rel => exact ⟨k + 1, by omega, by go_num, HE2, HBl⟩
        case measure => simp [intOf]; omega
      · have hb0 : (ck == 0) = false := beq_eq_false_iff_ne.2 h0
        have hb1 : (ck != 0) = true := by rw [bne_iff_ne]; exact h0
        have hno := Lib.hid (HNO.out (decide_eq_false (by show ¬ chkE d2 z2 k2 = 0; rw [HCKE.out]; exact h0)))
        go_wp2_with fail
        go_ret3
        exact HBAD.out hno.out _ _ _ ((HB2.out.alloc HB2.out.size _).alloc (by have := HB2.out.size; simp; omega) _)
    · have hkn : k = N := by omega
      subst hkn
      have hki : ¬ (k : Int) < (k : Int) := by omega
      have hok := Lib.hid (show (a ++ b).all okE = true by
        rw [HOK.out, List.all_eq_true]
        have := HE.out
        rwa [List.take_of_length_le (by rw [HN.out]; exact Nat.le_refl _)] at this)
      go_wp2_with fail
      refine (HL1.out hok.out _ HBw.out).mono ?_
      rintro e w3 ⟨A4, n4, c4, rfl, h1, hb⟩
      have HB3 := Lib.hid (below_ahead' HBw.out hb)
      have H1 := Lib.hid h1
      clear hb h1
      go_wp2_with fail
      refine (HL2.out hok.out _ HB3.out).mono ?_
      rintro e w4 ⟨A5, n5, c5, rfl, h2, hb⟩
      have HB4 := Lib.hid (below_ahead' HB3.out hb)
      have H2 := Lib.hid h2
      have H1' := Lib.hid (H1.out.below hb)
      clear hb h2
      go_wp2_with fail
      go_ret3
      exact HGOOD.out hok.out _ _ _ _ _ _ _ H1'.out H2.out HB4.out
end Go.Proofs.YtdnomfekblmnbaaGreatDoor

/- EntryLists: the walk. -/
namespace Go.Proofs.YtdnomfekblmnbaaGreatDoor
open Go.RowKit Go.Maps Num

theorem great_fit {ps : List RE} (h : greatB ps = false) : ps.length ≤ 10 ∧ ∀ p ∈ ps, grB p = false := by
  unfold greatB at h
  rw [Bool.or_eq_false_iff] at h
  refine ⟨by have := of_decide_eq_false h.1; omega, fun p hp => ?_⟩
  have := List.any_eq_false.1 h.2 p hp
  rwa [Bool.not_eq_true] at this
theorem res_of {w : World} {A : Option Addr} {n c : Nat} {ps : List RE} (h : rowE.Rds w A n c ps) (hr : ∀ p ∈ ps, RdG w p) (hg : greatB ps = false) : Res w A n c ps :=
  ⟨h, fun p hp => ⟨(hr p hp).1, (hr p hp).2.1, (g1_fit ((great_fit hg).2 p hp)).lns (hr p hp).2.2⟩⟩
theorem fit_of {ps : List RE} (hg : greatB ps = false) : ∀ x ∈ ps.map Prod.snd, Fit x.2.1 x.2.2 := fun x hx => by
  obtain ⟨p, hp, rfl⟩ := List.mem_map.1 hx
  exact g1_fit ((great_fit hg).2 p hp)
set_option maxRecDepth 100000 in
set_option maxHeartbeats 8000000 in
theorem lists_great (A B : Option Addr) (n c m d : Nat) (pa pb : List RE) (w : World) (ha : rowE.Rds w A n c pa) (hb : rowE.Rds w B m d pb) (ga : ∀ p ∈ pa, RdG w p) (gb : ∀ p ∈ pb, RdG w p) (hg : greatB pa = true ∨ greatB pb = true) (ht : Tab w) (hm : ML w) : Calls Tryz.prog 3 #[.slice A n c, .slice B m d] w (BoolPost true w) := by
  have HA := Lib.hid (fun W (h : Below w.heap.size w W) => rgreat_any A n c pa W (ha.below h) (fun p hp => ⟨(ga p hp).1, (ga p hp).2.1, (ga p hp).2.2.below h⟩))
  have HB := Lib.hid (fun W (h : Below w.heap.size w W) => rgreat_any B m d pb W (hb.below h) (fun p hp => ⟨(gb p hp).1, (gb p hp).2.1, (gb p hp).2.2.below h⟩))
  have HW := Lib.hid (fun W (h : Below w.heap.size w W) => awake_any W (ht.below h) (hm.below h))
  have HP := Lib.hid (fun W (h : Below w.heap.size w W) => (show BoolPost true w (.returned (.bool true)) W from ⟨rfl, h⟩))
  clear ha hb ga gb ht hm
  generalize BoolPost true w = Post at *
  generalize greatB pa = x at *
  generalize greatB pb = y at *
  go_enter Tryz.func3, Tryz.ntmps3
  go_wp2_with fail
  refine (HA.out _ (Below.refl _ _)).mono ?_
  rintro e w1 ⟨rfl, hb⟩
  have B1 := Lib.hid hb
  clear hb
  cases x
  · have hy : y = true := by rcases hg with h | h; cases h; exact h
    subst hy
    go_wp2_with fail
    refine (HB.out _ B1.out).mono ?_
    rintro e w2 ⟨rfl, hb⟩
    have B2 := Lib.hid (below_ahead B1.out hb)
    clear hb
    go_wp2_with fail
    refine (HW.out _ B2.out).mono ?_
    rintro e w3 ⟨rfl, hb⟩
    have B3 := Lib.hid (below_ahead B2.out hb)
    clear hb
    go_wp2_with fail
    exact HP.out _ B3.out
  · go_wp2_with fail
    refine (HW.out _ B1.out).mono ?_
    rintro e w3 ⟨rfl, hb⟩
    have B3 := Lib.hid (below_ahead B1.out hb)
    clear hb
    go_wp2_with fail
    exact HP.out _ B3.out
set_option maxRecDepth 100000 in
set_option maxHeartbeats 8000000 in
theorem lists_fit (A B : Option Addr) (n c m d : Nat) (pa pb : List RE) (w : World) (ha : rowE.Rds w A n c pa) (hb : rowE.Rds w B m d pb) (ga : ∀ p ∈ pa, RdG w p) (gb : ∀ p ∈ pb, RdG w p) (g1 : greatB pa = false) (g2 : greatB pb = false) (ht : Tab w) (hm : ML w) : Calls Tryz.prog 3 #[.slice A n c, .slice B m d] w (BoolPost true w) := by
  have HA := Lib.hid (fun W (h : Below w.heap.size w W) => rgreat_any A n c pa W (ha.below h) (fun p hp => ⟨(ga p hp).1, (ga p hp).2.1, (ga p hp).2.2.below h⟩))
  have HB := Lib.hid (fun W (h : Below w.heap.size w W) => rgreat_any B m d pb W (hb.below h) (fun p hp => ⟨(gb p hp).1, (gb p hp).2.1, (gb p hp).2.2.below h⟩))
  rw [g1] at HA
  rw [g2] at HB
  have ra := res_of ha ga g1
  have rb := res_of hb gb g2
  have hn : n ≤ 10 := by rw [← ha.len]; exact (great_fit g1).1
  have hmm : m ≤ 10 := by rw [← hb.len]; exact (great_fit g2).1
  have ea := ra.ens (by omega)
  have eb := rb.ens (by omega)
  have fa := fit_of g1
  have fb := fit_of g2
  have LA := Lib.hid ha.len
  have LB := Lib.hid hb.len
  have RA := Lib.hid ra
  have RB := Lib.hid rb
  have EA := Lib.hid ea
  have EB := Lib.hid eb
  have HM := Lib.hid (fun W (h : Below w.heap.size w W) => (Minus_any A B n c m d _ _ W (ea.below h) (eb.below h) (fun x hx => Nat.le_trans (fa x hx).cause (by decide)) (fun x hx => Nat.le_trans (fb x hx).cause (by decide)) (by omega) (by omega) (ht.below h) (hm.below h)).mono fun _ _ => mns_q)
  have HR := Lib.hid (fun W (h : Below w.heap.size w W) => rminus_any A B n c m d _ _ W (ea.below h) (eb.below h) (fun x hx => by
    rcases List.mem_append.1 hx with h | h
    · exact ⟨Nat.le_trans (fa x h).cause (by decide), fun y hy => ((fa x h).ln y hy).2.2⟩
    · exact ⟨Nat.le_trans (fb x h).cause (by decide), fun y hy => ((fb x h).ln y hy).2.2⟩) (by omega) (by omega))
  have HSP := Lib.hid (fun W (h : Below w.heap.size w W) => Same_any A B n c m d _ _ W (ea.below h) (eb.below h))
  have HSR := Lib.hid (fun W (h : Below w.heap.size w W) => rsame_any A B n c m d _ _ W (ea.below h) (eb.below h))
  have HSS := Lib.hid (fun W A1 n1 c1 A2 n2 c2 (l : List En) (h1 : Ens W A1 n1 c1 l) (h2 : Ens W A2 n2 c2 l) => (show Calls Tryz.prog 16 #[.slice A1 n1 c1, .slice A2 n2 c2] W (BoolPost true W) by
    have h := rsame_any A1 A2 n1 c1 n2 c2 l l W h1 h2
    rwa [decide_eq_true rfl] at h))
  have HW := Lib.hid (fun W (h : Below w.heap.size w W) => awake_any W (ht.below h) (hm.below h))
  have HP := Lib.hid (fun W (h : Below w.heap.size w W) => (show BoolPost true w (.returned (.bool true)) W from ⟨rfl, h⟩))
  clear ha hb ga gb ht hm g1 g2 ra rb ea eb fa fb
  generalize BoolPost true w = Post at *
  generalize mnsL (pa.map Prod.snd) (pb.map Prod.snd) = l1 at *
  generalize mnsR (pa.map Prod.snd) (pb.map Prod.snd) = l2 at *
  generalize mnsI (pa.map Prod.snd) (pb.map Prod.snd) = ci at *
  generalize decide (pa.map Prod.snd = pb.map Prod.snd) = sm at *
  go_enter Tryz.func3, Tryz.ntmps3
  go_wp2_with fail
  refine (HA.out _ (Below.refl _ _)).mono ?_
  rintro e w1 ⟨rfl, hb⟩
  have B1 := Lib.hid hb
  clear hb HA
  go_wp2_with fail
  refine (HB.out _ B1.out).mono ?_
  rintro e w2 ⟨rfl, hb⟩
  have B2 := Lib.hid (below_ahead B1.out hb)
  clear hb HB B1
  go_wp2_with fail
  refine (HM.out _ B2.out).mono ?_
  rintro e w3 ⟨P1, p1, q1, P2, p2, q2, rfl, h1, h2, hb⟩
  have B3 := Lib.hid (below_ahead B2.out hb)
  have H1 := Lib.hid h1
  have H2 := Lib.hid h2
  clear hb h1 h2 HM B2
  go_wp2_with fail
  refine (HR.out _ B3.out).mono ?_
  rintro e w4 ⟨P3, p3, q3, P4, p4, q4, rfl, h3, h4, hb⟩
  have B4 := Lib.hid (below_ahead B3.out hb)
  have H3 := Lib.hid h3
  have H4 := Lib.hid h4
  have H1' := Lib.hid (H1.out.below hb)
  have H2' := Lib.hid (H2.out.below hb)
  clear hb h3 h4 HR B3 H1 H2
  obtain ⟨N, hN⟩ : ∃ N : Nat, min (n : Int) (m : Int) = (N : Int) ∧ N ≤ n ∧ N ≤ m ∧ N ≤ 10 := ⟨min n m, by omega, by omega, by omega, by omega⟩
  obtain ⟨hN, hNn, hNm, hN10⟩ := hN
  go_wp2_with fail
  go_loopw [38, 11] (fun i _ wr => ∃ k : Nat, k ≤ N ∧ i = .int .i64 (k : Int) ∧ Hid (Below w4.heap.size w4 wr)) (fun i _ _ => N - (intOf i).toNat)
  case atStart => exact ⟨0, by omega, rfl, Lib.hid (Below.refl _ _)⟩
  case round =>
    obtain ⟨k, hk, rfl, HB⟩ := hrel
    have HBw := Lib.hid (below_ahead B4.out HB.out)
    by_cases hlt : k < N
    · have hki : (k : Int) < (N : Int) := by omega
      have hkn : (k : Int) < (n : Int) := by omega
      have hkm : (k : Int) < (m : Int) := by omega
      obtain ⟨b1, o1, rfl, _⟩ := RA.out.rds.at_ (by omega)
      obtain ⟨b2, o2, rfl, _⟩ := RB.out.rds.at_ (by omega)
      have hXC := Lib.hid (fun W (h : Below w.heap.size w W) => rds_cells3 (RA.out.rds.below h) k (by omega))
      have hYC := Lib.hid (fun W (h : Below w.heap.size w W) => rds_cells3 (RB.out.rds.below h) k (by omega))
      have hEX := Lib.hid (RA.out.all _ (re_mem pa k (by rw [LA.out]; omega)))
      have hEY := Lib.hid (RB.out.all _ (re_mem pb k (by rw [LB.out]; omega)))
      have CE := Lib.hid (fun W (h : Below w.heap.size w W) => ecmp_re (pa.getD k re0) (pb.getD k re0) W (hEX.out.below h) (hEY.out.below h))
      have CR := Lib.hid (fun W (h : Below w.heap.size w W) => rcmp_re (pa.getD k re0) (pb.getD k re0) W (hEX.out.below h) (hEY.out.below h))
      clear hEX hEY
      generalize pa.getD k re0 = x at *
      generalize pb.getD k re0 = y at *
      obtain ⟨⟨d1, z1, A1, n1, c1⟩, x2⟩ := x
      obtain ⟨⟨d2, z2, A2, n2, c2⟩, y2⟩ := y
      simp only [encE, rawA, rawN, rawC] at CE CR
      generalize cE ((d1, z1, A1, n1, c1), x2) ((d2, z2, A2, n2, c2), y2) = cv at *
      have HSC := Lib.hid (fun W (h : Below w.heap.size w W) => (show W.cell? ⟨b1, o1 + k * 3, none⟩ = some (.int .i64 d1) ∧ W.cell? ⟨b1, o1 + k * 3 + 1, none⟩ = some (.string ⟨z1.toArray⟩) ∧ W.cell? ⟨b1, o1 + k * 3 + 2, none⟩ = some (.slice A1 n1 c1) ∧ W.cell? ⟨b2, o2 + k * 3, none⟩ = some (.int .i64 d2) ∧ W.cell? ⟨b2, o2 + k * 3 + 1, none⟩ = some (.string ⟨z2.toArray⟩) ∧ W.cell? ⟨b2, o2 + k * 3 + 2, none⟩ = some (.slice A2 n2 c2) from ⟨(hXC.out W h).1, (hXC.out W h).2.1, (hXC.out W h).2.2, (hYC.out W h).1, (hYC.out W h).2.1, (hYC.out W h).2.2⟩))
      have HBc := Lib.hid (Below.refl wr.heap.size wr)
      clear hXC hYC
      go_wp2_with fail
      go_region_held3 (fun W => W.cell? ⟨b1, o1 + k * 3, none⟩ = some (.int .i64 d1) ∧ W.cell? ⟨b1, o1 + k * 3 + 1, none⟩ = some (.string ⟨z1.toArray⟩) ∧ W.cell? ⟨b1, o1 + k * 3 + 2, none⟩ = some (.slice A1 n1 c1) ∧ W.cell? ⟨b2, o2 + k * 3, none⟩ = some (.int .i64 d2) ∧ W.cell? ⟨b2, o2 + k * 3 + 1, none⟩ = some (.string ⟨z2.toArray⟩) ∧ W.cell? ⟨b2, o2 + k * 3 + 2, none⟩ = some (.slice A2 n2 c2))
        (first | (refine HSC.out _ (below_ahead HBw.out ?_); repeat (first | exact HBc.out | refine Below.drew ?_ | refine Below.al ?_ _)))
        (first
          | (go_at_call 14; with_reducible refine (CE.out _ ?_).mono ?_
             · refine below_ahead HBw.out ?_
               repeat (first | exact HBc.out | refine Below.drew ?_ | refine Below.al ?_ _)
             rintro e w' ⟨rfl, hb⟩
             have HBc := Lib.hid (below_via (w := wr) hb (by repeat (first | exact HBc.out | refine Below.drew ?_ | refine Below.al ?_ _)))
             clear hb)
          | (go_at_call 15; with_reducible refine (CR.out _ ?_).mono ?_
             · refine below_ahead HBw.out ?_
               repeat (first | exact HBc.out | refine Below.drew ?_ | refine Below.al ?_ _)
             rintro e w' ⟨rfl, hb⟩
             have HBc := Lib.hid (below_via (w := wr) hb (by repeat (first | exact HBc.out | refine Below.drew ?_ | refine Below.al ?_ _)))
             clear hb))
      all_goals
        have HBf := Lib.hid (below_ahead HB.out HBc.out)
        clear HSC HBc CE CR
        go_wp2_with fail
        go_roundw
        case rel => exact ⟨k + 1, by omega, by go_num, HBf⟩
        case measure => simp [intOf]; omega
    · have hkn : k = N := by omega
      subst hkn
      have hki : ¬ (k : Int) < (k : Int) := by omega
      have H1r := Lib.hid (H1'.out.below HB.out)
      have H2r := Lib.hid (H2'.out.below HB.out)
      have H3r := Lib.hid (H3.out.below HB.out)
      have H4r := Lib.hid (H4.out.below HB.out)
      clear H1' H2' H3 H4 HB B4
      go_wp2_with fail
      refine (HSS.out _ _ _ _ _ _ _ l1 H1r.out H3r.out).mono ?_
      rintro e w5 ⟨rfl, hb⟩
      have B5 := Lib.hid (below_ahead HBw.out hb)
      have H2s := Lib.hid (H2r.out.below hb)
      have H4s := Lib.hid (H4r.out.below hb)
      clear hb H1r H2r H3r H4r HBw
      go_wp2_with fail
      refine (HSS.out _ _ _ _ _ _ _ l2 H2s.out H4s.out).mono ?_
      rintro e w6 ⟨rfl, hb⟩
      have B6 := Lib.hid (below_ahead B5.out hb)
      clear hb H2s H4s B5
      go_wp2_with fail
      refine (HSP.out _ B6.out).mono ?_
      rintro e w7 ⟨rfl, hb⟩
      have B7 := Lib.hid (below_ahead B6.out hb)
      clear hb B6
      go_wp2_with fail
      refine (HSR.out _ B7.out).mono ?_
      rintro e w8 ⟨rfl, hb⟩
      have B8 := Lib.hid (below_ahead B7.out hb)
      clear hb B7
      go_wp2_with fail
      refine (HW.out _ B8.out).mono ?_
      rintro e w9 ⟨rfl, hb⟩
      have B9 := Lib.hid (below_ahead B8.out hb)
      clear hb
      go_wp2_with fail
      exact HP.out _ B9.out
theorem lists_row (A : Option Addr) (n c : Nat) (pa : List RE) (B : Option Addr) (m d : Nat) (pb : List RE) (w : World) (ha : rowE.Rds w A n c pa) (ga : ∀ p ∈ pa, RdG w p ∧ p.2.2.1.length ≤ maxLen) (hb : rowE.Rds w B m d pb) (gb : ∀ p ∈ pb, RdG w p ∧ p.2.2.1.length ≤ maxLen) (ht : Tab w) (hm : ML w) : Calls Tryz.prog 3 #[.slice A n c, .slice B m d] w (BoolPost true w) := by
  have ga' := fun p hp => (ga p hp).1
  have gb' := fun p hp => (gb p hp).1
  cases g1 : greatB pa with
  | true => exact lists_great A B n c m d pa pb w ha hb ga' gb' (.inl g1) ht hm
  | false =>
    cases g2 : greatB pb with
    | true => exact lists_great A B n c m d pa pb w ha hb ga' gb' (.inr g2) ht hm
    | false => exact lists_fit A B n c m d pa pb w ha hb ga' gb' g1 g2 ht hm
end Go.Proofs.YtdnomfekblmnbaaGreatDoor

/- Differences of lists: what the law says of them, plain. -/
namespace Go.Proofs.YtdnomfekblmnbaaGreatDoor
open Go.RowKit Go.Maps Num

/-- a world that differs from w above w's blocks -/
structure Bel (w : World) where
  W : World
  h : Below w.heap.size w W
instance belThere (w : World) : Inhabited (Bel w) := ⟨⟨w, Below.refl _ w⟩⟩
/-- a region that draws its order, whose operations only read and whose callees may lay blocks: one walk, in the order of the text -/
theorem wp_region_quiet_bel {P : Program} {id : Nat} {Q : Exit → Act → World → Prop} {a : Act} {w : World} {l : List Oper} (hm : P.follows .mixedOrders = true) (hB : Region.lexB .any l.toArray = true)
    (h : wpQuiet P l.toArray (fun w' => ∃ p : Bel w, w' = p.W) (fun a' => ∀ w', (∃ p : Bel w, w' = p.W) → Q .normal a' w') l a) : (Code.region id l.toArray true).wp P Q a w :=
  wp_region_quiet (C := fun w' => ∃ p : Bel w, w' = p.W) hm hB ⟨⟨w.drew, Below.drew (Below.refl _ w)⟩, rfl⟩ (by simpa using h)
theorem Calls.bel_of {P : Program} {f : FuncId} {args : Array Value} {w : World} {p : Bel w} {v : Value} (h : Calls P f args p.W fun e w' => e = .returned v ∧ Below p.W.heap.size p.W w') :
    Calls P f args p.W fun e w'' => e = .returned v ∧ ∃ q : Bel w, w'' = q.W :=
  h.mono fun _ _ ⟨he, hb⟩ => ⟨he, ⟨_, p.h.trans (hb.mono p.h.size)⟩, rfl⟩
theorem srt_sortedB {l : List En} (h : Srt cmpE l) : sortedB l = true := by
  unfold sortedB
  rw [List.all_eq_true]
  intro i hi
  have hi2 : i + 1 < l.length := by have := List.mem_range.1 hi; omega
  have h1 := List.pairwise_iff_getElem.1 h i (i + 1) (by omega) hi2 (by omega)
  have h2 := cmpE_cmp.anti l[i] l[i + 1]
  rw [List.getD_eq_getElem?_getD, List.getD_eq_getElem?_getD, List.getElem?_eq_getElem hi2, List.getElem?_eq_getElem (show i < l.length by omega)]
  simp only [Option.getD_some]
  rw [decide_eq_false (by omega)]
  rfl
theorem mns_srt (a b : List En) : sortedB (mns a b).1 = true ∧ sortedB (mns a b).2 = true := by
  obtain ⟨h1, h2⟩ := mrg_srt (srtE_srt a) (srtE_srt b)
  exact ⟨srt_sortedB h1, srt_sortedB h2⟩
theorem cntE_srt (a : List En) (x : En) : cntE (srtE a) x = cntE a x := cnt_perm (c := cmpE) (srtE_perm a) x
theorem mns_cnt (a b : List En) (x : En) : cntE a x + cntE (mns a b).2 x = cntE b x + cntE (mns a b).1 x := by
  have h := mrg_cnt cmpE_cmp x (srtE a) (srtE b)
  have h1 := cntE_srt a x
  have h2 := cntE_srt b x
  change cntE (srtE a) x + cntE (mns a b).2 x = cntE (srtE b) x + cntE (mns a b).1 x at h
  omega
theorem mns_apart (a b : List En) (x : En) : cntE (mns a b).1 x = 0 ∨ cntE (mns a b).2 x = 0 := mrg_apart cmpE_cmp x (srtE a) (srtE b) (srtE_srt a) (srtE_srt b)
theorem srtE_eq {a t : List En} (hp : t.Perm a) (hok : ∀ x ∈ a, okE x = true) : srtE t = srtE a :=
  srt_uniq cmpE_cmp (srtE_srt t) (srtE_srt a) ((srtE_perm t).trans (hp.trans (srtE_perm a).symm)) (ok_tight fun x hx => hok x (hp.mem_iff.1 ((srtE_perm t).mem_iff.1 hx)))
theorem mns_perm {a t : List En} (b : List En) (hp : t.Perm a) (hok : ∀ x ∈ a, okE x = true) : mns t b = mns a b := by unfold mns; rw [srtE_eq hp hok]
theorem mns_turn {a t : List En} (hp : t.Perm a) (hok : ∀ x ∈ a, okE x = true) : mns a t = ([], []) := by unfold mns; rw [srtE_eq hp hok, mrg_self cmpE_cmp]
theorem mns_lens (a b : List En) : (mns a b).1.length + b.length = (mns a b).2.length + a.length := by
  have h := mrg_len (c := cmpE) (srtE a) (srtE b)
  rw [(srtE_perm a).length_eq, (srtE_perm b).length_eq] at h
  exact h
theorem own_ens {B n c : Nat} {w : World} {A : Option Addr} {qs : List RE} (h : rowE.Own B w (.slice A n c) qs) (hr : ∀ p ∈ qs, RdE w p) (hn : n ≤ 1000) : Ens w A n c (qs.map Prod.snd) := by
  obtain ⟨A', c', e, hd⟩ := h.rds
  injection e with e1 e2 e3
  subst e1 e3
  rw [← e2] at hd
  exact Res.ens ⟨hd, hr⟩ hn
theorem cntE_le (l : List En) (x : En) : cntE l x ≤ l.length := List.countP_le_length
end Go.Proofs.YtdnomfekblmnbaaGreatDoor

/- The law's closure over the reference's Check; slices.Reverse at entries of the call's own. -/
namespace Go.Proofs.YtdnomfekblmnbaaGreatDoor
open Go.RowKit Go.Maps Num

set_option maxRecDepth 100000 in
theorem clo32_any (p : RE) (w : World) (hp : RdE w p) (hz : Fit p.2.2.1 p.2.2.2) (_ : Tab w) (_ : ML w) : Calls Tryz.prog 32 #[.agg (encE p).toArray] w (BoolPost (badR p) w) := by

  obtain ⟨⟨d1, z1, A1, n1, c1⟩, e1, f1, k1⟩ := p
  obtain ⟨h1, h2, h3⟩ := hp
  simp only at h1 h2 hz
  subst h1 h2
  have hb := Lib.hid (show badR ((d1, z1, A1, n1, c1), d1, z1, k1) = decide (chkE d1 z1 k1 ≠ 0) from rfl)
  have hB0 : Below w.heap.size w (w.alloc (.cells #[.int .i64 d1, .string ⟨z1.toArray⟩, .slice A1 n1 c1] 32)) := (Below.refl _ w).alloc (Nat.le_refl _) _
  have hc := rchkE_any d1 z1 A1 n1 c1 k1 _ (Lns.below h3 hB0) (Nat.le_trans hz.cause (by decide)) (fun x hx => (hz.ln x hx).2.2)
  unfold IntPost enV at hc
  have HC := Lib.hid hc
  have HB := Lib.hid hB0
  generalize badR ((d1, z1, A1, n1, c1), d1, z1, k1) = r at *
  generalize chkE d1 z1 k1 = v at *
  clear hc hB0 h3
  unfold encE rawA rawN rawC
  simp only
  go_enter Tryz.func32, Tryz.ntmps32
  go_wp2_with fail
  refine HC.out.mono ?_
  rintro e w1 ⟨rfl, hb1⟩
  have HB2 := Lib.hid (below_next HB.out hb1 ⟨rfl, rfl, rfl, rfl⟩)
  clear hb1 HC
  go_wp2_with fail
  go_ret
  refine ⟨?_, HB2.out⟩
  rw [hb.out]
  by_cases h : v = 0
  · subst h; rfl
  · have : (v != 0) = true := by rw [bne_iff_ne]; exact h
    rw [this, decide_eq_true h]; rfl
theorem swap_perm (l : List RE) (i j : Nat) (hi : i < l.length) (hj : j < l.length) : ((l.set i (l.getD j re0)).set j (l.getD i re0)).Perm l := by
  have h := List.set_set_perm hi hj
  rwa [List.getD_eq_getElem?_getD, List.getD_eq_getElem?_getD, List.getElem?_eq_getElem hi, List.getElem?_eq_getElem hj]
/-- the row holds the same entries -/
def RvR (B : Nat) (w : World) (v : Value) (g : Nat) (ps : List RE) (W : World) : Prop :=
  ∃ qs : List RE, qs.Perm ps ∧ rowE.Own B W v qs ∧ w.grownBy W (some g)
theorem RvR.dr {B : Nat} {w W : World} {v : Value} {g : Nat} {ps : List RE} (h : Hid (RvR B w v g ps W)) : Hid (RvR B w v g ps W.drew) := by
  obtain ⟨qs, q1, q3, q4⟩ := h.out
  exact ⟨qs, q1, q3.dr 1, grown_below q4 (below_dr (Below.refl W.heap.size W) 1)⟩
set_option maxRecDepth 100000 in
set_option maxHeartbeats 4000000 in
theorem srev_any (B g cap n : Nat) (w : World) (ps : List RE) (hown : rowE.Own B w (.slice (some ⟨g, 0, none⟩) n cap) ps) (hlen : ps.length = n) (h0 : 0 < n) (hn : n ≤ 1000) :
    Calls Tryz.prog 35 #[.slice (some ⟨g, 0, none⟩) n cap] w fun e w' => e = .returned (.tuple #[]) ∧ RvR B w (.slice (some ⟨g, 0, none⟩) n cap) g ps w' := by
  have R0 := Lib.hid (show RvR B w (.slice (some ⟨g, 0, none⟩) n cap) g ps w from ⟨ps, List.Perm.refl _, hown, grown_refl w _⟩)
  have HL := Lib.hid hlen
  clear hown hlen
  have hw1 : IntKind.i64.wrap ((n : Int) - 1) = ((n - 1 : Nat) : Int) := (IntWalk.i64_in _ (by omega)).trans (by omega)
  obtain ⟨n1, hn1⟩ : ∃ n1, n - 1 = n1 := ⟨_, rfl⟩
  rw [hn1] at hw1
  go_enter Tryz.func35, Tryz.ntmps35
  go_wp2_with fail
  go_loopw [2, 3] (fun i j wr => ∃ k q : Nat, k + q + 1 = n ∧ i = .int .i64 (k : Int) ∧ j = .int .i64 (q : Int) ∧ Hid (RvR B w (.slice (some ⟨g, 0, none⟩) n cap) g ps wr)) (fun i _ _ => n - (intOf i).toNat)
  case atStart => exact ⟨0, n1, by omega, rfl, rfl, R0⟩
  case round =>
    clear R0
    obtain ⟨k, q, hkq, rfl, rfl, hR⟩ := hrel
    by_cases hlt : k < q
    case neg =>
      have hki : decide ((k : Int) < (q : Int)) = false := by rw [decide_eq_false_iff_not]; omega
      go_wp2_with fail
      go_end0
      exact ⟨rfl, hR.out⟩
    have hki : (k : Int) < (q : Int) := by omega
    obtain ⟨qs, q1, q3, q4⟩ := hR.out
    have hql := q1.length_eq
    rw [HL.out] at hql
    have Q3 := Lib.hid q3
    have Q4 := Lib.hid q4
    have hkn : k < n := by omega
    have hqn : q < n := by omega
    have hpm := Lib.hid ((swap_perm qs k q (by omega) (by omega)).trans q1)
    obtain ⟨r0, r1, r2⟩ := own_cells3 q3 k hkn
    obtain ⟨s0, s1, s2⟩ := own_cells3 q3 q hqn
    have k0 := q3.frz (k * 3)
    have k1 := q3.frz (k * 3 + 1)
    have k2 := q3.frz (k * 3 + 2)
    have k3 := q3.frz (q * 3)
    have k4 := q3.frz (q * 3 + 1)
    have k5 := q3.frz (q * 3 + 2)
    clear hR q1 q3 q4
    generalize qs.getD k re0 = x at *
    generalize qs.getD q re0 = y at *
    obtain ⟨⟨d1, z1, A1, n1', c1⟩, x2⟩ := x
    obtain ⟨⟨d2, z2, A2, n2, c2⟩, y2⟩ := y
    simp only at r0 r1 r2 s0 s1 s2
    have hki2 : (k : Int) < (n : Int) := by omega
    have hqi2 : (q : Int) < (n : Int) := by omega
    have nn0 : k * 3 ≠ q * 3 + 1 := by omega
    have nn1 : k * 3 ≠ q * 3 + 2 := by omega
    have nn2 : k * 3 + 1 ≠ q * 3 := by omega
    have nn3 : k * 3 + 2 ≠ q * 3 := by omega
    have nn4 : k * 3 + 1 ≠ q * 3 + 2 := by omega
    have nn5 : k * 3 + 2 ≠ q * 3 + 1 := by omega
    have nn6 : k ≠ q := by omega
    have nn7 : k * 3 ≠ q * 3 := by omega
    have nn8 : q * 3 ≠ k * 3 + 1 := by omega
    have nn9 : q * 3 ≠ k * 3 + 2 := by omega
    have nn10 : q * 3 + 1 ≠ k * 3 := by omega
    have nn11 : q * 3 + 2 ≠ k * 3 := by omega
    have nn12 : q * 3 + 1 ≠ k * 3 + 2 := by omega
    have nn13 : q * 3 + 2 ≠ k * 3 + 1 := by omega
    have nn14 : q ≠ k := by omega
    have nn15 : q * 3 ≠ k * 3 := by omega
    go_wp2_with fail
    go_region
    clear k0 k1 k2 k3 k4 k5 r0 r1 r2 s0 s1 s2 nn0 nn1 nn2 nn3 nn4 nn5 nn6 nn7 nn8 nn9 nn10 nn11 nn12 nn13 nn14 nn15
    have hI := Lib.hid (show RvR B w (.slice (some ⟨g, 0, none⟩) n cap) g ps ((((((wr.setCell ⟨g, k * 3, none⟩ (.int .i64 d2)).setCell ⟨g, k * 3 + 1, none⟩ (.string ⟨z2.toArray⟩)).setCell ⟨g, k * 3 + 2, none⟩ (.slice A2 n2 c2)).setCell ⟨g, q * 3, none⟩ (.int .i64 d1)).setCell ⟨g, q * 3 + 1, none⟩ (.string ⟨z1.toArray⟩)).setCell ⟨g, q * 3 + 2, none⟩ (.slice A1 n1' c1)) by
      obtain ⟨o1, t1⟩ := Q3.out.set3 rowE_ok.hk rfl k ((d2, z2, A2, n2, c2), y2) (.int .i64 d2) (.string ⟨z2.toArray⟩) (.slice A2 n2 c2) (by omega) rfl
      obtain ⟨o2, t2⟩ := o1.set3 rowE_ok.hk rfl q ((d1, z1, A1, n1', c1), x2) (.int .i64 d1) (.string ⟨z1.toArray⟩) (.slice A1 n1' c1) (by rw [List.length_set]; omega) rfl
      exact ⟨_, hpm.out, o2, grown_tr Q4.out (grown_tr t1 t2)⟩)
    have hq1 : 0 < q := by omega
    obtain ⟨p, hp⟩ : ∃ p, q = p + 1 := ⟨q - 1, by omega⟩
    have hwq : IntKind.i64.wrap ((q : Int) - 1) = (p : Int) := (IntWalk.i64_in _ (by omega)).trans (by omega)
    have HPQ := Lib.hid hp
    clear hp
    go_wp2_with fail
    exact ⟨⟨k + 1, p, by have := HPQ.out; omega, by go_num, rfl, RvR.dr hI⟩, by simp [intOf]; omega⟩
end Go.Proofs.YtdnomfekblmnbaaGreatDoor

/- Contracts of slices.IndexFunc and ContainsFunc at the closure 32: an entry that is not valid (printed by gen_idx.py). -/
namespace Go.Proofs.YtdnomfekblmnbaaGreatDoor
open Go.RowKit Go.Maps Num

set_option maxRecDepth 100000 in
set_option maxHeartbeats 4000000 in
theorem idx32 (A : Option Addr) (n c : Nat) (ps : List RE) (w : World) (h : Res w A n c ps) (hz : ∀ p ∈ ps, Fit p.2.2.1 p.2.2.2) (hn : n ≤ 1000) (ht : Tab w) (hm : ML w) :
    Calls Tryz.prog 76 #[.slice A n c, .func (.func 32) #[] #[]] w (IdxP (ps.any badR) w) := by
  have ll := Lib.hid h.rds.len
  have L1 := Lib.hid h
  have HT := Lib.hid ht
  have HM := Lib.hid hm
  have HZ := Lib.hid hz
  have HS := Lib.hid (any_snoc ps)
  have HH := Lib.hid (any_hit ps)
  have HP := Lib.hid (show ∀ i W, decide (0 ≤ i) = ps.any badR → Below w.heap.size w W → IdxP (ps.any badR) w (.returned (.int .i64 i)) W from fun i W h1 h2 => ⟨i, rfl, h1, h2⟩)
  clear h ht hm hz
  generalize IdxP (ps.any badR) w = Post at *
  go_enter Tryz.func76, Tryz.ntmps76
  go_wp2_with fail
  have R0 := Lib.hid (show (ps.take 0).any badR = false ∧ Below w.heap.size w w from ⟨by simp, Below.refl _ _⟩)
  go_loopw [8, 5] (fun i _ wr => ∃ k : Nat, k ≤ n ∧ i = .int .i64 (k : Int) ∧ Hid ((ps.take k).any badR = false ∧ Below w.heap.size w wr)) (fun i _ _ => n - (intOf i).toNat)
  case atStart => exact ⟨0, by omega, rfl, R0⟩
  case round =>
    obtain ⟨k, hk, rfl, hR⟩ := hrel
    have HE := Lib.hid hR.out.1
    have HB := Lib.hid hR.out.2
    clear hR R0
    by_cases hlt : k < n
    · have hkl : k < ps.length := by rw [ll.out]; exact hlt
      have hmem := getD_mem re0 ps k hkl
      have hs1 := Lib.hid (HS.out k hkl)
      have hh1 := Lib.hid (HH.out k hkl)
      obtain ⟨b1, o1, rfl, hb1, _⟩ := L1.out.rds.at_ (by omega)
      have q0 := (L1.out.rds.below HB.out).cell rowE_ok re0 k 0 _ hlt rfl
      have q1 := (L1.out.rds.below HB.out).cell rowE_ok re0 k 1 _ hlt rfl
      have q2 := (L1.out.rds.below HB.out).cell rowE_ok re0 k 2 _ hlt rfl
      have cl := clo32_any (ps.getD k re0) wr ((L1.out.all _ hmem).below HB.out) (HZ.out _ hmem) (HT.out.below HB.out) (HM.out.below HB.out)
      have hki : (k : Int) < (n : Int) := by omega
      have hk0 : (0 : Int) ≤ (k : Int) := by omega
      generalize badR (ps.getD k re0) = bd at *
      generalize ps.getD k re0 = p at *
      obtain ⟨⟨d1, z1, A1, n1, c1⟩, e1, f1, k1⟩ := p
      unfold encE rawA rawN rawC at cl
      simp only [rawA, rawN, rawC, Nat.add_zero] at q0 q1 q2 cl
      have CL := Lib.hid cl
      clear cl hmem hkl
      go_wp2_with fail
      refine CL.out.mono ?_
      rintro e w1 ⟨rfl, hb⟩
      have HB2 := Lib.hid (below_next HB.out hb ⟨rfl, rfl, rfl, rfl⟩)
      clear hb CL
      cases bd
      · have HE2 := Lib.hid (show (ps.take (k + 1)).any badR = false by rw [hs1.out, HE.out]; rfl)
        go_wp2_with fail
        go_roundw
        case rel => exact ⟨k + 1, by omega, by go_num, Lib.hid ⟨HE2.out, HB2.out⟩⟩
        case measure => simp [intOf]; omega
      · have hv := Lib.hid (HP.out (k : Int) w1 (by rw [hh1.out rfl]; exact decide_eq_true hk0) HB2.out)
        go_wp2_with fail
        exact hv.out
    · have hki : decide ((k : Int) < (n : Int)) = false := by rw [decide_eq_false_iff_not]; omega
      have hv := Lib.hid (HP.out (-1) wr (by
        have e := HE.out
        rw [List.take_of_length_le (by rw [ll.out]; omega)] at e
        rw [e]; rfl) HB.out)
      go_wp2_with fail
      exact hv.out
set_option maxRecDepth 100000 in
theorem con32 (A : Option Addr) (n c : Nat) (ps : List RE) (w : World) (h : Res w A n c ps) (hz : ∀ p ∈ ps, Fit p.2.2.1 p.2.2.2) (hn : n ≤ 1000) (ht : Tab w) (hm : ML w) :
    Calls Tryz.prog 31 #[.slice A n c, .func (.func 32) #[] #[]] w (BoolPost (ps.any badR) w) := by
  have HI := Lib.hid (idx32 A n c ps w h hz hn ht hm)
  clear h hz ht hm
  go_enter Tryz.func31, Tryz.ntmps31
  go_wp2_with fail
  refine HI.out.mono ?_
  rintro e w1 ⟨i, rfl, hi, hb⟩
  have HI2 := Lib.hid hi
  have HB := Lib.hid hb
  clear hi hb HI
  go_wp2_with fail
  go_ret
  exact ⟨by rw [HI2.out]; rfl, HB.out⟩
end Go.Proofs.YtdnomfekblmnbaaGreatDoor

/- EntryDifferences: the walk. -/
namespace Go.Proofs.YtdnomfekblmnbaaGreatDoor
open Go.RowKit Go.Maps Num

set_option maxRecDepth 100000 in
set_option maxHeartbeats 8000000 in
theorem diffs_great (A B : Option Addr) (n c m d : Nat) (pa pb : List RE) (by_ : Int) (w : World) (ha : rowE.Rds w A n c pa) (hb : rowE.Rds w B m d pb) (ga : ∀ p ∈ pa, RdG w p) (gb : ∀ p ∈ pb, RdG w p) (hg : greatB pa = true ∨ greatB pb = true) (ht : Tab w) (hm : ML w) : Calls Tryz.prog 8 #[.slice A n c, .slice B m d, .int .u8 by_] w (BoolPost true w) := by
  have HA := Lib.hid (fun W (h : Below w.heap.size w W) => rgreat_any A n c pa W (ha.below h) (fun p hp => ⟨(ga p hp).1, (ga p hp).2.1, (ga p hp).2.2.below h⟩))
  have HB := Lib.hid (fun W (h : Below w.heap.size w W) => rgreat_any B m d pb W (hb.below h) (fun p hp => ⟨(gb p hp).1, (gb p hp).2.1, (gb p hp).2.2.below h⟩))
  have HW := Lib.hid (fun W (h : Below w.heap.size w W) => awake_any W (ht.below h) (hm.below h))
  have HP := Lib.hid (fun W (h : Below w.heap.size w W) => (show BoolPost true w (.returned (.bool true)) W from ⟨rfl, h⟩))
  clear ha hb ga gb ht hm
  generalize BoolPost true w = Post at *
  generalize greatB pa = x at *
  generalize greatB pb = y at *
  go_enter Tryz.func8, Tryz.ntmps8
  go_wp2_with fail
  refine (HA.out _ (Below.refl _ _)).mono ?_
  rintro e w1 ⟨rfl, hb⟩
  have B1 := Lib.hid hb
  clear hb
  cases x
  · have hy : y = true := by rcases hg with h | h; cases h; exact h
    subst hy
    go_wp2_with fail
    refine (HB.out _ B1.out).mono ?_
    rintro e w2 ⟨rfl, hb⟩
    have B2 := Lib.hid (below_ahead B1.out hb)
    clear hb
    go_wp2_with fail
    refine (HW.out _ B2.out).mono ?_
    rintro e w3 ⟨rfl, hb⟩
    have B3 := Lib.hid (below_ahead B2.out hb)
    clear hb
    go_wp2_with fail
    exact HP.out _ B3.out
  · go_wp2_with fail
    refine (HW.out _ B1.out).mono ?_
    rintro e w3 ⟨rfl, hb⟩
    have B3 := Lib.hid (below_ahead B1.out hb)
    clear hb
    go_wp2_with fail
    exact HP.out _ B3.out
set_option maxRecDepth 100000 in
set_option maxHeartbeats 16000000 in
theorem diffs_fit (A B : Option Addr) (n c m d : Nat) (pa pb : List RE) (by_ : Int) (w : World) (ha : rowE.Rds w A n c pa) (hb : rowE.Rds w B m d pb) (ga : ∀ p ∈ pa, RdG w p) (gb : ∀ p ∈ pb, RdG w p) (hby : 0 ≤ by_ ∧ by_ ≤ 255) (g1 : greatB pa = false) (g2 : greatB pb = false) (ht : Tab w) (hm : ML w) : Calls Tryz.prog 8 #[.slice A n c, .slice B m d, .int .u8 by_] w (BoolPost true w) := by
  have HA := Lib.hid (fun W (h : Below w.heap.size w W) => rgreat_any A n c pa W (ha.below h) (fun p hp => ⟨(ga p hp).1, (ga p hp).2.1, (ga p hp).2.2.below h⟩))
  have HB := Lib.hid (fun W (h : Below w.heap.size w W) => rgreat_any B m d pb W (hb.below h) (fun p hp => ⟨(gb p hp).1, (gb p hp).2.1, (gb p hp).2.2.below h⟩))
  have HW := Lib.hid (fun W (h : Below w.heap.size w W) => awake_any W (ht.below h) (hm.below h))
  have HP := Lib.hid (fun W (h : Below w.heap.size w W) => (show BoolPost true w (.returned (.bool true)) W from ⟨rfl, h⟩))
  rw [g1] at HA
  rw [g2] at HB
  have ra := res_of ha ga g1
  have rb := res_of hb gb g2
  have hn : n ≤ 10 := by rw [← ha.len]; exact (great_fit g1).1
  have hmm : m ≤ 10 := by rw [← hb.len]; exact (great_fit g2).1
  have ea := ra.ens (by omega)
  have eb := rb.ens (by omega)
  have fa := fit_of g1
  have fb := fit_of g2
  have FAB := Lib.hid (show ∀ p ∈ pa ++ pb, Fit p.2.2.1 p.2.2.2 from fun p hp => by
    rcases List.mem_append.1 hp with h | h
    · exact fa p.2 (List.mem_map_of_mem h)
    · exact fb p.2 (List.mem_map_of_mem h))
  have HAL := Lib.hid (show ∀ p ∈ pa ++ pb, RdE w p from fun p hp => by
    rcases List.mem_append.1 hp with h | h
    · exact ra.all p h
    · exact rb.all p h)
  have LA := Lib.hid ha.len
  have LB := Lib.hid hb.len
  have RA := Lib.hid ra
  have RB := Lib.hid rb
  obtain ⟨la, hla⟩ : ∃ la, pa.map Prod.snd = la := ⟨_, rfl⟩
  obtain ⟨lb, hlb⟩ : ∃ lb, pb.map Prod.snd = lb := ⟨_, rfl⟩
  rw [hla] at ea fa
  rw [hlb] at eb fb
  have EA := Lib.hid ea
  have EB := Lib.hid eb
  have HOK := Lib.hid (show (pa ++ pb).any badR = !((la ++ lb).all okE) by rw [any_bad, List.map_append, hla, hlb])
  have HMN := Lib.hid (fun W (h : Below w.heap.size w W) (hok : (la ++ lb).all okE = true) => (show Calls Tryz.prog 12 #[.slice A n c, .slice B m d] W (MnsQ (mns la lb).1 (mns la lb).2 0 W) by
    have q := (Minus_any A B n c m d la lb W (ea.below h) (eb.below h) (fun x hx => Nat.le_trans (fa x hx).cause (by decide)) (fun x hx => Nat.le_trans (fb x hx).cause (by decide)) (by omega) (by omega) (ht.below h) (hm.below h)).mono fun _ _ => mns_q
    unfold mnsL mnsR mnsI at q
    rw [if_pos hok, if_pos hok, if_pos hok] at q
    exact q))
  have HMT := Lib.hid (fun W (h : Below w.heap.size w W) (hok : (la ++ lb).all okE = true) T nT cT (lT : List En) (hp : lT.Perm la) (hT : Ens W T nT cT lT) => (show Calls Tryz.prog 12 #[.slice T nT cT, .slice B m d] W (MnsQ (mns la lb).1 (mns la lb).2 0 W) by
    have hx : ∀ x ∈ lT, Fit x.2.1 x.2.2 := fun x hx => fa x (hp.mem_iff.1 hx)
    have hoka : ∀ x ∈ la, okE x = true := fun x hx => List.all_eq_true.1 hok x (List.mem_append_left _ hx)
    have hok2 : (lT ++ lb).all okE = true := by
      rw [List.all_eq_true]
      intro x hx
      rcases List.mem_append.1 hx with h | h
      · exact hoka x (hp.mem_iff.1 h)
      · exact List.all_eq_true.1 hok x (List.mem_append_right _ h)
    have hnT : nT ≤ 12 := by rw [← hT.len, hp.length_eq, ea.len]; omega
    have q := (Minus_any T B nT cT m d lT lb W hT (eb.below h) (fun x hx' => Nat.le_trans (hx x hx').cause (by decide)) (fun x hx => Nat.le_trans (fb x hx).cause (by decide)) hnT (by omega) (ht.below h) (hm.below h)).mono fun _ _ => mns_q
    unfold mnsL mnsR mnsI at q
    rw [if_pos hok2, if_pos hok2, if_pos hok2, mns_perm lb hp hoka] at q
    exact q))
  have HMS := Lib.hid (fun W (h : Below w.heap.size w W) (hok : (la ++ lb).all okE = true) T nT cT (lT : List En) (hp : lT.Perm la) (hT : Ens W T nT cT lT) => (show Calls Tryz.prog 12 #[.slice A n c, .slice T nT cT] W (MnsQ [] [] 0 W) by
    have hx : ∀ x ∈ lT, Fit x.2.1 x.2.2 := fun x hx => fa x (hp.mem_iff.1 hx)
    have hoka : ∀ x ∈ la, okE x = true := fun x hx => List.all_eq_true.1 hok x (List.mem_append_left _ hx)
    have hok2 : (la ++ lT).all okE = true := by
      rw [List.all_eq_true]
      intro x hx
      rcases List.mem_append.1 hx with h | h
      · exact hoka x h
      · exact hoka x (hp.mem_iff.1 h)
    have hnT : nT ≤ 12 := by rw [← hT.len, hp.length_eq, ea.len]; omega
    have q := (Minus_any A T n c nT cT la lT W (ea.below h) hT (fun x hx => Nat.le_trans (fa x hx).cause (by decide)) (fun x hx' => Nat.le_trans (hx x hx').cause (by decide)) (by omega) hnT (ht.below h) (hm.below h)).mono fun _ _ => mns_q
    unfold mnsL mnsR mnsI at q
    rw [if_pos hok2, if_pos hok2, if_pos hok2, mns_turn hp hoka] at q
    exact q))
  have HCAT := Lib.hid (fun g W (h : Below w.heap.size w W) (hgl : g < W.heap.size) c0 c1 => concat_anyE g A B n c m d pa pb W hgl c0 c1 (ra.rds.below h) (rb.rds.below h) (by omega) (by omega))
  have HCON := Lib.hid (fun W (h : Below w.heap.size w W) D nD cD (hD : rowE.Rds W D nD cD (pa ++ pb)) (hnD : nD ≤ 1000) => con32 D nD cD (pa ++ pb) W ⟨hD, fun p hp => (HAL.out p hp).below h⟩ FAB.out hnD (ht.below h) (hm.below h))
  have HSRT := Lib.hid (fun W D nD cD (l : List En) (hl : Ens W D nD cD l) (hs : sortedB l = true) => (show Calls Tryz.prog 33 #[.slice D nD cD, .func (.func 14) #[] #[]] W (BoolPost true W) by
    have q := sorted_any D nD cD l W hl
    rwa [hs] at q))
  have HSAME := Lib.hid (fun W A1 n1 c1 A2 n2 c2 (l : List En) (h1 : Ens W A1 n1 c1 l) (h2 : Ens W A2 n2 c2 l) => (show Calls Tryz.prog 17 #[.slice A1 n1 c1, .slice A2 n2 c2] W (BoolPost true W) from Same_self A1 A2 n1 c1 n2 c2 l W h1 h2))
  have HPER := Lib.hid (show ∀ qs : List RE, qs.Perm pa → (qs.map Prod.snd).Perm la from fun qs h => by rw [← hla]; exact h.map _)
  clear ha hb ga gb ht hm g1 g2 ra rb ea eb fa fb hla hlb
  generalize BoolPost true w = Post at *
  go_enter Tryz.func8, Tryz.ntmps8
  go_wp2_with fail
  refine (HA.out _ (Below.refl _ _)).mono ?_
  rintro e w1 ⟨rfl, hb⟩
  have B1 := Lib.hid hb
  clear hb HA
  go_wp2_with fail
  refine (HB.out _ B1.out).mono ?_
  rintro e w2 ⟨rfl, hb⟩
  have B2 := Lib.hid (below_ahead B1.out hb)
  clear hb HB B1
  go_wp2_with fail
  refine (HCAT.out w2.heap.size _ (Below.al B2.out _) (by simp) (by go_simp) (by go_simp)).mono ?_
  rintro e w3 ⟨v, rfl, hv, hb⟩
  obtain ⟨D, cD, rfl, hD⟩ := hv.rds
  obtain ⟨N, hN⟩ : ∃ N, (pa ++ pb).length = N := ⟨_, rfl⟩
  rw [hN] at hD ⊢
  have hN1 : N ≤ 20 := by rw [← hN, List.length_append, LA.out, LB.out]; omega
  have LN := Lib.hid hN
  have B3 := Lib.hid (below_ahead (Below.al B2.out _) hb)
  have RD3 := Lib.hid hD
  clear hv hb hD hN B2 HCAT
  go_wp2_with fail
  refine (HCON.out _ B3.out D N cD RD3.out (by omega)).mono ?_
  rintro e w4 ⟨rfl, hb⟩
  have B4 := Lib.hid (below_ahead B3.out hb)
  have RD4 := Lib.hid (RD3.out.below hb)
  clear hb HCON B3 RD3
  rw [HOK.out]
  by_cases hok : (la ++ lb).all okE = true
  case neg =>
    have hf : (la ++ lb).all okE = false := by simpa using hok
    rw [hf]
    go_wp2_with fail
    refine (HW.out _ B4.out).mono ?_
    rintro e w5 ⟨rfl, hb⟩
    have B5 := Lib.hid (below_ahead B4.out hb)
    clear hb
    go_wp2_with fail
    exact HP.out _ B5.out
  rw [hok]
  have HMN := Lib.hid (fun W h => HMN.out W h hok)
  have HMT := Lib.hid (fun W h => HMT.out W h hok)
  have HMS := Lib.hid (fun W h => HMS.out W h hok)
  have HS1 := Lib.hid (mns_srt la lb)
  have HCN := Lib.hid (fun x => And.intro (mns_cnt la lb x) (mns_apart la lb x))
  have HLN := Lib.hid (mns_lens la lb)
  have HCL := Lib.hid (fun x => And.intro (cntE_le la x) (And.intro (cntE_le lb x) (And.intro (cntE_le (mns la lb).1 x) (cntE_le (mns la lb).2 x))))
  clear hok HOK
  generalize (mns la lb).1 = l1 at *
  generalize (mns la lb).2 = l2 at *
  go_wp2_with fail
  refine (HMN.out _ B4.out).mono ?_
  rintro e w5 ⟨P1, p1, q1, P2, p2, q2, rfl, h1, h2, hb⟩
  have B5 := Lib.hid (below_ahead B4.out hb)
  have H1 := Lib.hid h1
  have H2 := Lib.hid h2
  have RD5 := Lib.hid (RD4.out.below hb)
  clear hb h1 h2 HMN B4 RD4
  go_wp2_with fail
  refine (HSRT.out _ _ _ _ _ H1.out HS1.out.1).mono ?_
  rintro e w6 ⟨rfl, hb⟩
  have B6 := Lib.hid (below_ahead B5.out hb)
  have H16 := Lib.hid (H1.out.below hb)
  have H26 := Lib.hid (H2.out.below hb)
  have RD6 := Lib.hid (RD5.out.below hb)
  clear hb H1 H2 B5 RD5
  go_wp2_with fail
  refine (HSRT.out _ _ _ _ _ H26.out HS1.out.2).mono ?_
  rintro e w7 ⟨rfl, hb⟩
  have B7 := Lib.hid (below_ahead B6.out hb)
  have H17 := Lib.hid (H16.out.below hb)
  have H27 := Lib.hid (H26.out.below hb)
  have RD7 := Lib.hid (RD6.out.below hb)
  clear hb H16 H26 B6 RD6 HSRT HS1
  go_wp2_with fail
  go_loopw [56, 12] (fun i _ wr => ∃ k : Nat, k ≤ N ∧ i = .int .i64 (k : Int) ∧ Hid (Below w7.heap.size w7 wr)) (fun i _ _ => N - (intOf i).toNat)
  case atStart => exact ⟨0, by omega, rfl, Lib.hid (Below.refl _ _)⟩
  case round =>
    obtain ⟨k, hk, rfl, HB⟩ := hrel
    have HBw := Lib.hid (below_ahead B7.out HB.out)
    by_cases hlt : k < N
    · have hki : (k : Int) < (N : Int) := by omega
      obtain ⟨b1, o1, rfl, hb1, _⟩ := RD7.out.at_ (by omega)
      obtain ⟨r0, r1, r2⟩ := rds_cells3 (RD7.out.below HB.out) k hlt
      have hE := HAL.out _ (re_mem (pa ++ pb) k (by rw [LN.out]; exact hlt))
      generalize (pa ++ pb).getD k re0 = x at *
      obtain ⟨⟨d1, z1, A1, n1, c1⟩, x2⟩ := x
      obtain ⟨e1, e2, e3⟩ := hE
      obtain ⟨xd, xz, xl⟩ := x2
      simp only [rawA, rawN, rawC] at e1 e2 e3 r0 r1 r2
      subst e1 e2
      have CA := Lib.hid (fun W (h : Below w.heap.size w W) => count_any A A1 n c n1 c1 la d1 z1 xl W (EA.out.below h) (e3.below h))
      have CB := Lib.hid (fun W (h : Below w.heap.size w W) => count_any B A1 m d n1 c1 lb d1 z1 xl W (EB.out.below h) (e3.below h))
      have C1 := Lib.hid (fun W (h : Below w7.heap.size w7 W) => count_any P1 A1 p1 q1 n1 c1 l1 d1 z1 xl W (H17.out.below h) (e3.below (below_ahead B7.out h)))
      have C2 := Lib.hid (fun W (h : Below w7.heap.size w7 W) => count_any P2 A1 p2 q2 n1 c1 l2 d1 z1 xl W (H27.out.below h) (e3.below (below_ahead B7.out h)))
      have hcn := HCN.out (d1, z1, xl)
      have hcl := HCL.out (d1, z1, xl)
      have hla := EA.out.small
      have hlb := EB.out.small
      have hl1 := H17.out.small
      have hl2 := H27.out.small
      rw [← EA.out.len] at hla
      rw [← EB.out.len] at hlb
      rw [← H17.out.len] at hl1
      rw [← H27.out.len] at hl2
      generalize cntE la (d1, z1, xl) = ca at *
      generalize cntE lb (d1, z1, xl) = cb at *
      generalize cntE l1 (d1, z1, xl) = cp at *
      generalize cntE l2 (d1, z1, xl) = cq at *
      obtain ⟨s, hs⟩ : ∃ s : Nat, ca + cq = s := ⟨_, rfl⟩
      have hw1 : IntKind.i64.wrap ((ca : Int) + (cq : Int)) = (s : Int) := (IntWalk.i64_in _ (by omega)).trans (by omega)
      have hw2 : IntKind.i64.wrap ((cb : Int) + (cp : Int)) = (s : Int) := (IntWalk.i64_in _ (by omega)).trans (by omega)
      have hap := hcn.2
      unfold enV at CA CB C1 C2
      have HS := Lib.hid hs
      clear hcn hcl hla hlb hl1 hl2 hs e3
      have Ba := Lib.hid (Below.al HBw.out (.cells #[.int .i64 d1, .string ⟨z1.toArray⟩, .slice A1 n1 c1] 32))
      have Bl := Lib.hid (Below.al HB.out (.cells #[.int .i64 d1, .string ⟨z1.toArray⟩, .slice A1 n1 c1] 32))
      have La := Lib.hid (heap_alloc_new wr (.cells #[.int .i64 d1, .string ⟨z1.toArray⟩, .slice A1 n1 c1] 32))
      go_upto_region 12 with fail
      clear r0 r1 r2
      generalize wr.alloc (.cells #[.int .i64 d1, .string ⟨z1.toArray⟩, .slice A1 n1 c1] 32) = wa at *
      generalize wr.heap.size = bw at *
      have hc0 : ∀ p : Bel wa, p.W.cell? ⟨bw, 0, none⟩ = some (.int .i64 d1) := fun p => (cells3 (zblk p.h La.out)).1.1
      have hc1 : ∀ p : Bel wa, p.W.cell? ⟨bw, 1, none⟩ = some (.string ⟨z1.toArray⟩) := fun p => (cells3 (zblk p.h La.out)).1.2.1
      have hc2 : ∀ p : Bel wa, p.W.cell? ⟨bw, 2, none⟩ = some (.slice A1 n1 c1) := fun p => (cells3 (zblk p.h La.out)).1.2.2
      have hcs : (decide ((0 : Int) < (cp : Int)) = false ∧ decide (0 < cp) = false) ∨ ((decide ((0 : Int) < (cp : Int)) = true ∧ decide (0 < cp) = true) ∧ decide ((0 : Int) < (cq : Int)) = false ∧ decide (0 < cq) = false) := by
        by_cases hpos : 0 < cp
        · exact .inr ⟨⟨by rw [decide_eq_true_iff]; omega, by rw [decide_eq_true_iff]; omega⟩, by rw [decide_eq_false_iff_not]; omega, by rw [decide_eq_false_iff_not]; omega⟩
        · exact .inl ⟨by rw [decide_eq_false_iff_not]; omega, by rw [decide_eq_false_iff_not]; omega⟩
      clear hap
      rcases hcs with ⟨hpd, hpn⟩ | ⟨⟨hpd, hpn⟩, hqd, hqn⟩
      · refine wp_region_quiet_bel (by kernel_rfl) (by kernel_rfl) ?_
        repeat (quiet_step (first
          | (go_at_call 34; with_reducible refine Calls.bel_of (CA.out _ (below_ahead Ba.out (Bel.h _))))
          | (go_at_call 34; with_reducible refine Calls.bel_of (CB.out _ (below_ahead Ba.out (Bel.h _))))
          | (go_at_call 34; with_reducible refine Calls.bel_of (C1.out _ (below_ahead Bl.out (Bel.h _))))
          | (go_at_call 34; with_reducible refine Calls.bel_of (C2.out _ (below_ahead Bl.out (Bel.h _))))))
        refine wpQuiet_nil ?_
        intro _ hw'
        obtain ⟨⟨wq, hq⟩, hw''⟩ := hw'
        subst hw''
        have HBf := Lib.hid (below_ahead Bl.out hq)
        clear hq hc0 hc1 hc2
        go_wp2_with fail
        go_roundw
        case rel => exact ⟨k + 1, by omega, by go_num, HBf⟩
        case measure => simp [intOf]; omega
      · refine wp_region_quiet_bel (by kernel_rfl) (by kernel_rfl) ?_
        repeat (quiet_step (first
          | (go_at_call 34; with_reducible refine Calls.bel_of (CA.out _ (below_ahead Ba.out (Bel.h _))))
          | (go_at_call 34; with_reducible refine Calls.bel_of (CB.out _ (below_ahead Ba.out (Bel.h _))))
          | (go_at_call 34; with_reducible refine Calls.bel_of (C1.out _ (below_ahead Bl.out (Bel.h _))))
          | (go_at_call 34; with_reducible refine Calls.bel_of (C2.out _ (below_ahead Bl.out (Bel.h _))))))
        refine wpQuiet_nil ?_
        intro _ hw'
        obtain ⟨⟨wq, hq⟩, hw''⟩ := hw'
        subst hw''
        have HBf := Lib.hid (below_ahead Bl.out hq)
        clear hq hc0 hc1 hc2
        go_wp2_with fail
        go_roundw
        case rel => exact ⟨k + 1, by omega, by go_num, HBf⟩
        case measure => simp [intOf]; omega
    · have hkn : k = N := by omega
      subst hkn
      have hki : ¬ (k : Int) < (k : Int) := by omega
      have H18 := Lib.hid (H17.out.below HB.out)
      have H28 := Lib.hid (H27.out.below HB.out)
      clear H17 H27 RD7 B7 HB HCN HCL HAL
      go_upto_if 91 with fail
      go_cut [13] (fun s13 wx => Hid (∃ T nT cT lT, s13 = .slice T nT cT ∧ Ens wx T nT cT lT ∧ lT.Perm la ∧ Below wr.heap.size wr wx))
      case first =>
        by_cases hn0 : 0 < n
        case neg =>
          have e : n = 0 := by omega
          subst e
          go_wp2_with fail
          go_meet
          exact Lib.hid ⟨A, 0, c, la, rfl, EA.out.below HBw.out, List.Perm.refl _, Below.refl _ _⟩
        have hn0i : (0 : Int) < (n : Int) := by omega
        obtain ⟨kk, hkk⟩ : ∃ kk : Nat, by_.tmod (n : Int) = (kk : Int) ∧ kk < n := by
          refine ⟨(by_ % (n : Int)).toNat, ?_, ?_⟩
          · rw [Int.tmod_eq_emod_of_nonneg hby.1]
            have := Int.emod_nonneg by_ (show (n : Int) ≠ 0 by omega)
            omega
          · have := Int.emod_nonneg by_ (show (n : Int) ≠ 0 by omega)
            have := Int.emod_lt_of_pos by_ (show 0 < (n : Int) by omega)
            omega
        obtain ⟨hk1, hk2⟩ := hkk
        have hkn : kk ≤ n := Nat.le_of_lt hk2
        have hwb : IntKind.i64.wrap by_ = by_ := IntWalk.i64_in _ (by omega)
        have hnz : ((n : Int) == 0) = false := beq_eq_false_iff_ne.2 (by omega)
        have hnz' : ¬ (n : Int) = 0 := by omega
        have hwk : IntKind.i64.wrap (kk : Int) = (kk : Int) := IntWalk.i64_in _ (by omega)
        obtain ⟨A7, run7, hrd7⟩ := Row.run_from rowE_ok RA.out.rds kk hkn
        obtain ⟨A8, run8, hrd8⟩ := Row.run_upto rowE_ok RA.out.rds kk hkn
        have R7 := Lib.hid hrd7
        have R8 := Lib.hid hrd8
        have h7 : n - kk ≤ 1000 := by omega
        have h8 : kk ≤ 1000 := by omega
        have HTL := Lib.hid (show (pa.drop kk ++ pa.take kk).length = n by rw [List.length_append, List.length_drop, List.length_take, LA.out]; omega)
        have HTP := Lib.hid (show (pa.drop kk ++ pa.take kk).Perm pa from (List.perm_append_comm).trans (by rw [List.take_append_drop]))
        have HBc := Lib.hid (Below.refl wr.heap.size wr)
        clear hrd7 hrd8 HMT HMS HW HP HSAME
        go_wp2_with fail
        go_region_held3 (fun _ => True) (exact True.intro)
          (first
            | (go_at_call 30; with_reducible refine (concat_anyE _ A7 A8 (n - kk) (c - kk) kk c (pa.drop kk) (pa.take kk) _ ?_ ?_ ?_ ?_ ?_ h7 h8).mono ?_
               · first | (simp; done) | (simp; omega)
               · go_simp
               · go_simp
               · refine R7.out.below (below_ahead HBw.out ?_)
                 repeat (first | exact HBc.out | refine Below.drew ?_ | refine Below.al ?_ _)
               · refine R8.out.below (below_ahead HBw.out ?_)
                 repeat (first | exact HBc.out | refine Below.drew ?_ | refine Below.al ?_ _)
               rintro e w' ⟨v, rfl, hv, hb⟩
               obtain ⟨g, k1, rfl, hg1, hg2, _⟩ := hv.pos (by rw [HTL.out]; exact hn0)
               rw [HTL.out] at hv ⊢
               have HBc := Lib.hid (below_via (w := wr) hb (by repeat (first | exact HBc.out | refine Below.drew ?_ | refine Below.al ?_ _)))
               have HV := Lib.hid (hv.mono (B' := wr.heap.size) (by first | (simp; done) | (simp; omega)))
               clear hb hv hg1 hg2))
        all_goals
          clear run7 run8 R7 R8 hwb hnz hnz' hk1 hwk
          have hgw := HV.out.own g rfl
          go_wp2_with fail
          refine (srev_any wr.heap.size g k1 n _ _ HV.out HTL.out hn0 (by omega)).mono ?_
          rintro e w8 ⟨rfl, qs, hq1, hq2, hq3⟩
          have hb8 := below_grown HBc.out (Nat.le_refl _) hq3 hgw.1
          have hq := Lib.hid (show (∃ T nT cT lT, Value.slice (some ⟨g, 0, none⟩) n k1 = .slice T nT cT ∧ Ens w8 T nT cT lT ∧ lT.Perm la ∧ Below wr.heap.size wr w8) from
            ⟨_, n, k1, qs.map Prod.snd, rfl, own_ens hq2 (fun p hp => (RA.out.all p (HTP.out.mem_iff.1 (hq1.mem_iff.1 hp))).below (below_ahead HBw.out hb8)) (by omega), HPER.out qs (hq1.trans HTP.out), hb8⟩)
          clear hq1 hq2 hq3 hb8 hgw
          go_wp2_with fail
          go_meet
          exact hq
      case rest =>
      obtain ⟨T, nT, cT, lT, rfl, hT, hp, hbe⟩ := hcut.out
      have BT := Lib.hid (below_ahead HBw.out hbe)
      have H1t := Lib.hid (H18.out.below hbe)
      have H2t := Lib.hid (H28.out.below hbe)
      have HT := Lib.hid hT
      have HPT := Lib.hid hp
      clear hT hp hbe hcut H18 H28 HBw
      go_wp2_with fail
      refine (HMT.out _ BT.out T nT cT lT HPT.out HT.out).mono ?_
      rintro e w8 ⟨R1, r1, s1, R2, r2, s2, rfl, h3, h4, hb⟩
      have B8 := Lib.hid (below_ahead BT.out hb)
      have H1u := Lib.hid (H1t.out.below hb)
      have H2u := Lib.hid (H2t.out.below hb)
      have HTu := Lib.hid (HT.out.below hb)
      have H3 := Lib.hid h3
      have H4 := Lib.hid h4
      clear hb h3 h4 HMT BT H1t H2t HT
      go_wp2_with fail
      refine (HMS.out _ B8.out T nT cT lT HPT.out HTu.out).mono ?_
      rintro e w9 ⟨U1, u1, t1, U2, u2, t2, rfl, h5, h6, hb⟩
      obtain rfl : u1 = 0 := h5.len.symm
      obtain rfl : u2 = 0 := h6.len.symm
      have B9 := Lib.hid (below_ahead B8.out hb)
      have H1v := Lib.hid (H1u.out.below hb)
      have H2v := Lib.hid (H2u.out.below hb)
      have H3v := Lib.hid (H3.out.below hb)
      have H4v := Lib.hid (H4.out.below hb)
      clear hb h5 h6 HMS B8 H1u H2u HTu H3 H4 HPT
      obtain ⟨Z, hZ⟩ : ∃ Z : Nat, p1 + m = Z := ⟨_, rfl⟩
      have hz0 : p1 + m = p2 + n := by have := HLN.out; rw [H1v.out.len, H2v.out.len, EA.out.len, EB.out.len] at this; exact this
      have hp1 := H1v.out.small
      have hp2 := H2v.out.small
      have hz1 : IntKind.i64.wrap ((p1 : Int) + (m : Int)) = (Z : Int) := (IntWalk.i64_in _ (by omega)).trans (by omega)
      have hz2 : IntKind.i64.wrap ((p2 : Int) + (n : Int)) = (Z : Int) := (IntWalk.i64_in _ (by omega)).trans (by omega)
      clear hZ hz0 hp1 hp2
      go_wp2_with fail
      refine (HSAME.out _ _ _ _ _ _ _ l1 H1v.out H3v.out).mono ?_
      rintro e w10 ⟨rfl, hb⟩
      have B10 := Lib.hid (below_ahead B9.out hb)
      have H2w := Lib.hid (H2v.out.below hb)
      have H4w := Lib.hid (H4v.out.below hb)
      clear hb B9 H1v H2v H3v H4v
      go_wp2_with fail
      refine (HSAME.out _ _ _ _ _ _ _ l2 H2w.out H4w.out).mono ?_
      rintro e w11 ⟨rfl, hb⟩
      have B11 := Lib.hid (below_ahead B10.out hb)
      clear hb B10 H2w H4w
      go_wp2_with fail
      refine (HW.out _ B11.out).mono ?_
      rintro e w12 ⟨rfl, hb⟩
      have B12 := Lib.hid (below_ahead B11.out hb)
      clear hb
      go_wp2_with fail
      exact HP.out _ B12.out
theorem diffs_row (A : Option Addr) (n c : Nat) (pa : List RE) (B : Option Addr) (m d : Nat) (pb : List RE) (by_ : Int) (w : World) (ha : rowE.Rds w A n c pa) (ga : ∀ p ∈ pa, RdG w p ∧ p.2.2.1.length ≤ maxLen) (hb : rowE.Rds w B m d pb) (gb : ∀ p ∈ pb, RdG w p ∧ p.2.2.1.length ≤ maxLen) (hby : (Lit.int .u8 by_).wf = true) (ht : Tab w) (hm : ML w) : Calls Tryz.prog 8 #[.slice A n c, .slice B m d, .int .u8 by_] w (BoolPost true w) := by
  have ga' := fun p hp => (ga p hp).1
  have gb' := fun p hp => (gb p hp).1
  cases g1 : greatB pa with
  | true => exact diffs_great A B n c m d pa pb by_ w ha hb ga' gb' (.inl g1) ht hm
  | false =>
    cases g2 : greatB pb with
    | true => exact diffs_great A B n c m d pa pb by_ w ha hb ga' gb' (.inr g2) ht hm
    | false => exact diffs_fit A B n c m d pa pb by_ w ha hb ga' gb' (u8_rng hby) g1 g2 ht hm
end Go.Proofs.YtdnomfekblmnbaaGreatDoor

/- EntryDifferences: for any two lists of entries and every number of eight bits the call of tranchelaw35.EntryDifferences returns true, and its arguments read as before. The card ties the variables of Go's library that it lists; the seat is a pruned copy: of packages left out the card says nothing. -/
namespace Go.Proofs.YtdnomfekblmnbaaGreatDoor.entryDifferences
open Go.ChangeShapes Go.WideShapes Go.ChangeAt Go.RowKit
open Go.ChangeMaps (open_string shut_string)
set_option linter.unusedVariables false

set_option maxRecDepth 100000 in
theorem lifted (os : Os) (started : os.Started) (H : Type) (enc : TypeId × Value → H) :
    ReturnsInHanded {} Tryz.checked os 8 .any (fun w args => (Rows.entryDifferencesSpec.pre enc Tryz.prog Tryz.f8 [] false w args ∧ laidMetH Tryz.prog Rows.entryDifferencesRow.laid w) ∧ sizedMet enc Tryz.prog Tryz.f8 (OpenSpec.ofChange Rows.entryDifferencesSpec) false w args)
      (Rows.entryDifferencesSpec.post enc Tryz.prog Tryz.f8 false true false false) := by
  refine handed_both (C := Tryz.checked) (X := fun w _ => laidMetH Tryz.prog Rows.entryDifferencesRow.laid w) (fun _ _ _ hh h => h.of_heap hh) own started (by kernel_rfl) Tryz.func8
    (ChangeSpec.witness_shaped (enc := enc) (C := Tryz.checked) (os := os) (X := fun w _ => laidMetH Tryz.prog Rows.entryDifferencesRow.laid w) false (World.laidAll Tryz.prog os Rows.entryDifferencesRow.laid) #[.slice none 0 0, .slice none 0 0, .int .u8 0] 8 (World.laidAll_os _ _ _)
      (World.shaped_of_ZipB (by kernel_rfl) (by kernel_rfl)) (by kernel_rfl) (by kernel_rfl) (by kernel_rfl)
      (by rw [MakeChecks.laidMetH_plain _ _ _ (by kernel_rfl)]; exact laidMet_laidAll _ (by kernel_rfl) (by kernel_rfl))) ?_
  intro W base args ds gs before hval0 hW hL hsh
  have hval : ∀ (j : Nat) t v, Tryz.f8.params[j]? = some t → args[j]? = some v → Value.okWide Tryz.prog W .any base t v := hval0
  have hW' := hW
  obtain ⟨p, q, hA0, hV, rfl, hfz, hnd⟩ := hW
  have hA : DataW.TrodAll enc Tryz.prog W 0 (fun _ => true) true Tryz.f8.params.toList args.toList ds p := hA0
  rw [Tryz.params8] at hA hval
  obtain ⟨v0, vs0, d0, ds0, p0, q0, hargs, rfl, rfl, h0, r0⟩ := trodAll_cons hA
  obtain ⟨v1, vs1, d1, ds1, p1, q1, rfl, rfl, rfl, h1, r1⟩ := trodAll_cons r0
  obtain ⟨v2, vs2, d2, ds2, p2, q2, rfl, rfl, rfl, h2, r2⟩ := trodAll_cons r1
  obtain ⟨rfl, rfl, rfl⟩ := trodAll_nil r2
  obtain rfl : args = #[v0, v1, v2] := by cases args; simp_all
  obtain ⟨rfl, rfl⟩ := trodVars_none hV
  obtain ⟨A0, n0, c0, l0, rfl, s0, y0⟩ := arg_entries (hval 0 22 v0 rfl rfl) h0
  obtain ⟨A1, n1, c1, l1, rfl, s1, y1⟩ := arg_entries (hval 1 22 v1 rfl rfl) h1
  obtain ⟨a2, rfl, rfl, rfl, w2⟩ := open_int Tryz.underlying5 (hval 2 5 v2 rfl rfl) h2
  clear hA0 hval0
  refine (diffs_row A0 n0 c0 l0 A1 n1 c1 l1 a2 W s0 y0 s1 y1 w2 (tab_of hL) (ml_of hsh)).mono fun e W' ⟨he, hg⟩ => ?_
  subst he
  exact ⟨_, rfl, post_true (tb := 4) hW' rfl laid (by kernel_rfl) rfl Tryz.underlying4 ⟨rfl, rfl, rfl⟩ hg⟩

theorem over : Rows.EntryDifferencesSaid :=
  OpenClaim.holds_of_wide 8 Tryz.f8 rfl rfl rfl rfl rfl rfl rfl ⟨rfl, rfl, rfl, rfl, rfl⟩ rfl rfl rfl rfl rfl (by kernel_rfl) Tryz.func8 (by kernel_rfl)
    (of_decide_eq_true (by kernel_rfl)) (by unfold Func.isWrapper; first | (rw [if_pos (by decide +kernel)]; kernel_rfl) | (rw [if_neg (by decide +kernel)]; exact ⟨rfl, rfl⟩))
    (fun os started H enc _ => lifted os started H enc)

theorem plain (f : FuncId) (fn : Func) (hf : Tryz.pinned.checked.prog.funcNamed "tranche/tranchelaw35.EntryDifferences" = some f) (hfn : Tryz.pinned.checked.prog.funcs[f]? = some fn) :
    true = Tryz.pinned.checked.prog.looks [] ∧ ∀ (j : Nat) t, fn.params[j]? = some t → Tryz.pinned.checked.prog.wantsStandIn t = false := by
  obtain rfl : f = 8 := Option.some.inj ((show Tryz.prog.funcNamed "tranche/tranchelaw35.EntryDifferences" = some 8 by kernel_rfl).symm.trans hf) |>.symm
  obtain rfl : fn = Tryz.f8 := (Option.some.inj (Tryz.func8.symm.trans hfn)).symm
  refine ⟨by kernel_rfl, fun j t ht => ?_⟩
  rw [Tryz.params8] at ht
  have hm : t ∈ [22, 22, 5] := by simpa using Array.mem_of_getElem? ht
  have hall : (([22, 22, 5] : List TypeId).all fun u => !Tryz.prog.wantsStandIn u) = true := by kernel_rfl
  exact (show Tryz.prog.wantsStandIn t = false by simpa using List.all_eq_true.1 hall t hm)

theorem proved : Rows.EntryDifferencesCardSaid :=
  Claim7.holds_tied_plain_at .later [] _ _ _ _ over (fun _ h => by cases h) (by kernel_rfl) (fun _ h => by cases h) entryDifferences_row_tie rfl ⟨rfl, rfl⟩ (by kernel_rfl) rfl plain (by kernel_rfl)
end Go.Proofs.YtdnomfekblmnbaaGreatDoor.entryDifferences
