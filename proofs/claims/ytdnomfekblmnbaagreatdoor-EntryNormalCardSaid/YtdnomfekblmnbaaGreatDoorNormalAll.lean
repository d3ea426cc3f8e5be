/- What the walks of the laws share: boxes with entries, returned entries, slices of one entry. -/
import Derived.Test.YtdnomfekblmnbaaGreatDoorQ7
import Derived.Test.YtdnomfekblmnbaaGreatDoorQ9
import Derived.Test.YtdnomfekblmnbaaGreatDoorQ10
import Derived.Test.YtdnomfekblmnbaaGreatDoorQ8
import Derived.Test.YtdnomfekblmnbaaGreatDoorQ5
import Derived.WalkLawsBesides
import Derived.Deep.DeepCutAuto
import Derived.Deep.AppendLies
namespace Go.Proofs.YtdnomfekblmnbaaGreatDoor
open Go.RowKit Go.Maps Num

/-- a box with an entry in it -/
structure Bx (W : World) (b : Nat) (d : Int) (s : List UInt8) (A : Option Addr) (n c : Nat) (l : List Ln) : Prop where
  c0 : W.cell? ⟨b, 0, none⟩ = some (.int .i64 d)
  c1 : W.cell? ⟨b, 1, none⟩ = some (.string ⟨s.toArray⟩)
  c2 : W.cell? ⟨b, 2, none⟩ = some (.slice A n c)
  lns : Lns W A n c l
theorem Bx.lt {W : World} {b : Nat} {d : Int} {s : List UInt8} {A : Option Addr} {n c : Nat} {l : List Ln} (h : Bx W b d s A n c l) : b < W.heap.size := block_lt_of_cell h.c0
theorem Bx.below {W W' : World} {b : Nat} {d : Int} {s : List UInt8} {A : Option Addr} {n c : Nat} {l : List Ln} (h : Bx W b d s A n c l) (hb : Below W.heap.size W W') : Bx W' b d s A n c l :=
  ⟨(hb.cell (p := ⟨b, 0, none⟩) h.lt).trans h.c0, (hb.cell (p := ⟨b, 1, none⟩) h.lt).trans h.c1, (hb.cell (p := ⟨b, 2, none⟩) h.lt).trans h.c2, h.lns.below hb⟩
theorem Bx.new {W : World} {d : Int} {s : List UInt8} {A : Option Addr} {n c : Nat} {l : List Ln} (h : Lns W A n c l) : Bx (W.alloc (.cells #[.int .i64 d, .string ⟨s.toArray⟩, .slice A n c] 32)) W.heap.size d s A n c l := by
  obtain ⟨⟨c0, c1, c2⟩, _⟩ := cells3 (heap_alloc_new W (.cells #[.int .i64 d, .string ⟨s.toArray⟩, .slice A n c] 32))
  exact ⟨c0, c1, c2, h.below ((Below.refl _ _).alloc (Nat.le_refl _) _)⟩
theorem Bx.al {W : World} {b : Nat} {d : Int} {s : List UInt8} {A : Option Addr} {n c : Nat} {l : List Ln} (h : Bx W b d s A n c l) (o : Obj) : Bx (W.alloc o) b d s A n c l := h.below (Below.al (Below.refl _ _) o)
/-- the like, of any lines -/
structure BxR (W : World) (b : Nat) (d : Int) (s : List UInt8) (A : Option Addr) (n c : Nat) : Prop where
  c0 : W.cell? ⟨b, 0, none⟩ = some (.int .i64 d)
  c1 : W.cell? ⟨b, 1, none⟩ = some (.string ⟨s.toArray⟩)
  c2 : W.cell? ⟨b, 2, none⟩ = some (.slice A n c)
theorem BxR.lt {W : World} {b : Nat} {d : Int} {s : List UInt8} {A : Option Addr} {n c : Nat} (h : BxR W b d s A n c) : b < W.heap.size := block_lt_of_cell h.c0
theorem BxR.below {W W' : World} {b : Nat} {d : Int} {s : List UInt8} {A : Option Addr} {n c : Nat} (h : BxR W b d s A n c) (hb : Below W.heap.size W W') : BxR W' b d s A n c :=
  ⟨(hb.cell (p := ⟨b, 0, none⟩) h.lt).trans h.c0, (hb.cell (p := ⟨b, 1, none⟩) h.lt).trans h.c1, (hb.cell (p := ⟨b, 2, none⟩) h.lt).trans h.c2⟩
theorem BxR.new (W : World) (d : Int) (s : List UInt8) (A : Option Addr) (n c : Nat) : BxR (W.alloc (.cells #[.int .i64 d, .string ⟨s.toArray⟩, .slice A n c] 32)) W.heap.size d s A n c := by
  obtain ⟨⟨c0, c1, c2⟩, _⟩ := cells3 (heap_alloc_new W (.cells #[.int .i64 d, .string ⟨s.toArray⟩, .slice A n c] 32))
  exact ⟨c0, c1, c2⟩
theorem BxR.al {W : World} {b : Nat} {d : Int} {s : List UInt8} {A : Option Addr} {n c : Nat} (h : BxR W b d s A n c) (o : Obj) : BxR (W.alloc o) b d s A n c := h.below (Below.al (Below.refl _ _) o)
theorem zblk {W w' : World} {b : Nat} {cs : Array Value} {t : TypeId} (hb : Below W.heap.size W w') (h : W.heap[b]? = some (.cells cs t)) : w'.heap[b]? = some (.cells cs t) := (hb.block b (block_lt_of_row h)).trans h
theorem zA (w : World) (o1 o2 : Obj) : ((w.alloc o1).alloc o2).heap[w.heap.size]? = some o1 := by
  rw [heap_alloc_old _ _ (by simp)]; exact heap_alloc_new w o1
theorem zB (w : World) (o1 o2 : Obj) : ((w.alloc o1).alloc o2).heap[w.heap.size + 1]? = some o2 := by
  have h := heap_alloc_new (w.alloc o1) o2
  rwa [show (w.alloc o1).heap.size = w.heap.size + 1 by simp] at h
theorem own_set3 {α : Type} {R : Row α} {B : Nat} {w : World} {v : Value} {l : List α} (h : R.Own B w v l) {b : Nat} (hb : b < B) (p q u : Value) : R.Own B (((w.setCell ⟨b, 0, none⟩ p).setCell ⟨b, 1, none⟩ q).setCell ⟨b, 2, none⟩ u) v l :=
  have hr : ∀ k, some b = some k → k < B := fun k e => by have := Option.some.inj e; omega
  ((h.kept (grown_setCell w ⟨b, 0, none⟩ p) hr).kept (grown_setCell _ ⟨b, 1, none⟩ q) hr).kept (grown_setCell _ ⟨b, 2, none⟩ u) hr
theorem own_lns {B n c : Nat} {w : World} {A : Option Addr} {l : List Ln} (h : rowL.Own B w (.slice A n c) l) (hn : n ≤ 1000) (hs : ∀ x ∈ l, Sml x) : Lns w A n c l := by
  obtain ⟨A', c', e, hr⟩ := h.rds
  injection e with e1 e2 e3
  subst e1 e3
  rw [← e2] at hr
  exact Lns.of_rds hr hn hs
theorem below_set1 {B b : Nat} {w W : World} (h : Below B w W) (hB : B ≤ w.heap.size) (hb : B ≤ b) (i : Nat) (v : Value) : Below B w (W.setCell ⟨b, i, none⟩ v) := below_grown h hB (grown_setCell W ⟨b, i, none⟩ v) hb
theorem below_al2 {B : Nat} {w W : World} (h : Below B w W) (hB : w.heap.size = B) (o : Obj) : Below B w (W.alloc o) := h.alloc (by have := h.size; omega) o
theorem below_set2 {B b : Nat} {w W : World} (h : Below B w W) (hB : w.heap.size = B) (hb : B ≤ b) (i : Nat) (v : Value) : Below B w (W.setCell ⟨b, i, none⟩ v) := below_set1 h (by omega) hb i v
/-- the first line of a slice of the call's own -/
theorem own_head {B g n k : Nat} {w : World} {x : Ln} {r : List Ln} (h : rowL.Own B w (.slice (some ⟨g, 0, none⟩) n k) (x :: r)) (hn : 0 < n) :
    w.cell? ⟨g, 0, none⟩ = some (.string ⟨x.1.toArray⟩) ∧ w.cell? ⟨g, 1, none⟩ = some (.string ⟨x.2.1.toArray⟩) ∧ w.cell? ⟨g, 2, none⟩ = some (.string ⟨x.2.2.toArray⟩) ∧ g < w.heap.size ∧ B ≤ g ∧ w.frozen? ⟨g, 2, none⟩ = false ∧ (x :: r).length = n := by
  have hf := Row.Own.frz h 2
  have ho := h.own g rfl
  obtain ⟨A, c, e, hr⟩ := h.rds
  injection e with e1 e2 e3
  subst e1 e3
  rw [← e2] at hr
  have c0 := hr.cell rowL_ok ln0 0 0 _ hn rfl
  have c1 := hr.cell rowL_ok ln0 0 1 _ hn rfl
  have c2 := hr.cell rowL_ok ln0 0 2 _ hn rfl
  exact ⟨c0, c1, c2, ho.2, ho.1, hf, e2.symm⟩
theorem below_ahead2 {B : Nat} {w W w' : World} (h : Below B w W) (hB : w.heap.size = B) (hb : Below W.heap.size W w') : Below B w w' := h.trans (hb.mono (by have := h.size; omega))
/-- the first line's amount is written -/
theorem own_set_amt {B g n k : Nat} {w : World} {a cu am : List UInt8} {r : List Ln} (h : rowL.Own B w (.slice (some ⟨g, 0, none⟩) n k) ((a, cu, am) :: r)) (nm : List UInt8) : rowL.Own B (w.setCell ⟨g, 2, none⟩ (.string ⟨nm.toArray⟩)) (.slice (some ⟨g, 0, none⟩) n k) ((a, cu, nm) :: r) := by
  have hn : n = ((a, cu, am) :: r).length := by
    rcases h.2 with ⟨e, _⟩ | ⟨g', cap', cur, e, _⟩
    · cases e
    · injection e
  subst hn
  have h' : w.ownsRow B 45 3 (.slice (some ⟨g, 0, none⟩) ((a, cu, am) :: r).length k) ((a, cu, am) :: r).length (rowL.vs ((a, cu, am) :: r)) := h
  exact (h'.stored 2 (.string ⟨nm.toArray⟩)).1
/-- a slice of one entry -/
theorem ens1d {W : World} {b : Nat} {d : Int} {s : List UInt8} {A : Option Addr} {n c : Nat} {l : List Ln} (c0 : W.cell? ⟨b, 0, none⟩ = some (.int .i64 d)) (c1 : W.cell? ⟨b, 1, none⟩ = some (.string ⟨s.toArray⟩)) (c2 : W.cell? ⟨b, 2, none⟩ = some (.slice A n c)) (hl : Lns W A n c l) : Ens W (some ⟨b, 0, none⟩) 1 1 [(d, s, l)] := by
  refine Res.ens (ps := [((d, s, A, n, c), (d, s, l))]) ⟨rds_cells [((d, s, A, n, c), (d, s, l))] (block_lt_of_cell c0) ?_ (by show 1 ≤ maxLen; decide), ?_⟩ (by decide)
  · intro j u hu
    rcases j with _ | _ | _ | j
    · exact c0.trans hu
    · exact c1.trans hu
    · exact c2.trans hu
    · cases hu
  · intro p hp
    rw [List.mem_singleton.1 hp]
    exact ⟨rfl, rfl, hl⟩
/-- an entry and a code, returned -/
def EnQ (d : Int) (s : List UInt8) (l : List Ln) (i : Int) (w : World) (e : Ending) (w' : World) : Prop :=
  ∃ A n c, e = .returned (.tuple #[.agg #[.int .i64 d, .string ⟨s.toArray⟩, .slice A n c], .int .i64 i]) ∧ Lns w' A n c l ∧ Below w.heap.size w w'
theorem nrm_enq {d : Int} {c : List UInt8} {l : List Ln} {w w' : World} {e : Ending} (h : NrmPost d c l w e w') : EnQ (nrmY d c l).1 (nrmY d c l).2.1 (nrmY d c l).2.2 (nrmI d c l) w e w' := nrm_enp h
theorem rev_enq {d : Int} {c : List UInt8} {l : List Ln} {w w' : World} {e : Ending} (h : RevPost d c l w e w') : EnQ (revY d c l).1 (revY d c l).2.1 (revY d c l).2.2 (revI d c l) w e w' := rev_enp h
/-- a call ahead: a world of it is one of the caller's -/
theorem below_ahead {w W w' : World} (h : Below w.heap.size w W) (hb : Below W.heap.size W w') : Below w.heap.size w w' := h.trans (hb.mono h.size)
end Go.Proofs.YtdnomfekblmnbaaGreatDoor

/- EntryNormal: the walk. -/
namespace Go.Proofs.YtdnomfekblmnbaaGreatDoor
open Go.RowKit Go.Maps Num

set_option maxRecDepth 100000 in
set_option maxHeartbeats 16000000 in
theorem normal_all (d : Int) (cz : List UInt8) (A : Option Addr) (n c : Nat) (l : List Ln) (by_ : Int) (cut : List UInt8) (w : World) (hr : rowL.Rds w A n c l) (hby : 0 ≤ by_ ∧ by_ ≤ 255) (ht : Tab w) (hm : ML w) :
    Calls Tryz.prog 9 #[.agg (enV d cz A n c), .int .u8 by_, .string ⟨cut.toArray⟩] w (BoolPost true w) := by
  have B0 := Lib.hid (Below.al (Below.refl _ w) (.cells #[.int .i64 d, .string ⟨cz.toArray⟩, .slice A n c] 32))
  have HG := Lib.hid (fun W (h : Below w.heap.size w W) => rgreat1_any d cz A n c l W (hr.below h))
  have HK := Lib.hid (fun (hg : g1B cz l = false) (W : World) (h : Below w.heap.size w W) => rchkE_any d cz A n c l W (((g1_fit hg).lns hr).below h) (by have := (g1_fit hg).cause; unfold maxLen; omega) (fun q hq => ((g1_fit hg).ln q hq).2.2))
  have HW := Lib.hid (fun W (h : Below w.heap.size w W) => awake_any W (ht.below h) (hm.below h))
  have HP := Lib.hid (fun W (h : Below w.heap.size w W) => (show BoolPost true w (.returned (.bool true)) W from ⟨rfl, h⟩))
  have HX0 := Lib.hid (BxR.new w d cz A n c)
  have HFV := Lib.hid (fun (hg : g1B cz l = false) (hv : Vld d cz l) => (show Fit cz l ∧ Vld d cz l ∧ Lns w A n c l from ⟨g1_fit hg, hv, (g1_fit hg).lns hr⟩))
  have HT := Lib.hid ht
  have HM := Lib.hid hm
  clear hr ht hm
  generalize BoolPost true w = Post at *
  unfold enV at *
  go_enter Tryz.func9, Tryz.ntmps9
  go_upto_region 1 with fail
  generalize w.alloc (.cells #[.int .i64 d, .string ⟨cz.toArray⟩, .slice A n c] 32) = w0 at *
  obtain ⟨x0, x1, x2⟩ := HX0.out
  go_wp2_with fail
  clear x0 x1 x2
  obtain ⟨gy, hgy⟩ : ∃ gy, g1B cz l = gy := ⟨_, rfl⟩
  rw [hgy] at HG HK HFV
  refine (HG.out _ B0.out).mono ?_
  rintro e w1 ⟨rfl, hb⟩
  have B1 := Lib.hid (below_next B0.out hb ⟨rfl, rfl, rfl, rfl⟩)
  have X1 := Lib.hid (HX0.out.below hb)
  clear hb B0 HG HX0 hgy
  obtain ⟨x0, x1, x2⟩ := X1.out
  cases gy
  case true =>
    go_wp2_with fail
    refine (HW.out _ B1.out).mono ?_
    rintro e w2 ⟨rfl, hb⟩
    have B2 := Lib.hid (below_next B1.out hb ⟨rfl, rfl, rfl, rfl⟩)
    clear hb
    go_wp2_with fail
    exact HP.out _ B2.out
  go_wp2_with fail
  clear x0 x1 x2
  refine (HK.out trivial _ B1.out).mono ?_
  rintro e w2 ⟨rfl, hb⟩
  have B2 := Lib.hid (below_next B1.out hb ⟨rfl, rfl, rfl, rfl⟩)
  have X2 := Lib.hid (X1.out.below hb)
  clear hb B1 X1 HK
  obtain ⟨ck, hck⟩ : ∃ ck, chkE d cz l = ck := ⟨_, rfl⟩
  rw [hck]
  by_cases h0 : ck = 0
  case neg =>
    have hb0 : (ck == 0) = false := beq_eq_false_iff_ne.2 h0
    have hb1 : (ck != 0) = true := by rw [bne_iff_ne]; exact h0
    clear hck HFV
    go_wp2_with fail
    refine (HW.out _ B2.out).mono ?_
    rintro e w3 ⟨rfl, hb⟩
    have B3 := Lib.hid (below_next B2.out hb ⟨rfl, rfl, rfl, rfl⟩)
    clear hb
    go_wp2_with fail
    exact HP.out _ B3.out
  subst h0
  by_cases h13 : 13 < cut.length
  · have h13d : decide ((13 : Int) < (cut.length : Int)) = true := by rw [decide_eq_true_iff]; omega
    clear hck HFV
    go_wp2_with fail
    refine (HW.out _ B2.out).mono ?_
    rintro e w3 ⟨rfl, hb⟩
    have B3 := Lib.hid (below_next B2.out hb ⟨rfl, rfl, rfl, rfl⟩)
    clear hb
    go_wp2_with fail
    exact HP.out _ B3.out
  have h13d : decide ((13 : Int) < (cut.length : Int)) = false := by rw [decide_eq_false_iff_not]; omega
  obtain ⟨hF, hV, hl⟩ := HFV.out trivial (chkE_iff.1 hck)
  have hn0 : 0 < n := by rw [← hl.len]; exact hV.pos
  have hn := hl.small
  obtain ⟨kk, hkk⟩ : ∃ kk : Nat, by_.tmod (n : Int) = (kk : Int) ∧ kk < n := by
    refine ⟨(by_ % (n : Int)).toNat, ?_, ?_⟩
    · rw [Int.tmod_eq_emod_of_nonneg hby.1]
      have := Int.emod_nonneg by_ (show (n : Int) ≠ 0 by omega)
      omega
    · have := Int.emod_nonneg by_ (show (n : Int) ≠ 0 by omega)
      have := Int.emod_lt_of_pos by_ (show 0 < (n : Int) by omega)
      omega
  obtain ⟨hk1, hk2⟩ := hkk
  have hkn : kk ≤ n := Nat.le_of_lt hk2
  have hwb : IntKind.i64.wrap by_ = by_ := IntWalk.i64_in _ (by omega)
  have hnz : ((n : Int) == 0) = false := beq_eq_false_iff_ne.2 (by omega)
  have hnz' : ¬ (n : Int) = 0 := by omega
  have hwk : IntKind.i64.wrap (kk : Int) = (kk : Int) := IntWalk.i64_in _ (by omega)
  obtain ⟨A7, run7, hrd7⟩ := Row.run_from rowL_ok hl.rds kk hkn
  obtain ⟨A8, run8, hrd8⟩ := Row.run_upto rowL_ok hl.rds kk hkn
  have HL := Lib.hid hl
  have HF := Lib.hid hF
  have HV := Lib.hid hV
  have R7 := Lib.hid hrd7
  have R8 := Lib.hid hrd8
  have TOX := Lib.hid (fun W (h : Below w2.heap.size w2 W) => X2.out.below h)
  have TOW := Lib.hid (fun W (h : Below w2.heap.size w2 W) => below_ahead B2.out h)
  have T4 := Lib.hid (heap_alloc_new w2 (.cells #[.int .i64 d, .string ⟨cz.toArray⟩, .slice A n c] 32))
  have H24 := Lib.hid (Below.al (Below.refl w2.heap.size w2) (.cells #[.int .i64 d, .string ⟨cz.toArray⟩, .slice A n c] 32))
  have lbt : w2.heap.size < (w2.alloc (.cells #[.int .i64 d, .string ⟨cz.toArray⟩, .slice A n c] 32)).heap.size := by simp
  have lxt : w.heap.size < w2.heap.size := X2.out.lt
  have HSX := Lib.hid (fun W (h : Below w2.heap.size w2 W) => (X2.out.below h).c2)
  obtain ⟨x, r, hrot⟩ := turn_cons (l := l) (k := kk) (by rw [hl.len]; exact hn0)
  have HROT := Lib.hid hrot
  have HLN := Lib.hid (show (x :: r).length = n by rw [← hrot, turn_len l kk (by rw [hl.len]; exact hkn), hl.len])
  obtain ⟨x0, x1, x2⟩ := X2.out
  clear hF hV hl hrd7 hrd8 hck HFV X2 hrot
  go_upto_region 5 with fail
  clear x0 x1 x2 B2
  generalize w2.alloc (.cells #[.int .i64 d, .string ⟨cz.toArray⟩, .slice A n c] 32) = w4 at *
  generalize hbt : w2.heap.size = bt at *
  have HBT := Lib.hid hbt
  clear hbt
  go_cut [7] (fun s7 wx => Hid (∃ g k1, Below bt w2 wx ∧ wx.heap[bt]? = some (.cells #[.int .i64 d, .string ⟨cz.toArray⟩, .slice (some ⟨g, 0, none⟩) n k1] 32) ∧ rowL.Own (bt + 1) wx (.slice (some ⟨g, 0, none⟩) n k1) (x :: r)))
  case first =>
    have HBc := Lib.hid (Below.refl w4.heap.size w4)
    have HL7 : n - kk ≤ 1000 := by omega
    have HL8 : kk ≤ 1000 := by omega
    have c2x := HSX.out w4 H24.out
    have lx4 : w.heap.size < w4.heap.size := by omega
    have hwbt : w.heap.size ≤ bt := Nat.le_of_lt lxt
    clear HW HP HT HM HV HF
    go_region_held3 (fun W => W.cell? ⟨w.heap.size, 2, none⟩ = some (.slice A n c))
      (first | (refine HSX.out _ ?_; repeat (first | exact below_ahead2 H24.out HBT.out HBc.out | refine Below.drew ?_ | refine below_al2 ?_ HBT.out _ | refine below_set2 ?_ HBT.out (by omega) _ _)))
      (first
        | (go_at_call 28; with_reducible refine (concat_anyL _ A7 A8 (n - kk) (c - kk) kk c (l.drop kk) (l.take kk) _ ?_ ?_ ?_ ?_ ?_ HL7 HL8).mono ?_
           · first | (simp; done) | (simp; omega)
           · go_simp
           · go_simp
           · refine R7.out.below (TOW.out _ (below_ahead2 H24.out HBT.out ?_))
             repeat (first | exact HBc.out | refine Below.drew ?_ | refine Below.al ?_ _)
           · refine R8.out.below (TOW.out _ (below_ahead2 H24.out HBT.out ?_))
             repeat (first | exact HBc.out | refine Below.drew ?_ | refine Below.al ?_ _)
           rintro e w' ⟨v, rfl, hv, hb⟩
           rw [HROT.out] at hv
           obtain ⟨g, k1, rfl, hg1, hg2, _⟩ := hv.pos (by rw [HLN.out]; exact hn0)
           rw [HLN.out] at hv ⊢
           have HBc := Lib.hid (below_via (w := w4) hb (by repeat (first | exact HBc.out | refine Below.drew ?_ | refine Below.al ?_ _)))
           have hsz := HBc.out.size
           have ZZ := Lib.hid ((HBc.out.block bt lbt).trans T4.out)
           obtain ⟨⟨d0, d1, d2⟩, e0, e1, e2⟩ := cells3 ZZ.out
           have hgt : bt + 1 ≤ g := Nat.le_trans (by first | (simp; done) | (simp; omega)) hg1
           have HV := Lib.hid (hv.mono (B' := bt + 1) (by first | (simp; done) | (simp; omega)))
           clear hb hv hg1))
    all_goals
      go_wp2_with fail
      go_meet
      exact Lib.hid ⟨g, k1, below_set2 (below_ahead2 H24.out HBT.out HBc.out) HBT.out (Nat.le_refl _) _ _, set2 ZZ.out _, HV.out.kept (grown_setCell _ _ _) (fun q e => by have := Option.some.inj e; simp only at this; omega)⟩
  case rest =>
  obtain ⟨g, k1, hb5, ht5, ho5⟩ := hcut.out
  obtain ⟨a0, cu0, am0⟩ := x
  have B5 := Lib.hid hb5
  have T5 := Lib.hid ht5
  have O5 := Lib.hid ho5
  have hg5 : bt + 1 ≤ g := (own_head ho5 hn0).2.2.2.2.1
  have hx13 : am0.length ≤ 13 := (HF.out.ln (a0, cu0, am0) (turn_mem (l := l) (k := kk) (by rw [HROT.out]; simp))).2.2
  clear hb5 ht5 ho5 hcut T4 H24 HSX lbt run7 run8 R7 R8 hwb hnz hnz' hk1 hwk
  have lxb : w.heap.size < bt := lxt
  obtain ⟨⟨t0, t1, t2⟩, _⟩ := cells3 T5.out
  obtain ⟨l0, l1, l2, lg, _, fg, _⟩ := own_head O5.out hn0
  have hn0i : (0 : Int) < (n : Int) := by omega
  go_upto_region 7 with fail
  clear t0 t1 t2 l0 l1 l2 fg
  have T6 := Lib.hid ((heap_alloc_old wc (.cells #[.string ⟨a0.toArray⟩, .string ⟨cu0.toArray⟩, .string ⟨am0.toArray⟩] 45) (block_lt_of_row T5.out)).trans T5.out)
  have O6 := Lib.hid (O5.out.alloc (.cells #[.string ⟨a0.toArray⟩, .string ⟨cu0.toArray⟩, .string ⟨am0.toArray⟩] 45))
  have P6 := Lib.hid (heap_alloc_new wc (.cells #[.string ⟨a0.toArray⟩, .string ⟨cu0.toArray⟩, .string ⟨am0.toArray⟩] 45))
  have B6 := Lib.hid (below_al2 B5.out HBT.out (.cells #[.string ⟨a0.toArray⟩, .string ⟨cu0.toArray⟩, .string ⟨am0.toArray⟩] 45))
  have lt9 : bt < wc.heap.size := block_lt_of_row T5.out
  have lg9 : g < wc.heap.size := lg
  clear T5 O5 B5 lg
  generalize wc.alloc (.cells #[.string ⟨a0.toArray⟩, .string ⟨cu0.toArray⟩, .string ⟨am0.toArray⟩] 45) = w6 at *
  generalize wc.heap.size = bp at *
  go_wp2_with fail
  refine (Canonical_any ⟨cut.toArray⟩ _ (by show cut.toArray.size ≤ 1000; rw [List.size_toArray]; omega)).mono ?_
  rintro e w7 ⟨rfl, hb⟩
  have B7 := Lib.hid (below_ahead2 B6.out HBT.out hb)
  have T7 := Lib.hid (zblk hb T6.out)
  have P7 := Lib.hid (zblk hb P6.out)
  have O7 := Lib.hid (O6.out.below hb)
  clear hb T6 P6 O6 B6
  obtain ⟨⟨p0, p1, p2⟩, f0, f1, f2⟩ := cells3 P7.out
  go_upto_region 8 with fail
  have B8 := Lib.hid (below_set2 B7.out HBT.out (show bt ≤ bp by omega) 2 (.string ⟨(can cut).toArray⟩))
  have P8 := Lib.hid (set2 P7.out (.string ⟨(can cut).toArray⟩))
  have O8 := Lib.hid (O7.out.kept' (grown_setCell w7 ⟨bp, 2, none⟩ (.string ⟨(can cut).toArray⟩)) (.inr (by show some g ≠ some bp; intro e; have := Option.some.inj e; omega)))
  have T8 := Lib.hid ((Below.heap_setCell w7 ⟨bp, 2, none⟩ (.string ⟨(can cut).toArray⟩) bt (by show bt ≠ bp; omega)).trans T7.out)
  clear p0 p1 p2 f0 f1 f2 B7 T7 P7 O7
  generalize w7.setCell ⟨bp, 2, none⟩ (.string ⟨(can cut).toArray⟩) = w8 at *
  obtain ⟨nm, hnm⟩ : ∃ nm, txt (val am0 - val cut) = nm := ⟨_, rfl⟩
  have HNM := Lib.hid hnm
  have CSB := Lib.hid (fun W (h : Below w.heap.size w W) => (show Calls Tryz.prog 37 #[.string ⟨am0.toArray⟩, .string ⟨cut.toArray⟩] W (StrPost nm W) from by
    rw [← hnm]
    exact Sub_any ⟨am0.toArray⟩ ⟨cut.toArray⟩ W (by show am0.toArray.size ≤ 120; rw [List.size_toArray]; omega) (by show cut.toArray.size ≤ 120; rw [List.size_toArray]; omega) (HT.out.below h)))
  clear hnm
  obtain ⟨cc, hcc⟩ : ∃ cc, can cut = cc := ⟨_, rfl⟩
  rw [hcc] at P8
  have HCC := Lib.hid hcc
  clear hcc
  go_cut [7] (fun s7 wx => Hid (Below bt w2 wx ∧ wx.heap[bt]? = some (.cells #[.int .i64 d, .string ⟨cz.toArray⟩, .slice (some ⟨g, 0, none⟩) n k1] 32) ∧ rowL.Own (bt + 1) wx (.slice (some ⟨g, 0, none⟩) n k1) ((a0, cu0, nm) :: r) ∧ wx.heap[bp]? = some (.cells #[.string ⟨a0.toArray⟩, .string ⟨cu0.toArray⟩, .string ⟨cc.toArray⟩] 45)))
  case first =>
    obtain ⟨⟨t0, t1, t2⟩, _⟩ := cells3 T8.out
    obtain ⟨l0, l1, l2, lg, _, fg, _⟩ := own_head O8.out hn0
    have HBc := Lib.hid (Below.refl w8.heap.size w8)
    have lt8 : bt < w8.heap.size := block_lt_of_row T8.out
    clear HW HP HT HM HV HF
    go_region_with (first
      | (go_at_call 37; refine (CSB.out _ ?_).mono ?_
         · refine TOW.out _ (below_ahead2 B8.out HBT.out ?_)
           repeat (first | exact HBc.out | refine Below.drew ?_ | refine Below.al ?_ _)
         rintro e w' ⟨rfl, hb⟩
         have HBc := Lib.hid (below_via (w := w8) hb (by repeat (first | exact HBc.out | refine Below.drew ?_ | refine Below.al ?_ _)))
         have k2 := (HBc.out.cell (p := ⟨bt, 2, none⟩) lt8).trans t2
         have m2 := (HBc.out.cell (p := ⟨g, 2, none⟩) lg).trans l2
         obtain ⟨_, _, _, _, _, fg', _⟩ := own_head (O8.out.below HBc.out) hn0
         clear hb))
    all_goals
      go_wp2_with fail
      go_meet
      exact Lib.hid ⟨below_set2 (below_ahead2 B8.out HBT.out HBc.out) HBT.out (by omega) _ _, (Below.heap_setCell _ ⟨g, 2, none⟩ _ bt (by show bt ≠ g; omega)).trans (zblk HBc.out T8.out), own_set_amt (O8.out.below HBc.out) nm, (Below.heap_setCell _ ⟨g, 2, none⟩ _ bp (by show bp ≠ g; omega)).trans (zblk HBc.out P8.out)⟩
  case rest =>
  obtain ⟨hb9, ht9, ho9, hp9⟩ := hcut.out
  have B9 := Lib.hid hb9
  have T9 := Lib.hid ht9
  have O9 := Lib.hid (show OwnL (bt + 1) wc (.slice (some ⟨g, 0, none⟩) n k1) ((a0, cu0, nm) :: r) from ho9)
  have P9 := Lib.hid hp9
  have lt10 : bt < wc.heap.size := block_lt_of_row ht9
  have lp10 : bp < wc.heap.size := block_lt_of_row hp9
  clear hb9 ht9 ho9 hp9 hcut CSB T8 P8 O8 B8
  obtain ⟨⟨t0, t1, t2⟩, _⟩ := cells3 T9.out
  obtain ⟨⟨p0, p1, p2⟩, _⟩ := cells3 P9.out
  have hlk : ((a0, cu0, nm) :: r).length ≤ 1000 := by have := HLN.out; simp only [List.length_cons] at this ⊢; omega
  have hne : some bt ≠ some g := fun e => by have := Option.some.inj e; omega
  have hBw : bt + 1 ≤ wc.heap.size := lt10
  go_upto_region 10 with (first | (refine wpList_append_l rfl (.tmp 67) (.tmp 69) rfl (bt + 1) (.slice (some ⟨g, 0, none⟩) n k1) _ wc (a0, cu0, cc) rfl O9.out rfl hBw hlk ?_; intro v' w10 ho4 hg4; obtain ⟨A4, n4, k4, rfl⟩ := ho4.slice; have hT4 := (hg4.block bt lt10 hne).trans T9.out; obtain ⟨⟨u0, u1, u2⟩, m0, m1, m2⟩ := cells3 hT4) | fail)
  have B11 := Lib.hid (below_set2 (below_grown B9.out (by rw [HBT.out]; exact Nat.le_refl _) hg4 (show bt ≤ g by omega)) HBT.out (Nat.le_refl bt) 2 (.slice A4 n4 k4))
  have T11 := Lib.hid (set2 hT4 (.slice A4 n4 k4))
  have hcf := cutT_fit HF.out HROT.out (cut := cut) (by omega)
  have hcs := cutT_sml HF.out HROT.out (cut := cut) (by omega)
  have eT : (a0, cu0, nm) :: r ++ [(a0, cu0, cc)] = cutT (a0, cu0, am0) r cut := by rw [← HNM.out, ← HCC.out]; rfl
  rw [eT] at ho4
  obtain ⟨T, hTq⟩ : ∃ T, cutT (a0, cu0, am0) r cut = T := ⟨_, rfl⟩
  obtain ⟨hN1, hN2, hN3⟩ := HV.out.cut HROT.out cut
  rw [hTq] at ho4 hcf hcs hN1 hN2 hN3
  have hTlen : T.length ≤ 1000 := by
    rw [← hTq]
    have h1 := HLN.out
    have h2 := HF.out.len
    have h3 := HL.out.len
    simp only [cutT, List.length_cons, List.length_append, List.length_nil] at h1 ⊢
    omega
  have hn4 : n4 = T.length := by
    obtain ⟨A', c', e, _⟩ := Row.Own.rds (R := rowL) (show rowL.Own (bt + 1) w10 (.slice A4 n4 k4) T from ho4)
    injection e
  have LT := Lib.hid (own_lns (Row.Own.kept (R := rowL) (show rowL.Own (bt + 1) w10 (.slice A4 n4 k4) T from ho4) (grown_setCell w10 ⟨bt, 2, none⟩ (.slice A4 n4 k4)) (fun q e => by have := Option.some.inj e; simp only at this; omega)) (by omega) hcs)
  have hcz : cz.length ≤ maxLen := by have := HF.out.cause; unfold maxLen; omega
  have CNX := Lib.hid (show ∀ W, Below w.heap.size w W → Calls Tryz.prog 21 #[.agg #[.int .i64 d, .string ⟨cz.toArray⟩, .slice A n c]] W (EnQ d cz l 0 W) from fun W h => by
    have q := (Nrm_any d cz A n c l W (HL.out.below h) hcz (fun x hx => Nat.le_trans (HF.out.ln x hx).2.2 (by decide)) (HT.out.below h) (HM.out.below h)).mono fun _ _ => nrm_enq
    rw [show nrmY d cz l = (d, cz, nrmL l) from if_pos (nrmI_iff.2 HV.out.nrd), nrmI_iff.2 HV.out.nrd, HV.out.nrm] at q
    exact q)
  have CNT := Lib.hid (show ∀ W, Below w.heap.size w W → Lns W A4 n4 k4 T → Calls Tryz.prog 21 #[.agg #[.int .i64 d, .string ⟨cz.toArray⟩, .slice A4 n4 k4]] W (EnQ d cz l 0 W) from fun W h hL => by
    have q := (Nrm_any d cz A4 n4 k4 T W hL hcz (fun x hx => Nat.le_trans (hcf x hx).2.2 (by decide)) (HT.out.below h) (HM.out.below h)).mono fun _ _ => nrm_enq
    rw [show nrmY d cz T = (d, cz, nrmL T) from if_pos (nrmI_iff.2 hN1), nrmI_iff.2 hN1, hN2] at q
    exact q)
  have CCK := Lib.hid (show ∀ W A1 n1 k1, Below w.heap.size w W → Lns W A1 n1 k1 l → Calls Tryz.prog 24 #[.agg #[.int .i64 d, .string ⟨cz.toArray⟩, .slice A1 n1 k1]] W (IntPost 0 W) from fun W A1 n1 k1 h hL => by
    have q := Chk_any d cz A1 n1 k1 l W hL hcz (HT.out.below h) (HM.out.below h)
    rw [chkE_iff.2 HV.out] at q
    exact q)
  have CAX := Lib.hid (show ∀ W (y : Ln), y ∈ l → Below w.heap.size w W → Calls Tryz.prog 26 #[.agg #[.int .i64 d, .string ⟨cz.toArray⟩, .slice A n c], .string ⟨y.1.toArray⟩, .string ⟨y.2.1.toArray⟩] W (StrPost y.2.2 W) from fun W y hy h => by
    have q := Amount_any d cz A n c l y.1 y.2.1 W (HL.out.below h) (HT.out.below h)
    rw [show ((y.1, y.2.1) : Ky) = key y from rfl, HV.out.amt hy] at q
    exact q)
  have CAT := Lib.hid (show ∀ W (y : Ln), y ∈ l → Below w.heap.size w W → Lns W A4 n4 k4 T → Calls Tryz.prog 26 #[.agg #[.int .i64 d, .string ⟨cz.toArray⟩, .slice A4 n4 k4], .string ⟨y.1.toArray⟩, .string ⟨y.2.1.toArray⟩] W (StrPost y.2.2 W) from fun W y hy h hL => by
    have q := Amount_any d cz A4 n4 k4 T y.1 y.2.1 W hL (HT.out.below h)
    rw [show ((y.1, y.2.1) : Ky) = key y from rfl, hN3, HV.out.amt hy] at q
    exact q)
  have HBAL := Lib.hid (balB_iff.1 HV.out.bal)
  clear hcf hcs eT hTq hN1 hN2 hN3 hTlen hn4 hlk hne hBw hT4 ho4 hg4 u0 u1 u2 m0 m1 m2 t0 t1 t2 p0 p1 p2 lt10 lp10 O9 P9 T9 B9 HNM HCC HROT HLN hx13 hcz
  generalize w10.setCell ⟨bt, 2, none⟩ (.slice A4 n4 k4) = w11 at *
  obtain ⟨x0, x1, x2⟩ := TOX.out _ B11.out
  go_wp2_with fail
  clear x0 x1 x2
  refine (CNX.out _ (TOW.out _ B11.out)).mono ?_
  rintro e w12 ⟨A5, n5, k5, rfl, hL, hb⟩
  have B12 := Lib.hid (below_ahead2 B11.out HBT.out hb)
  have T12 := Lib.hid (zblk hb T11.out)
  have LT12 := Lib.hid (LT.out.below hb)
  have U13 := Lib.hid (Bx.new (d := d) (s := cz) hL)
  have T13 := Lib.hid ((heap_alloc_old w12 (.cells #[.int .i64 d, .string ⟨cz.toArray⟩, .slice A5 n5 k5] 32) (block_lt_of_row T12.out)).trans T12.out)
  have LT13 := Lib.hid (LT12.out.below (Below.al (Below.refl _ _) (.cells #[.int .i64 d, .string ⟨cz.toArray⟩, .slice A5 n5 k5] 32)))
  have B13 := Lib.hid (below_al2 B12.out HBT.out (.cells #[.int .i64 d, .string ⟨cz.toArray⟩, .slice A5 n5 k5] 32))
  clear hb hL T11 B11 LT CNX T12 LT12
  go_upto_region 11 with fail
  clear B12
  generalize w12.alloc (.cells #[.int .i64 d, .string ⟨cz.toArray⟩, .slice A5 n5 k5] 32) = w13 at *
  generalize w12.heap.size = bu at *
  obtain ⟨⟨t0, t1, t2⟩, _⟩ := cells3 T13.out
  go_wp2_with fail
  clear t0 t1 t2
  refine (CNT.out _ (TOW.out _ B13.out) LT13.out).mono ?_
  rintro e w14 ⟨A6, n6, k6, rfl, hL, hb⟩
  have B14 := Lib.hid (below_ahead2 B13.out HBT.out hb)
  have T14 := Lib.hid (zblk hb T13.out)
  have LT14 := Lib.hid (LT13.out.below hb)
  have U14 := Lib.hid (U13.out.below hb)
  have V15 := Lib.hid (Bx.new (d := d) (s := cz) hL)
  have U15 := Lib.hid (U14.out.al (.cells #[.int .i64 d, .string ⟨cz.toArray⟩, .slice A6 n6 k6] 32))
  have T15 := Lib.hid ((heap_alloc_old w14 (.cells #[.int .i64 d, .string ⟨cz.toArray⟩, .slice A6 n6 k6] 32) (block_lt_of_row T14.out)).trans T14.out)
  have LT15 := Lib.hid (LT14.out.below (Below.al (Below.refl _ _) (.cells #[.int .i64 d, .string ⟨cz.toArray⟩, .slice A6 n6 k6] 32)))
  have B15 := Lib.hid (below_al2 B14.out HBT.out (.cells #[.int .i64 d, .string ⟨cz.toArray⟩, .slice A6 n6 k6] 32))
  clear hb hL T13 B13 LT13 CNT T14 LT14 U13 U14
  go_upto_region 12 with fail
  clear B14
  generalize w14.alloc (.cells #[.int .i64 d, .string ⟨cz.toArray⟩, .slice A6 n6 k6] 32) = w15 at *
  generalize w14.heap.size = bv at *
  have hB17 := below_al2 (below_al2 B15.out HBT.out (.cells #[.int .i64 d, .string ⟨cz.toArray⟩, .slice A5 n5 k5, .int .i64 d, .string ⟨cz.toArray⟩, .slice A6 n6 k6] 32)) HBT.out (.cells #[.int .i64 d, .string ⟨cz.toArray⟩, .slice A n c, .int .i64 d, .string ⟨cz.toArray⟩, .slice A n c] 32)
  have hb1a := Below.al (Below.al (Below.refl _ w15) (.cells #[.int .i64 d, .string ⟨cz.toArray⟩, .slice A5 n5 k5, .int .i64 d, .string ⟨cz.toArray⟩, .slice A6 n6 k6] 32)) (.cells #[.int .i64 d, .string ⟨cz.toArray⟩, .slice A n c, .int .i64 d, .string ⟨cz.toArray⟩, .slice A n c] 32)
  have hE1 : Ens ((w15.alloc (.cells #[.int .i64 d, .string ⟨cz.toArray⟩, .slice A5 n5 k5, .int .i64 d, .string ⟨cz.toArray⟩, .slice A6 n6 k6] 32)).alloc (.cells #[.int .i64 d, .string ⟨cz.toArray⟩, .slice A n c, .int .i64 d, .string ⟨cz.toArray⟩, .slice A n c] 32)) (some ⟨w15.heap.size, 0, none⟩) 2 2 [(d, cz, l), (d, cz, l)] :=
    ens_block [((d, cz, A5, n5, k5), (d, cz, l)), ((d, cz, A6, n6, k6), (d, cz, l))] (zA w15 (.cells #[.int .i64 d, .string ⟨cz.toArray⟩, .slice A5 n5 k5, .int .i64 d, .string ⟨cz.toArray⟩, .slice A6 n6 k6] 32) (.cells #[.int .i64 d, .string ⟨cz.toArray⟩, .slice A n c, .int .i64 d, .string ⟨cz.toArray⟩, .slice A n c] 32)) rfl (by show 2 ≤ 1000; decide) (by
      intro p hp
      simp only [List.mem_cons, List.not_mem_nil, or_false] at hp
      rcases hp with rfl | rfl
      · exact ⟨rfl, rfl, U15.out.lns.below hb1a⟩
      · exact ⟨rfl, rfl, V15.out.lns.below hb1a⟩)
  have hE2 : Ens ((w15.alloc (.cells #[.int .i64 d, .string ⟨cz.toArray⟩, .slice A5 n5 k5, .int .i64 d, .string ⟨cz.toArray⟩, .slice A6 n6 k6] 32)).alloc (.cells #[.int .i64 d, .string ⟨cz.toArray⟩, .slice A n c, .int .i64 d, .string ⟨cz.toArray⟩, .slice A n c] 32)) (some ⟨w15.heap.size + 1, 0, none⟩) 2 2 [(d, cz, l), (d, cz, l)] :=
    ens_block [((d, cz, A, n, c), (d, cz, l)), ((d, cz, A, n, c), (d, cz, l))] (zB w15 (.cells #[.int .i64 d, .string ⟨cz.toArray⟩, .slice A5 n5 k5, .int .i64 d, .string ⟨cz.toArray⟩, .slice A6 n6 k6] 32) (.cells #[.int .i64 d, .string ⟨cz.toArray⟩, .slice A n c, .int .i64 d, .string ⟨cz.toArray⟩, .slice A n c] 32)) rfl (by show 2 ≤ 1000; decide) (by
      intro p hp
      simp only [List.mem_cons, List.not_mem_nil, or_false] at hp
      rcases hp with rfl | rfl
      · exact ⟨rfl, rfl, HL.out.below (TOW.out _ hB17)⟩
      · exact ⟨rfl, rfl, HL.out.below (TOW.out _ hB17)⟩)
  have hS := Same_any _ _ _ _ _ _ _ _ _ hE1 hE2
  rw [decide_eq_true rfl] at hS
  have HS := Lib.hid hS
  have B17 := Lib.hid hB17
  have T17 := Lib.hid ((hb1a.block bt (block_lt_of_row T15.out)).trans T15.out)
  have LT17 := Lib.hid (LT15.out.below hb1a)
  have V17 := Lib.hid (V15.out.below hb1a)
  obtain ⟨u0, u1, u2, _⟩ := U15.out
  obtain ⟨v0, v1, v2, _⟩ := V15.out
  obtain ⟨x0, x1, x2⟩ := TOX.out _ B15.out
  have lx : w.heap.size < w15.heap.size := (TOX.out _ B15.out).lt
  clear hB17 hb1a hE1 hE2 hS T15 LT15 U15 V15 B15
  go_wp2_with fail
  refine HS.out.mono ?_
  rintro e w18 ⟨rfl, hb⟩
  have B18 := Lib.hid (below_ahead2 B17.out HBT.out hb)
  have T18 := Lib.hid (zblk hb T17.out)
  have LT18 := Lib.hid (LT17.out.below hb)
  have V18 := Lib.hid (V17.out.below hb)
  clear hb HS B17 T17 LT17 V17 u0 u1 u2 v0 v1 v2 x0 x1 x2 lx
  obtain ⟨v0, v1, v2, hLv⟩ := V18.out
  have HLv := Lib.hid hLv
  clear hLv
  go_wp2_with fail
  clear v0 v1 v2
  refine (CCK.out _ _ _ _ (TOW.out _ B18.out) HLv.out).mono ?_
  rintro e w19 ⟨rfl, hb⟩
  have B19 := Lib.hid (below_ahead2 B18.out HBT.out hb)
  have T19 := Lib.hid (zblk hb T18.out)
  have LT19 := Lib.hid (LT18.out.below hb)
  clear hb B18 T18 LT18 V18 HLv CCK
  obtain ⟨x0, x1, x2⟩ := TOX.out _ B19.out
  go_wp2_with fail
  clear x0 x1 x2
  obtain ⟨cf, hcf⟩ : ∃ cf, (l.getD 0 ln0).2.1 = cf := ⟨_, rfl⟩
  have S0 := Lib.hid (show sumC l cf 0 = [] from sumC_zero l cf)
  have HCF := Lib.hid hcf
  have HSN := Lib.hid (show sumC l cf n = [] by unfold sumC; rw [List.take_of_length_le (by rw [HL.out.len]; exact Nat.le_refl _), HBAL.out]; exact txt_zero)
  have HSL := Lib.hid (fun k => (show (sumC l cf k).length ≤ 120 from by
    have h1 := curT_13 (l.take k) (fun x hx => (HF.out.ln x (List.mem_of_mem_take hx)).2.2) cf
    have h2 : (l.take k).length ≤ 66 := by rw [List.length_take]; have := HF.out.len; omega
    have h3 : (l.take k).length * num13 ≤ 66 * num13 := Nat.mul_le_mul_right _ h2
    have h4 : 66 * num13 < 10 ^ 17 := by decide
    have h5 := txt_bd (v := curT (l.take k) cf) (k := 17) (by omega)
    unfold sumC
    omega))
  clear hcf
  go_loopw [106, 16, 14] (fun i _ s wr => ∃ k : Nat, k ≤ n ∧ i = .int .i64 (k : Int) ∧ s = .string ⟨(sumC l cf k).toArray⟩ ∧ Hid (Below w19.heap.size w19 wr)) (fun i _ _ _ => n - (intOf i).toNat)
  case atStart => exact ⟨0, by omega, rfl, by rw [S0.out], Lib.hid (Below.refl _ _)⟩
  case round =>
    obtain ⟨k, hk, rfl, rfl, HB⟩ := hrel
    have Br := Lib.hid (below_ahead2 B19.out HBT.out HB.out)
    by_cases hlt : k < n
    · obtain ⟨b1, o1, rfl, hb1, hc1⟩ := HL.out.at_ (by omega)
      obtain ⟨q0, q1, q2⟩ := hc1 k hlt
      have hf0 := (hc1 0 hn0).2.1
      rw [Nat.zero_mul, Nat.add_zero, HCF.out] at hf0
      have HBw := TOW.out _ Br.out
      have r0 := (HBw.cell (p := ⟨b1, o1 + k * 3, none⟩) hb1).trans q0
      have r1 := (HBw.cell (p := ⟨b1, o1 + k * 3 + 1, none⟩) hb1).trans q1
      have r2 := (HBw.cell (p := ⟨b1, o1 + k * 3 + 2, none⟩) hb1).trans q2
      have hki : (k : Int) < (n : Int) := by omega
      have hmem := lnAt_mem l k (by rw [HL.out.len]; exact hlt)
      have CA := Lib.hid (fun W h => CAX.out W _ hmem h)
      have CT := Lib.hid (fun W h hL => CAT.out W _ hmem h hL)
      have HNX := Lib.hid (sumC_next l cf k (by rw [HL.out.len]; exact hlt))
      have h13 := (HF.out.ln _ hmem).2.2
      have HSk := Lib.hid (HSL.out k)
      have Tr := Lib.hid (zblk HB.out T19.out)
      have LTr := Lib.hid (LT19.out.below HB.out)
      have HF0 := Lib.hid (show ∀ W, Below w.heap.size w W → W.cell? ⟨b1, o1 + 1, none⟩ = some (.string ⟨cf.toArray⟩) from fun W h => (h.cell (p := ⟨b1, o1 + 1, none⟩) hb1).trans hf0)
      clear q0 q1 q2 hc1 hmem hf0 HBw
      generalize l.getD k ln0 = y at *
      obtain ⟨a, cu, am⟩ := y
      simp only at r0 r1 r2 CA CT HNX h13
      have Ba := Lib.hid (below_al2 Br.out HBT.out (.cells #[.string ⟨a.toArray⟩, .string ⟨cu.toArray⟩, .string ⟨am.toArray⟩] 45))
      have Bl := Lib.hid (Below.al HB.out (.cells #[.string ⟨a.toArray⟩, .string ⟨cu.toArray⟩, .string ⟨am.toArray⟩] 45))
      have La := Lib.hid (heap_alloc_new wr (.cells #[.string ⟨a.toArray⟩, .string ⟨cu.toArray⟩, .string ⟨am.toArray⟩] 45))
      have Ta := Lib.hid ((heap_alloc_old wr (.cells #[.string ⟨a.toArray⟩, .string ⟨cu.toArray⟩, .string ⟨am.toArray⟩] 45) (block_lt_of_row Tr.out)).trans Tr.out)
      have LTa := Lib.hid (LTr.out.below (Below.al (Below.refl _ _) (.cells #[.string ⟨a.toArray⟩, .string ⟨cu.toArray⟩, .string ⟨am.toArray⟩] 45)))
      go_upto_region 18 with fail
      clear r0 r1 r2 Tr LTr
      generalize wr.alloc (.cells #[.string ⟨a.toArray⟩, .string ⟨cu.toArray⟩, .string ⟨am.toArray⟩] 45) = wa at *
      generalize wr.heap.size = bw at *
      have HSC := Lib.hid (fun W (h : Below wa.heap.size wa W) => (show (W.cell? ⟨w.heap.size, 0, none⟩ = some (.int .i64 d) ∧ W.cell? ⟨w.heap.size, 1, none⟩ = some (.string ⟨cz.toArray⟩) ∧ W.cell? ⟨w.heap.size, 2, none⟩ = some (.slice (some ⟨b1, o1, none⟩) n c)) ∧ (W.cell? ⟨bt, 0, none⟩ = some (.int .i64 d) ∧ W.cell? ⟨bt, 1, none⟩ = some (.string ⟨cz.toArray⟩) ∧ W.cell? ⟨bt, 2, none⟩ = some (.slice A4 n4 k4)) ∧ (W.cell? ⟨bw, 0, none⟩ = some (.string ⟨a.toArray⟩) ∧ W.cell? ⟨bw, 1, none⟩ = some (.string ⟨cu.toArray⟩) ∧ W.cell? ⟨bw, 2, none⟩ = some (.string ⟨am.toArray⟩)) from ⟨(have q := TOX.out _ (below_ahead2 Ba.out HBT.out h); ⟨q.c0, q.c1, q.c2⟩), (cells3 (zblk h Ta.out)).1, (cells3 (zblk h La.out)).1⟩))
      have HBc := Lib.hid (Below.refl wa.heap.size wa)
      go_region_held3 (fun W => (W.cell? ⟨w.heap.size, 0, none⟩ = some (.int .i64 d) ∧ W.cell? ⟨w.heap.size, 1, none⟩ = some (.string ⟨cz.toArray⟩) ∧ W.cell? ⟨w.heap.size, 2, none⟩ = some (.slice (some ⟨b1, o1, none⟩) n c)) ∧ (W.cell? ⟨bt, 0, none⟩ = some (.int .i64 d) ∧ W.cell? ⟨bt, 1, none⟩ = some (.string ⟨cz.toArray⟩) ∧ W.cell? ⟨bt, 2, none⟩ = some (.slice A4 n4 k4)) ∧ (W.cell? ⟨bw, 0, none⟩ = some (.string ⟨a.toArray⟩) ∧ W.cell? ⟨bw, 1, none⟩ = some (.string ⟨cu.toArray⟩) ∧ W.cell? ⟨bw, 2, none⟩ = some (.string ⟨am.toArray⟩)))
        (first | (refine HSC.out _ ?_; repeat (first | exact HBc.out | refine Below.drew ?_ | refine Below.al ?_ _)))
        (first
          | (go_at_call 26; with_reducible refine (CA.out _ ?_).mono ?_
             · refine TOW.out _ (below_ahead2 Ba.out HBT.out ?_)
               repeat (first | exact HBc.out | refine Below.drew ?_ | refine Below.al ?_ _)
             rintro e w' ⟨rfl, hb⟩
             have HBc := Lib.hid (below_via (w := wa) hb (by repeat (first | exact HBc.out | refine Below.drew ?_ | refine Below.al ?_ _)))
             clear hb)
          | (go_at_call 26; with_reducible refine (CT.out _ ?_ ?_).mono ?_
             · refine TOW.out _ (below_ahead2 Ba.out HBT.out ?_)
               repeat (first | exact HBc.out | refine Below.drew ?_ | refine Below.al ?_ _)
             · refine LTa.out.below ?_
               repeat (first | exact HBc.out | refine Below.drew ?_ | refine Below.al ?_ _)
             rintro e w' ⟨rfl, hb⟩
             have HBc := Lib.hid (below_via (w := wa) hb (by repeat (first | exact HBc.out | refine Below.drew ?_ | refine Below.al ?_ _)))
             clear hb))
      all_goals
        obtain ⟨⟨x0, x1, x2⟩, _, ⟨q0, q1, q2⟩⟩ := HSC.out _ HBc.out
        have hBf := below_ahead2 Ba.out HBT.out HBc.out
        have y1 := HF0.out _ (TOW.out _ hBf)
        have HBf := Lib.hid (below_ahead Bl.out HBc.out)
        have HBd := Lib.hid hBf
        have hB8 := Lib.hid (fun nq => (show Below w19.heap.size w19 (w'.drewN nq) from Below.drN HBf.out nq))
        have hB9 := Lib.hid (fun nq => (show Below w.heap.size w (w'.drewN nq) from Below.drN (TOW.out _ HBd.out) nq))
        have lbx := block_lt_of_cell x0
        have lby := block_lt_of_cell y1
        have lbq := block_lt_of_cell q0
        clear hBf HSC HBc CA CT Ta LTa La Ba Bl HF0
        by_cases hcu : cu = cf
        · subst hcu
          have e := HNX.out
          rw [if_pos rfl] at e
          have HA := Lib.hid (fun nq => Add_any ⟨(sumC l cu k).toArray⟩ ⟨am.toArray⟩ (w'.drewN nq) (by show (sumC l cu k).toArray.size ≤ 120; rw [List.size_toArray]; exact HSk.out) (by show am.toArray.size ≤ 120; rw [List.size_toArray]; omega) (HT.out.below (hB9.out nq)))
          have HA2 := Lib.hid (fun nq => (show Calls Tryz.prog 38 #[.string ⟨(sumC l cu k).toArray⟩, .string ⟨am.toArray⟩] (w'.drewN nq) (StrPost (sumC l cu (k + 1)) (w'.drewN nq)) by rw [e]; exact HA.out nq))
          clear e HNX HA
          go_wp2_with fail
          go_quiet (fail)
          go_wp2_with fail
          refine (HA2.out _).mono ?_
          rintro e w20 ⟨rfl, hb⟩
          have HBz := Lib.hid (below_ahead (hB8.out _) hb)
          clear hb x0 x1 x2 q0 q1 q2 y1
          go_wp2_with fail
          go_roundw
          case rel => exact ⟨k + 1, by omega, by go_num, rfl, HBz⟩
          case measure => simp [intOf]; omega
        · have hcb : (cu == cf) = false := beq_eq_false_iff_ne.2 hcu
          have e := HNX.out
          rw [if_neg hcu] at e
          have HE := Lib.hid e
          clear e HNX
          go_wp2_with fail
          go_quiet (fail)
          go_wp2_with fail
          clear x0 x1 x2 q0 q1 q2 y1
          go_roundw
          case rel => exact ⟨k + 1, by omega, by go_num, by rw [HE.out], Lib.hid (hB8.out _)⟩
          case measure => simp [intOf]; omega
    · have hkn : k = n := by omega
      subst hkn
      have hki : ¬ (k : Int) < (k : Int) := by omega
      rw [HSN.out]
      have HBw := Lib.hid (TOW.out _ Br.out)
      go_wp2_with fail
      refine (HW.out _ HBw.out).mono ?_
      rintro e w21 ⟨rfl, hb⟩
      have B21 := Lib.hid (below_next HBw.out hb ⟨rfl, rfl, rfl, rfl⟩)
      clear hb
      go_wp2_with fail
      exact HP.out _ B21.out
theorem u8_rng {a : Int} (h : (Lit.int .u8 a).wf = true) : 0 ≤ a ∧ a ≤ 255 := by
  simp only [Lit.wf, Bool.and_eq_true, decide_eq_true_eq] at h
  have h1 : IntKind.min .u8 = 0 := by decide
  have h2 : IntKind.max .u8 = 255 := by decide
  omega
theorem normal_row (d : Int) (cz : List UInt8) (A : Option Addr) (n c : Nat) (l : List Ln) (by_ : Int) (cut : ByteArray) (w : World) (hr : rowL.Rds w A n c l) (hby : (Lit.int .u8 by_).wf = true) (ht : Tab w) (hm : ML w) :
    Calls Tryz.prog 9 #[.agg (enV d cz A n c), .int .u8 by_, .string cut] w (BoolPost true w) :=
  normal_all d cz A n c l by_ cut.data.toList w hr (u8_rng hby) ht hm
end Go.Proofs.YtdnomfekblmnbaaGreatDoor

/- EntryNormal: for every entry, every number of eight bits and every string the call of tranchelaw35.EntryNormal returns true, and its arguments read as before. The card ties the variables of Go's library that it lists; the seat is a pruned copy: of packages left out the card says nothing. -/
namespace Go.Proofs.YtdnomfekblmnbaaGreatDoor.entryNormal
open Go.ChangeShapes Go.WideShapes Go.ChangeAt Go.RowKit
open Go.ChangeMaps (open_string shut_string)
set_option linter.unusedVariables false

set_option maxRecDepth 100000 in
theorem lifted (os : Os) (started : os.Started) (H : Type) (enc : TypeId × Value → H) :
    ReturnsInHanded {} Tryz.checked os 9 .any (fun w args => (Rows.entryNormalSpec.pre enc Tryz.prog Tryz.f9 [] false w args ∧ laidMetH Tryz.prog Rows.entryNormalRow.laid w) ∧ sizedMet enc Tryz.prog Tryz.f9 (OpenSpec.ofChange Rows.entryNormalSpec) false w args)
      (Rows.entryNormalSpec.post enc Tryz.prog Tryz.f9 false true false false) := by
  refine handed_both (C := Tryz.checked) (X := fun w _ => laidMetH Tryz.prog Rows.entryNormalRow.laid w) (fun _ _ _ hh h => h.of_heap hh) own started (by kernel_rfl) Tryz.func9
    (ChangeSpec.witness_shaped (enc := enc) (C := Tryz.checked) (os := os) (X := fun w _ => laidMetH Tryz.prog Rows.entryNormalRow.laid w) false (World.laidAll Tryz.prog os Rows.entryNormalRow.laid) #[.agg #[.int .i64 0, .string ByteArray.empty, .slice none 0 0], .int .u8 0, .string ByteArray.empty] 8 (World.laidAll_os _ _ _)
      (World.shaped_of_ZipB (by kernel_rfl) (by kernel_rfl)) (by kernel_rfl) (by kernel_rfl) (by kernel_rfl)
      (by rw [MakeChecks.laidMetH_plain _ _ _ (by kernel_rfl)]; exact laidMet_laidAll _ (by kernel_rfl) (by kernel_rfl))) ?_
  intro W base args ds gs before hval0 hW hL hsh
  have hval : ∀ (j : Nat) t v, Tryz.f9.params[j]? = some t → args[j]? = some v → Value.okWide Tryz.prog W .any base t v := hval0
  have hW' := hW
  obtain ⟨p, q, hA0, hV, rfl, hfz, hnd⟩ := hW
  have hA : DataW.TrodAll enc Tryz.prog W 0 (fun _ => true) true Tryz.f9.params.toList args.toList ds p := hA0
  rw [Tryz.params9] at hA hval
  obtain ⟨v0, vs0, d0, ds0, p0, q0, hargs, rfl, rfl, h0, r0⟩ := trodAll_cons hA
  obtain ⟨v1, vs1, d1, ds1, p1, q1, rfl, rfl, rfl, h1, r1⟩ := trodAll_cons r0
  obtain ⟨v2, vs2, d2, ds2, p2, q2, rfl, rfl, rfl, h2, r2⟩ := trodAll_cons r1
  obtain ⟨rfl, rfl, rfl⟩ := trodAll_nil r2
  obtain rfl : args = #[v0, v1, v2] := by cases args; simp_all
  obtain ⟨rfl, rfl⟩ := trodVars_none hV
  obtain ⟨t0, z0, A0, n0, c0, l0, rfl, s0⟩ := arg_entry (hval 0 32 v0 rfl rfl) h0
  obtain ⟨a1, rfl, rfl, rfl, w1⟩ := open_int Tryz.underlying5 (hval 1 5 v1 rfl rfl) h1
  obtain ⟨a2, rfl, rfl, rfl, w2⟩ := open_string Tryz.underlying40 (hval 2 40 v2 rfl rfl) h2
  clear hA0 hval0
  refine (normal_row t0 z0 A0 n0 c0 l0 a1 a2 W s0 w1 (tab_of hL) (ml_of hsh)).mono fun e W' ⟨he, hg⟩ => ?_
  subst he
  exact ⟨_, rfl, post_true (tb := 4) hW' rfl laid (by kernel_rfl) rfl Tryz.underlying4 ⟨rfl, rfl, rfl⟩ hg⟩

theorem over : Rows.EntryNormalSaid :=
  OpenClaim.holds_of_wide 9 Tryz.f9 rfl rfl rfl rfl rfl rfl rfl ⟨rfl, rfl, rfl, rfl, rfl⟩ rfl rfl rfl rfl rfl (by kernel_rfl) Tryz.func9 (by kernel_rfl)
    (of_decide_eq_true (by kernel_rfl)) (by unfold Func.isWrapper; first | (rw [if_pos (by decide +kernel)]; kernel_rfl) | (rw [if_neg (by decide +kernel)]; exact ⟨rfl, rfl⟩))
    (fun os started H enc _ => lifted os started H enc)

theorem plain (f : FuncId) (fn : Func) (hf : Tryz.pinned.checked.prog.funcNamed "tranche/tranchelaw35.EntryNormal" = some f) (hfn : Tryz.pinned.checked.prog.funcs[f]? = some fn) :
    true = Tryz.pinned.checked.prog.looks [] ∧ ∀ (j : Nat) t, fn.params[j]? = some t → Tryz.pinned.checked.prog.wantsStandIn t = false := by
  obtain rfl : f = 9 := Option.some.inj ((show Tryz.prog.funcNamed "tranche/tranchelaw35.EntryNormal" = some 9 by kernel_rfl).symm.trans hf) |>.symm
  obtain rfl : fn = Tryz.f9 := (Option.some.inj (Tryz.func9.symm.trans hfn)).symm
  refine ⟨by kernel_rfl, fun j t ht => ?_⟩
  rw [Tryz.params9] at ht
  have hm : t ∈ [32, 5, 40] := by simpa using Array.mem_of_getElem? ht
  have hall : (([32, 5, 40] : List TypeId).all fun u => !Tryz.prog.wantsStandIn u) = true := by kernel_rfl
  exact (show Tryz.prog.wantsStandIn t = false by simpa using List.all_eq_true.1 hall t hm)

theorem proved : Rows.EntryNormalCardSaid :=
  Claim7.holds_tied_plain_at .later [] _ _ _ _ over (fun _ h => by cases h) (by kernel_rfl) (fun _ h => by cases h) entryNormal_row_tie rfl ⟨rfl, rfl⟩ (by kernel_rfl) rfl plain (by kernel_rfl)
end Go.Proofs.YtdnomfekblmnbaaGreatDoor.entryNormal
