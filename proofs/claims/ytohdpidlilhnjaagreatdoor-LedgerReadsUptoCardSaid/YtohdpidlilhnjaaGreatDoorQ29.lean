/- Contract of the reference's Sort. -/
import Derived.Test.YtohdpidlilhnjaaGreatDoorQ7
import Derived.Test.YtohdpidlilhnjaaGreatDoorQ9
import Derived.Test.YtohdpidlilhnjaaGreatDoorQ10
import Derived.Test.YtohdpidlilhnjaaGreatDoorQ16
import Derived.Test.YtohdpidlilhnjaaGreatDoorQ11
import Derived.Test.YtohdpidlilhnjaaGreatDoorQ25
import Derived.Test.YtohdpidlilhnjaaGreatDoorQ12
import Derived.Test.YtohdpidlilhnjaaGreatDoorQ8
import Derived.Test.YtohdpidlilhnjaaGreatDoorQ15
import Derived.StillTailTactics
namespace Go.Proofs.YtohdpidlilhnjaaGreatDoor
open Go.RowKit Go.Maps Num

theorem own_below {α : Type} {R : Row α} {B : Nat} {w W W' : World} {v : Value} {l : List α} (h : R.Own B W v l) (hb : Below w.heap.size w W) (hB : w.heap.size ≤ B) (hg : W.grownBy W' v.ownBlock) : Below w.heap.size w W' :=
  below_own hb (Nat.le_refl _) hg fun k hk => Nat.le_trans hB (h.own k hk).1
theorem own_emptyE (B : Nat) (w : World) (hB : B ≤ w.heap.size) : rowE.Own B (w.alloc (.cells #[] 39)) (.slice (some ⟨w.heap.size, 0, none⟩) 0 0) [] :=
  ⟨rfl, .inr ⟨_, 0, #[], rfl, hB, heap_alloc_new w _, Nat.le_refl _, by unfold maxLen; omega, by simp, rfl⟩⟩
/-- the reference's comparison of two entries that lie in memory -/
theorem rcmp_re (p q : RE) (w : World) (hp : RdE w p) (hq : RdE w q) :
    Calls Tryz.prog 142 #[.agg (encE p).toArray, .agg (encE q).toArray] w fun e w' => e = .returned (.int .i64 (cE p q)) ∧ Below w.heap.size w w' := by
  obtain ⟨⟨d1, z1, A1, n1, c1⟩, e1, f1, k1⟩ := p
  obtain ⟨⟨d2, z2, A2, n2, c2⟩, e2, f2, k2⟩ := q
  obtain ⟨h1, h2, h3⟩ := hp
  obtain ⟨h4, h5, h6⟩ := hq
  simp only at h1 h2 h4 h5
  subst h1 h2 h4 h5
  exact rcmpE_any d1 d2 z1 z2 A1 A2 n1 c1 n2 c2 k1 k2 w h3 h6
def RSrtP (ps : List RE) (w : World) (e : Ending) (w' : World) : Prop := ∃ (v : Value) (qs : List RE), e = .returned v ∧ qs.Perm ps ∧ Srt cE qs ∧ rowE.Own w.heap.size w' v qs ∧ Below w.heap.size w w'
set_option maxRecDepth 100000 in
set_option maxHeartbeats 4000000 in
theorem rsort_any (A : Option Addr) (n c : Nat) (ps : List RE) (w : World) (hl : Res w A n c ps) (hn : n ≤ 1000) : Calls Tryz.prog 90 #[.slice A n c] w (RSrtP ps w) := by
  have hlen := hl.rds.len
  have HOE := Lib.hid (own_emptyE w.heap.size w (Nat.le_refl _))
  have HBE := Lib.hid ((Below.refl w.heap.size w).alloc (Nat.le_refl _) (.cells #[] 39))
  have HR8 := Lib.hid (hl.rds.below HBE.out)
  have HR := Lib.hid hl.all
  have HP := Lib.hid (fun W v qs (h1 : qs.Perm ps) (h2 : Srt cE qs) (h3 : rowE.Own w.heap.size W v qs) (h4 : Below w.heap.size w W) => (show RSrtP ps w (.returned v) W from ⟨v, qs, rfl, h1, h2, h3, h4⟩))
  clear hl
  generalize RSrtP ps w = Post at *
  go_enter Tryz.func90, Tryz.ntmps90
  go_wp2_with (at_builtin; go_must (refine Row.wp_append rowE_ok rfl (.tmp 6) (.tmp 7) rfl w.heap.size _ [] (w.alloc (.cells #[] 39)) A n c ps rfl HOE.out rfl HR8.out HBE.out.size (by simp; omega) ?_); intro v w1 hown1 hg1 _)
  rw [List.nil_append] at hown1
  have B1 := Lib.hid (own_below HOE.out HBE.out (Nat.le_refl _) hg1)
  clear HOE HBE HR8 hg1
  by_cases h0 : 0 < n
  case neg =>
    have hps : ps = [] := List.eq_nil_of_length_eq_zero (by omega)
    subst hps
    obtain ⟨A1, c1, rfl⟩ := hown1.slice
    have hq := Lib.hid (HP.out w1 _ [] (List.Perm.refl _) List.Pairwise.nil hown1 B1.out)
    clear hown1
    simp only [List.length_nil] at hq ⊢
    go_wp2_with fail
    refine wp_loop_rounds 1 ?_
    rw [rounds_succ]
    go_wp2_with fail
    exact hq.out
  obtain ⟨g, cap, rfl, hgB, hgs, _⟩ := hown1.pos (by omega)
  rw [hlen] at hown1 ⊢
  have HL := Lib.hid hlen
  have R0 := Lib.hid (show OutR w.heap.size w1 (.slice (some ⟨g, 0, none⟩) n cap) g ps 1 w1 from ⟨ps, List.Perm.refl _, fun p q h1 h2 => by omega, hown1, grown_refl w1 _⟩)
  have HBW := Lib.hid (fun W (h : w1.grownBy W (some g)) => below_own B1.out (Nat.le_refl _) h (fun q e => by cases e; exact hgB))
  clear hown1 hlen
  go_wp2_with fail
  go_loopw [4, 5] (fun i _ wr => ∃ k : Nat, 1 ≤ k ∧ k ≤ n ∧ i = .int .i64 (k : Int) ∧ Hid (OutR w.heap.size w1 (.slice (some ⟨g, 0, none⟩) n cap) g ps k wr)) (fun i _ _ => n - (intOf i).toNat)
  case atStart => exact ⟨1, by omega, by omega, rfl, R0⟩
  case round =>
    clear R0
    obtain ⟨k, hk1, hk2, rfl, hR⟩ := hrel
    by_cases hlt : k < n
    case neg =>
      have hki : decide ((k : Int) < (n : Int)) = false := by rw [decide_eq_false_iff_not]; omega
      obtain ⟨qs, q1, q2, q3, q4⟩ := hR.out
      have hq := Lib.hid (HP.out wr _ qs q1 (upto_srt q2 (by have := q1.length_eq; rw [HL.out] at this; omega)) q3 (HBW.out _ q4))
      clear q1 q2 q3 q4 hR
      go_wp2_with fail
      exact hq.out
    have hki : (k : Int) < (n : Int) := by omega
    obtain ⟨wo, hwo⟩ : ∃ wo, wo = wr := ⟨_, rfl⟩
    subst hwo
    go_wp2_with fail
    have I0 := Lib.hid (show InR w.heap.size w1 (.slice (some ⟨g, 0, none⟩) n cap) g ps k k wo by
      obtain ⟨qs, q1, q2, q3, q4⟩ := hR.out
      have := sink_start q2
      rw [show k - 1 + 1 = k by omega] at this
      exact ⟨qs, q1, this, q3, q4⟩)
    clear hR
    go_loopw [5] (fun j wr => ∃ q : Nat, q ≤ k ∧ j = .int .i64 (q : Int) ∧ Hid (InR w.heap.size w1 (.slice (some ⟨g, 0, none⟩) n cap) g ps k q wr)) (fun j _ => (intOf j).toNat)
    case atStart => exact ⟨k, Nat.le_refl _, rfl, I0⟩
    case round =>
      clear I0
      obtain ⟨q, hq, rfl, hI⟩ := hrel
      obtain ⟨qs, q1, q2, q3, q4⟩ := hI.out
      have hql := q1.length_eq
      rw [HL.out] at hql
      have Q1 := Lib.hid q1
      have Q2 := Lib.hid q2
      have Q3 := Lib.hid q3
      have Q4 := Lib.hid q4
      have HW := Lib.hid (HBW.out _ q4)
      have hgr : g < wr.heap.size := Nat.lt_of_lt_of_le hgs q4.size
      clear hI q1 q2 q3 q4
      by_cases hz : q = 0
      · subst hz
        have hzi : decide ((0 : Int) < ((0 : Nat) : Int)) = false := by decide
        have hU := Lib.hid (sink_zero Q2.out)
        go_wp2_with fail
        go_quiet (fail)
        have Q4' := Lib.hid (grown_below Q4.out (below_dr (Below.refl wr.heap.size wr) nq))
        have hO := Lib.hid (show OutR w.heap.size w1 (.slice (some ⟨g, 0, none⟩) n cap) g ps (k + 1) (wr.drewN nq) from ⟨qs, Q1.out, hU.out, Q3.out.dr nq, Q4'.out⟩)
        go_wp2_with fail
        exact ⟨⟨k + 1, by omega, by omega, by go_num, hO⟩, by simp [intOf]; omega⟩
      · obtain ⟨j, hj⟩ : ∃ j, q = j + 1 := ⟨q - 1, by omega⟩
        have hjn : j < n := by omega
        have hqn : q < n := by omega
        have hmx := getD_mem re0 qs q (by omega)
        have hmy := getD_mem re0 qs j (by omega)
        have hRx := (HR.out _ (Q1.out.mem_iff.1 hmx)).below HW.out
        have hRy := (HR.out _ (Q1.out.mem_iff.1 hmy)).below HW.out
        obtain ⟨r0, r1, r2⟩ := own_cells3 Q3.out q hqn
        obtain ⟨s0, s1, s2⟩ := own_cells3 Q3.out j hjn
        have hst := Lib.hid (fun h => sink_step (x0 := re0) (show Sink cE re0 qs (j + 1) k by rw [← hj]; exact Q2.out) (by omega) (by omega) h)
        have hsp := Lib.hid (fun h => sink_stop cE_cmp (x0 := re0) (show Sink cE re0 qs (j + 1) k by rw [← hj]; exact Q2.out) (by omega) h)
        rw [← hj] at hst hsp
        have hex := Lib.hid (show exch re0 qs j = (qs.set j (qs.getD q re0)).set q (qs.getD j re0) by rw [hj, List.set_comm _ _ (by omega)]; rfl)
        have hpm := Lib.hid (show (exch re0 qs j).Perm ps from (exch_perm qs j (by omega)).trans Q1.out)
        have ce := rcmp_re (qs.getD j re0) (qs.getD q re0) wr.drew (hRy.below (below_dr (Below.refl _ _) 1)) (hRx.below (below_dr (Below.refl _ _) 1))
        have hanti := cE_cmp.anti (qs.getD j re0) (qs.getD q re0)
        have hw : IntKind.i64.wrap ((q : Int) - 1) = (j : Int) := (IntWalk.i64_in _ (by omega)).trans (by omega)
        have hqi : (q : Int) < (n : Int) := by omega
        have hji : (j : Int) < (n : Int) := by omega
        have hq0 : 0 < q := by omega
        have hq0i : (0 : Int) < (q : Int) := by omega
        generalize hxe : qs.getD q re0 = x at *
        generalize hye : qs.getD j re0 = y at *
        rw [hanti] at hst hsp
        clear hanti
        obtain ⟨⟨d1, z1, A1, n1, c1⟩, x2⟩ := x
        obtain ⟨⟨d2, z2, A2, n2, c2⟩, y2⟩ := y
        simp only at r0 r1 r2 s0 s1 s2
        simp only [encE, rawA, rawN, rawC] at ce
        generalize cE ((d2, z2, A2, n2, c2), y2) ((d1, z1, A1, n1, c1), x2) = cv at *
        have CE := Lib.hid ce
        have HBr := Lib.hid (Below.refl wr.heap.size wr)
        have HS := Lib.hid (And.intro r0 (And.intro r1 (And.intro r2 (And.intro s0 (And.intro s1 s2)))))
        have hjh := Lib.hid hj
        clear ce hmx hmy hRx hRy hxe hye hj
        go_wp2_with fail
        go_region_held3 (fun w' => w'.cell? ⟨g, q * 3, none⟩ = some (.int .i64 d1) ∧ w'.cell? ⟨g, q * 3 + 1, none⟩ = some (.string ⟨z1.toArray⟩) ∧ w'.cell? ⟨g, q * 3 + 2, none⟩ = some (.slice A1 n1 c1) ∧ w'.cell? ⟨g, j * 3, none⟩ = some (.int .i64 d2) ∧ w'.cell? ⟨g, j * 3 + 1, none⟩ = some (.string ⟨z2.toArray⟩) ∧ w'.cell? ⟨g, j * 3 + 2, none⟩ = some (.slice A2 n2 c2))
          (first | exact ⟨f0, f1, f2, f3, f4, f5⟩ | exact ⟨r0, r1, r2, s0, s1, s2⟩ | go_keep)
          (first
            | (go_at_call 142; refine CE.out.mono ?_; rintro e w' ⟨rfl, hb⟩; have HBr := Lib.hid (below_next HBr.out hb ⟨rfl, rfl, rfl, rfl⟩); have f0 := (HBr.out.cell (p := ⟨g, q * 3, none⟩) hgr).trans HS.out.1; have f1 := (HBr.out.cell (p := ⟨g, q * 3 + 1, none⟩) hgr).trans HS.out.2.1; have f2 := (HBr.out.cell (p := ⟨g, q * 3 + 2, none⟩) hgr).trans HS.out.2.2.1; have f3 := (HBr.out.cell (p := ⟨g, j * 3, none⟩) hgr).trans HS.out.2.2.2.1; have f4 := (HBr.out.cell (p := ⟨g, j * 3 + 1, none⟩) hgr).trans HS.out.2.2.2.2.1; have f5 := (HBr.out.cell (p := ⟨g, j * 3 + 2, none⟩) hgr).trans HS.out.2.2.2.2.2; clear hb))
        have Q3' := Lib.hid (Q3.out.below HBr.out)
        have Q4' := Lib.hid (grown_below Q4.out HBr.out)
        by_cases hc : 0 < cv
        · have k0 := Q3'.out.frz (q * 3)
          have k1 := Q3'.out.frz (q * 3 + 1)
          have k2 := Q3'.out.frz (q * 3 + 2)
          have k3 := Q3'.out.frz (j * 3)
          have k4 := Q3'.out.frz (j * 3 + 1)
          have k5 := Q3'.out.frz (j * 3 + 2)
          have hSt := Lib.hid (hst.out (by omega))
          clear r0 r1 r2 s0 s1 s2 hst hsp
          have nn0 : q * 3 ≠ j * 3 + 1 := by omega
          have nn1 : q * 3 ≠ j * 3 + 2 := by omega
          have nn2 : q * 3 + 1 ≠ j * 3 := by omega
          have nn3 : q * 3 + 2 ≠ j * 3 := by omega
          have nn4 : q * 3 + 1 ≠ j * 3 + 2 := by omega
          have nn5 : q * 3 + 2 ≠ j * 3 + 1 := by omega
          have nn6 : q ≠ j := by have := hjh.out; omega
          have nn7 : q * 3 ≠ j * 3 := by have := hjh.out; omega
          have nn8 : j * 3 ≠ q * 3 + 1 := by omega
          have nn9 : j * 3 ≠ q * 3 + 2 := by omega
          have nn10 : j * 3 + 1 ≠ q * 3 := by omega
          have nn11 : j * 3 + 2 ≠ q * 3 := by omega
          have nn12 : j * 3 + 1 ≠ q * 3 + 2 := by omega
          have nn13 : j * 3 + 2 ≠ q * 3 + 1 := by omega
          have nn14 : j ≠ q := by have := hjh.out; omega
          have nn15 : j * 3 ≠ q * 3 := by have := hjh.out; omega
          go_wp2_with fail
          go_region
          clear k0 k1 k2 k3 k4 k5 f0 f1 f2 f3 f4 f5 nn0 nn1 nn2 nn3 nn4 nn5 nn6 nn7 nn8 nn9 nn10 nn11 nn12 nn13 nn14 nn15
          have hI := Lib.hid (show InR w.heap.size w1 (.slice (some ⟨g, 0, none⟩) n cap) g ps k j ((((((w'.setCell ⟨g, j * 3, none⟩ (.int .i64 d1)).setCell ⟨g, j * 3 + 1, none⟩ (.string ⟨z1.toArray⟩)).setCell ⟨g, j * 3 + 2, none⟩ (.slice A1 n1 c1)).setCell ⟨g, q * 3, none⟩ (.int .i64 d2)).setCell ⟨g, q * 3 + 1, none⟩ (.string ⟨z2.toArray⟩)).setCell ⟨g, q * 3 + 2, none⟩ (.slice A2 n2 c2)) by
            obtain ⟨o1, t1⟩ := Q3'.out.set3 rowE_ok.hk rfl j ((d1, z1, A1, n1, c1), x2) (.int .i64 d1) (.string ⟨z1.toArray⟩) (.slice A1 n1 c1) (by omega) rfl
            obtain ⟨o2, t2⟩ := o1.set3 rowE_ok.hk rfl q ((d2, z2, A2, n2, c2), y2) (.int .i64 d2) (.string ⟨z2.toArray⟩) (.slice A2 n2 c2) (by rw [List.length_set]; omega) rfl
            rw [← hex.out] at o2
            exact ⟨_, hpm.out, hSt.out, o2, grown_tr Q4'.out (grown_tr t1 t2)⟩)
          go_wp2_with fail
          exact ⟨⟨j, by have := hjh.out; omega, rfl, InR.dr hI⟩, by have := hjh.out; simp [intOf]; omega⟩
        · have hU := Lib.hid (hsp.out (by omega))
          have hO := Lib.hid (show OutR w.heap.size w1 (.slice (some ⟨g, 0, none⟩) n cap) g ps (k + 1) w' from ⟨qs, Q1.out, hU.out, Q3'.out, Q4'.out⟩)
          go_wp2_with fail
          exact ⟨⟨k + 1, by omega, by omega, by go_num, hO⟩, by simp [intOf]; omega⟩
end Go.Proofs.YtohdpidlilhnjaaGreatDoor

/- Contracts of the reference's Rows, SameRows. -/
namespace Go.Proofs.YtohdpidlilhnjaaGreatDoor
open Go.RowKit Go.Maps Num

theorem own_emptyR (B : Nat) (w : World) (hB : B ≤ w.heap.size) : rowR.Own B (w.alloc (.cells #[] 48)) (.slice (some ⟨w.heap.size, 0, none⟩) 0 0) [] :=
  ⟨rfl, .inr ⟨_, 0, #[], rfl, hB, heap_alloc_new w _, Nat.le_refl _, by unfold maxLen; omega, by simp, rfl⟩⟩
theorem totE_13 {l : List En} (h : ∀ e ∈ l, e.2.2.length ≤ 64 ∧ ∀ x ∈ e.2.2, x.2.2.length ≤ 13) (k : Ky) : (totE l k).natAbs ≤ 64 * l.length * num13 := by
  induction l with
  | nil => simp [totE]
  | cons e r ih =>
    have h1 := ih fun x hx => h x (by simp [hx])
    have h2 := tot_13 e.2.2 (h e (by simp)).2 k
    have h3 : e.2.2.length * num13 ≤ 64 * num13 := Nat.mul_le_mul_right _ (h e (by simp)).1
    rw [totE_cons, List.length_cons, Nat.mul_add, Nat.add_mul]
    omega
/-- inside the loop: the rows so far, beside the sorted entries -/
structure RrR (w : World) (vS : Value) (qs : List RE) (k : Ky) (l : List En) (v u : Value) (W : World) : Prop where
  out : rowR.Own w.heap.size W v (rowsE k 0 l)
  run : u = .string ⟨(txt (totE l k)).toArray⟩
  srt : rowE.Own w.heap.size W vS qs
  sep : ∀ g, vS.ownBlock = some g → v.ownBlock ≠ some g
  bel : Below w.heap.size w W
theorem RrR.below {w W W' : World} {vS : Value} {qs : List RE} {k : Ky} {l : List En} {v u : Value} (h : RrR w vS qs k l v u W) (hb : Below W.heap.size W W') : RrR w vS qs k l v u W' :=
  ⟨h.out.below hb, h.run, h.srt.below hb, h.sep, below_next h.bel hb ⟨rfl, rfl, rfl, rfl⟩⟩
theorem RrR.step {w W W' : World} {vS : Value} {qs : List RE} {k : Ky} {l l' : List En} {v v' u u' : Value} {x : Rw} (h : RrR w vS qs k l v u W) (hu : u' = .string ⟨(txt (totE l' k)).toArray⟩) (ho : rowR.Own w.heap.size W' v' (rowsE k 0 l ++ [x])) (hl : rowsE k 0 l' = rowsE k 0 l ++ [x])
    (hg : W.grownBy W' v.ownBlock) (hat : v'.ownBlock = v.ownBlock ∨ ∃ g, v'.ownBlock = some g ∧ W.heap.size ≤ g) : RrR w vS qs k l' v' u' W' := by
  refine ⟨by rw [hl]; exact ho, hu, h.srt.kept' hg ?_, fun g e => ?_, below_own h.bel (Nat.le_refl _) hg fun g e => (h.out.own g e).1⟩
  · cases hk : vS.ownBlock with
    | none => exact .inl rfl
    | some g => exact .inr fun e => h.sep g hk e.symm
  · rcases hat with e2 | ⟨g2, e2, hg2⟩
    · rw [e2]; exact h.sep g e
    · rw [e2]
      intro e3
      have := Option.some.inj e3
      have := (h.srt.own g e).2
      omega
set_option maxRecDepth 100000 in
set_option maxHeartbeats 8000000 in
theorem rRows_any (A : Option Addr) (n c : Nat) (ps : List RE) (ka kc : List UInt8) (w : World) (h : Res w A n c ps) (hz : ∀ p ∈ ps, p.2.2.1.length ≤ maxLen ∧ ∀ y ∈ p.2.2.2, y.2.2.length ≤ 13) (hn : n ≤ 12) :
    Calls Tryz.prog 40 #[.slice A n c, .string ⟨ka.toArray⟩, .string ⟨kc.toArray⟩] w (RowsC (rwL (ps.map Prod.snd) (ka, kc)) (rwI (ps.map Prod.snd)) w) := by
  have hlen := h.rds.len
  have HAE := Lib.hid (rents_any A n c ps w h (by omega) hz)
  have HR := Lib.hid h
  have HZ := Lib.hid (show ∀ p ∈ ps, ∀ y ∈ p.2.2.2, y.2.2.length ≤ 13 from fun p hp => (hz p hp).2)
  have HP := Lib.hid (fun v i W (h1 : rowR.Own w.heap.size W v (rwL (ps.map Prod.snd) (ka, kc))) (h2 : Below w.heap.size w W) (hi : rwI (ps.map Prod.snd) = i) => (show RowsC (rwL (ps.map Prod.snd) (ka, kc)) (rwI (ps.map Prod.snd)) w (.returned (.tuple #[v, .int .i64 i])) W from ⟨v, by rw [hi], h1, h2⟩))
  have HLL := Lib.hid (show rwL (ps.map Prod.snd) (ka, kc) = if (ps.map Prod.snd).all okE = true then rowsL (ps.map Prod.snd) (ka, kc) else [] from rfl)
  have HLI := Lib.hid (show rwI (ps.map Prod.snd) = if (ps.map Prod.snd).all okE = true then 0 else 1 from rfl)
  unfold BoolPost at HAE
  clear h hz
  generalize RowsC (rwL (ps.map Prod.snd) (ka, kc)) (rwI (ps.map Prod.snd)) w = Post at *
  generalize rwI (ps.map Prod.snd) = ri at *
  generalize rwL (ps.map Prod.snd) (ka, kc) = rl at *
  cases hok : (ps.map Prod.snd).all okE
  · have hck := HAE.out
    rw [hok] at hck
    have HC2 := Lib.hid hck
    have e1 := HLL.out
    have e2 := HLI.out
    rw [hok, if_neg (by decide)] at e1 e2
    subst e1 e2
    clear hck HAE hok HLL HLI HR HZ
    go_enter Tryz.func40, Tryz.ntmps40
    go_wp2_with fail
    refine HC2.out.mono ?_
    rintro e w1 ⟨rfl, hb⟩
    have B1 := Lib.hid hb
    clear hb HC2
    go_wp2_with fail
    exact HP.out _ _ _ (own_emptyR _ _ B1.out.size) (B1.out.alloc B1.out.size _) rfl
  have hck := HAE.out
  rw [hok] at hck
  have HC2 := Lib.hid hck
  have HOK := Lib.hid (okL_all.1 hok)
  have hv := Lib.hid (fun v W h1 hb => HP.out v 0 W (by rw [HLL.out, hok, if_pos rfl]; exact h1) hb (by rw [HLI.out, hok, if_pos rfl]))
  clear hck HAE hok HLL HLI HP
  go_enter Tryz.func40, Tryz.ntmps40
  go_wp2_with fail
  refine HC2.out.mono ?_
  rintro e w1 ⟨rfl, hb⟩
  have B1 := Lib.hid hb
  have O0 := Lib.hid (own_emptyR w.heap.size w1 B1.out.size)
  have hsz : (w1.alloc (.cells #[] 48)).heap.size = w1.heap.size + 1 := by simp
  have B2 := Lib.hid (B1.out.alloc B1.out.size (.cells #[] 48))
  have HR2 := Lib.hid (HR.out.below B2.out)
  clear hb HC2 B1
  go_wp2_with fail
  have S2 := Lib.hid hsz
  clear hsz
  generalize hb0 : w1.heap.size = b0 at *
  generalize w1.alloc (.cells #[] 48) = w2 at *
  clear hb0
  refine (rsort_any A n c ps w2 HR2.out (by omega)).mono ?_
  rintro e w3 ⟨vS, qs, rfl, hp, hs, ho3, hb⟩
  have B3 := Lib.hid (below_next B2.out hb ⟨rfl, rfl, rfl, rfl⟩)
  have HQ := Lib.hid (srt_of (fun x hx => HOK.out x hx) hp hs)
  have HQA := Lib.hid (show ∀ q ∈ qs, RdE w q ∧ q.2.2.2.length ≤ 64 ∧ ∀ x ∈ q.2.2.2, x.2.2.length ≤ 13 from fun q hq => by
    have hq' := (hp.mem_iff).1 hq
    exact ⟨HR.out.all q hq', HOK.out.len q.2 (List.mem_map_of_mem hq'), HZ.out q hq'⟩)
  have hql : qs.length = n := by rw [hp.length_eq]; exact hlen
  have HQL := Lib.hid hql
  have R0 := Lib.hid (show RrR w vS qs (ka, kc) ((qs.take 0).map Prod.snd) (.slice (some ⟨b0, 0, none⟩) 0 0) (.string ⟨#[]⟩) w3 from ⟨O0.out.below hb, by rw [List.take_zero, List.map_nil, totE_nil, txt_zero], ho3.mono B2.out.size, fun g e e2 => by
    have h1 := (ho3.own g e).1
    have h2 : b0 = g := Option.some.inj e2
    have := S2.out
    omega, B3.out⟩)
  obtain ⟨A3, c3, rfl, _⟩ := ho3.rds
  have HBD := Lib.hid (show ∀ j, (totE ((qs.take j).map Prod.snd) (ka, kc)).natAbs < 10 ^ 17 from fun j => by
    have h1 := totE_13 (l := (qs.take j).map Prod.snd) (fun e he => by
      obtain ⟨q, hq, rfl⟩ := List.mem_map.1 he
      exact (HQA.out q (List.mem_of_mem_take hq)).2) (ka, kc)
    rw [List.length_map, List.length_take] at h1
    have h2 : 64 * min j qs.length * num13 ≤ 1000 * num13 := Nat.mul_le_mul_right _ (by have := HQL.out; omega)
    have h3 : 1000 * num13 < 10 ^ 17 := by decide
    omega)
  have hv2 := Lib.hid (fun v W (h1 : rowR.Own w.heap.size W v (rowsE (ka, kc) 0 (qs.map Prod.snd))) (hb : Below w.heap.size w W) => hv.out v W (by unfold rowsL; rw [← HQ.out]; exact h1) hb)
  clear hp hs ho3 hb hv HQ O0 B2 B3 HR HR2 HOK HZ S2 hlen
  rw [hql] at R0 ⊢
  clear hql
  go_wp2_with fail
  go_loopw [8, 9, 11] (fun v u i wr => ∃ j : Nat, j ≤ n ∧ i = .int .i64 (j : Int) ∧ Hid (RrR w (.slice A3 n c3) qs (ka, kc) ((qs.take j).map Prod.snd) v u wr)) (fun _ _ i _ => n - (intOf i).toNat)
  case atStart => exact ⟨0, by omega, rfl, R0⟩
  case round =>
    clear R0
    obtain ⟨j, hj, rfl, hR⟩ := hrel
    have hu := hR.out.run
    subst hu
    by_cases hlt : j < n
    · have hjl : j < qs.length := by rw [HQL.out]; exact hlt
      have hmem := getD_mem re0 qs j hjl
      have htk := Lib.hid (map_take_re qs j hjl)
      have hbd := Lib.hid (HBD.out j)
      have hljl := Lib.hid (show ((qs.take j).map Prod.snd).length ≤ 1000 by rw [List.length_map, List.length_take]; omega)
      generalize (qs.take j).map Prod.snd = LJ at *
      obtain ⟨As, cs, e, hrd⟩ := hR.out.srt.rds
      injection e with e1 e2 e3
      subst e1 e3
      rw [HQL.out] at hrd
      clear e2
      obtain ⟨b1, o1, rfl, hb1, _⟩ := hrd.at_ (by omega)
      have q0 := hrd.cell rowE_ok re0 j 0 _ hlt rfl
      have q1 := hrd.cell rowE_ok re0 j 1 _ hlt rfl
      have q2 := hrd.cell rowE_ok re0 j 2 _ hlt rfl
      have hqa := Lib.hid (HQA.out _ hmem)
      have hji : (j : Int) < (n : Int) := by omega
      generalize qs.getD j re0 = p at *
      obtain ⟨⟨d1, z1, A1, n1, c1⟩, e1, f1, k1⟩ := p
      simp only [rawA, rawN, rawC, Nat.add_zero] at q0 q1 q2
      obtain ⟨⟨h1, h2, h3⟩, h64, h13⟩ := hqa.out
      simp only [rawA, rawN, rawC] at h1 h2 h3 h64 h13
      subst h1 h2
      simp only at htk
      have HAM0 := ramt_any d1 z1 A1 n1 c1 k1 ka kc wr (h3.below hR.out.bel) h13
      unfold enV StrPost at HAM0
      have HAM := Lib.hid HAM0
      have ht17 := Lib.hid (show (tot k1 (ka, kc)).natAbs < 10 ^ 17 by
        have h2 := tot_13 k1 h13 (ka, kc)
        have h3 : k1.length * num13 ≤ 64 * num13 := Nat.mul_le_mul_right _ h64
        have h4 : 64 * num13 < 10 ^ 17 := by decide
        omega)
      have hsn := Lib.hid (rowsE_snoc (ka, kc) 0 LJ (d1, z1, k1))
      have hts := Lib.hid (totE_snoc LJ (d1, z1, k1) (ka, kc))
      have hrl := Lib.hid (show (rowsE (ka, kc) 0 LJ).length ≤ 1000 from by
        have := rowsE_len (ka, kc) 0 LJ
        have := hljl.out
        omega)
      clear HAM0 h3 h13 h64 hqa hmem hjl hrd hljl
      rw [← htk.out] at hsn hts
      simp only at hsn hts
      clear htk
      go_wp2_with fail
      refine HAM.out.mono ?_
      rintro e w6 ⟨rfl, hb6⟩
      have HR6 := Lib.hid (hR.out.below hb6)
      have y0 := (hb6.cell (p := ⟨b1, o1 + j * 3, none⟩) hb1).trans q0
      have y1 := (hb6.cell (p := ⟨b1, o1 + j * 3 + 1, none⟩) hb1).trans q1
      clear hb6 HAM q0 q1 q2 hR
      generalize tot k1 (ka, kc) = t at *
      by_cases h0 : t = 0
      · subst h0
        rw [txt_zero] at *
        have RR := Lib.hid (show RrR w (.slice (some ⟨b1, o1, none⟩) n c3) qs (ka, kc) ((qs.take (j + 1)).map Prod.snd) u8 (.string ⟨(txt (totE LJ (ka, kc))).toArray⟩) w6 from ⟨by rw [hsn.out, if_pos rfl, List.append_nil]; exact HR6.out.out, by rw [hts.out, Int.add_zero], HR6.out.srt, HR6.out.sep, HR6.out.bel⟩)
        clear y0 y1 hsn hts
        go_wp2_with fail
        exact ⟨⟨j + 1, by omega, by go_num, RR⟩, by simp [intOf]; omega⟩
      · have hne : txt t ≠ [] := fun e => h0 (txt_nil.1 e)
        have HADD := Lib.hid (radd_any (txt (totE LJ (ka, kc))) (txt t) w6 (by have := txt_bd hbd.out; omega) (by have := txt_bd ht17.out; omega) (dgs_txt_len hbd.out) (dgs_txt_len ht17.out))
        have hsn2 := Lib.hid (show rowsE (ka, kc) 0 ((qs.take (j + 1)).map Prod.snd) = rowsE (ka, kc) 0 LJ ++ [(d1, z1, txt t, txt (val (txt (totE LJ (ka, kc))) + val (txt t)))] by rw [hsn.out, if_neg h0, val_txt, val_txt, Int.zero_add])
        have hts2 := Lib.hid (show txt (totE ((qs.take (j + 1)).map Prod.snd) (ka, kc)) = txt (val (txt (totE LJ (ka, kc))) + val (txt t)) by rw [hts.out, val_txt, val_txt])
        clear hsn hts hbd ht17 h0
        generalize txt (totE LJ (ka, kc)) = ru at *
        rcases hm : txt t with _ | ⟨m0, mr⟩
        · exact absurd hm hne
        rw [hm] at HADD hsn2 hts2
        clear hne hm
        generalize txt (val ru + val (m0 :: mr)) = ru2 at *
        have hsz6 := Lib.hid HR6.out.bel.size
        go_wp2_with fail
        refine HADD.out.mono ?_
        rintro e w7 ⟨rfl, rfl⟩
        clear HADD
        go_upto_region 12 with fail
        go_region_law (refine step_append1dh rowR_ok rfl (.tmp 38) (.tmp 52) rfl w.heap.size _ (rowsE (ka, kc) 0 LJ) w6 _ rfl (d1, z1, m0 :: mr, ru2) _ _ rfl rfl rfl HR6.out.out rfl hsz6.out (by have := hrl.out; omega) ?_; intro v1 w7 hown1 hg1 hat)
        all_goals (
          have RR := Lib.hid (RrR.step (l' := (qs.take (j + 1)).map Prod.snd) (u' := .string ⟨ru2.toArray⟩) HR6.out (by rw [hts2.out]) hown1 hsn2.out hg1 hat)
          clear hown1 hg1 hat
          simp only [Act.put, List.getElem_toArray, List.getElem_cons_succ, List.getElem_cons_zero, List.setIfInBounds_toArray, List.set_cons_succ, List.set_cons_zero]
          go_wp2_with fail
          exact ⟨⟨j + 1, by omega, by go_num, RR⟩, by simp [intOf]; omega⟩)
    · have hjn : j = n := by omega
      subst hjn
      have hji : ¬ (j : Int) < (j : Int) := by omega
      have e : qs.take j = qs := List.take_of_length_le (by rw [HQL.out]; exact Nat.le_refl _)
      have hO := hR.out.out
      rw [e] at hO
      have HO := Lib.hid (hv2.out _ wr hO hR.out.bel)
      clear hR hO e
      go_wp2_with fail
      exact HO.out
set_option maxRecDepth 100000 in
set_option maxHeartbeats 4000000 in
theorem rSameR_any (A B : Option Addr) (n c p d : Nat) (l m : List Rw) (w : World) (hl : rowR.Rds w A n c l) (hm : rowR.Rds w B p d m) (hn : n ≤ 100000) (hp : p ≤ 100000) :
    Calls Tryz.prog 43 #[.slice A n c, .slice B p d] w (BoolPost (decide (l = m)) w) := by
  have ll := Lib.hid hl.len
  have lm := Lib.hid hm.len
  have L1 := Lib.hid hl
  have L2 := Lib.hid hm
  generalize hr : decide (l = m) = r
  clear hl hm
  by_cases hnp : n = p
  case neg =>
    have h1 : ((n : Int) == (p : Int)) = false := beq_eq_false_iff_ne.2 (by omega)
    have h2 : (n == p) = false := beq_eq_false_iff_ne.2 hnp
    have hv := Lib.hid (show r = false by rw [← hr]; exact decide_eq_false (fun e => hnp (by rw [← ll.out, ← lm.out, e])))
    clear hr
    go_enter Tryz.func43, Tryz.ntmps43
    go_wp2_with fail
    go_ret
    exact ⟨by rw [hv.out]; rfl, Below.refl _ _⟩
  subst hnp
  have HR := Lib.hid hr
  clear hr
  go_enter Tryz.func43, Tryz.ntmps43
  go_wp2_with fail
  have R0 := Lib.hid (show EqG w l m 0 w from ⟨by simp, Below.refl _ _⟩)
  go_loopw [5] (fun i wr => ∃ k : Nat, k ≤ n ∧ i = .int .i64 (k : Int) ∧ Hid (EqG w l m k wr)) (fun i _ => n - (intOf i).toNat)
  case atStart => exact ⟨0, by omega, rfl, R0⟩
  case round =>
    obtain ⟨k, hk, rfl, hR⟩ := hrel
    have HE := Lib.hid hR.out.1
    have HB := Lib.hid hR.out.2
    clear hR R0
    by_cases hlt : k < n
    · obtain ⟨b1, o1, rfl, hb1, _⟩ := L1.out.at_ (by omega)
      obtain ⟨b2, o2, rfl, hb2, _⟩ := L2.out.at_ (by omega)
      have r0 := (L1.out.below HB.out).cell rowR_ok rw0 k 0 _ hlt rfl
      have r1 := (L1.out.below HB.out).cell rowR_ok rw0 k 1 _ hlt rfl
      have r2 := (L1.out.below HB.out).cell rowR_ok rw0 k 2 _ hlt rfl
      have s0 := (L2.out.below HB.out).cell rowR_ok rw0 k 0 _ hlt rfl
      have s1 := (L2.out.below HB.out).cell rowR_ok rw0 k 1 _ hlt rfl
      have s2 := (L2.out.below HB.out).cell rowR_ok rw0 k 2 _ hlt rfl
      have r3 := (L1.out.below HB.out).cell rowR_ok rw0 k 3 _ hlt rfl
      have s3 := (L2.out.below HB.out).cell rowR_ok rw0 k 3 _ hlt rfl
      have hki : (k : Int) < (n : Int) := by omega
      have hk0 : (0 : Int) ≤ (k : Int) := by omega
      have t1 := Lib.hid (take_gen rw0 l k (by rw [ll.out]; exact hlt))
      have t2 := Lib.hid (take_gen rw0 m k (by rw [lm.out]; exact hlt))
      have HD := Lib.hid (show l.getD k rw0 ≠ m.getD k rw0 → l ≠ m from fun h e => h (by rw [e]))
      generalize l.getD k rw0 = x at *
      generalize m.getD k rw0 = y at *
      obtain ⟨a, cu, u, z⟩ := x
      obtain ⟨a', cu', u', z'⟩ := y
      simp only [Nat.add_zero] at r0 s0 r1 s1 r2 s2 r3 s3
      by_cases hxy : (a, cu, u, z) = (a', cu', u', z')
      · have HE2 := Lib.hid (show l.take (k + 1) = m.take (k + 1) by rw [t1.out, t2.out, HE.out, hxy])
        simp only [Prod.mk.injEq] at hxy
        obtain ⟨rfl, rfl, rfl, rfl⟩ := hxy
        clear t1 t2 HD
        go_wp2_with fail
        go_quiet (fail)
        have HB2 := Lib.hid (below_dr HB.out nq)
        go_wp2_with fail
        go_roundw
        case rel => exact ⟨k + 1, by omega, by go_num, Lib.hid ⟨HE2.out, HB2.out⟩⟩
        case measure => simp [intOf]; omega
      · have hv := Lib.hid (show r = false by rw [← HR.out]; exact decide_eq_false (HD.out hxy))
        clear t1 t2 HD
        by_cases h0 : a = a'
        case neg =>
          have e0 : (a == a') = false := beq_eq_false_iff_ne.2 h0
          clear hxy
          go_wp2_with fail
          go_quiet (fail)
          have HB2 := Lib.hid (below_dr HB.out nq)
          go_wp2_with fail
          go_ret
          exact ⟨by rw [hv.out]; rfl, HB2.out⟩
        subst h0
        by_cases h1 : cu = cu'
        case neg =>
          have e1 : (cu == cu') = false := beq_eq_false_iff_ne.2 h1
          clear hxy
          go_wp2_with fail
          go_quiet (fail)
          have HB2 := Lib.hid (below_dr HB.out nq)
          go_wp2_with fail
          go_ret
          exact ⟨by rw [hv.out]; rfl, HB2.out⟩
        subst h1
        by_cases h2 : u = u'
        case neg =>
          have e2 : (u == u') = false := beq_eq_false_iff_ne.2 h2
          clear hxy
          go_wp2_with fail
          go_quiet (fail)
          have HB2 := Lib.hid (below_dr HB.out nq)
          go_wp2_with fail
          go_ret
          exact ⟨by rw [hv.out]; rfl, HB2.out⟩
        subst h2
        have e3 : (z == z') = false := beq_eq_false_iff_ne.2 (fun e => hxy (by rw [e]))
        clear hxy
        go_wp2_with fail
        go_quiet (fail)
        have HB2 := Lib.hid (below_dr HB.out nq)
        go_wp2_with fail
        go_ret
        exact ⟨by rw [hv.out]; rfl, HB2.out⟩
    · have hkn : k = n := by omega
      subst hkn
      have hki : ¬ (k : Int) < (k : Int) := by omega
      have e := HE.out
      rw [List.take_of_length_le (by rw [ll.out]; exact Nat.le_refl _), List.take_of_length_le (by rw [lm.out]; exact Nat.le_refl _)] at e
      have hv := Lib.hid (show r = true by rw [← HR.out]; exact decide_eq_true e)
      clear e HE
      go_wp2_with fail
      go_ret
      exact ⟨by rw [hv.out]; rfl, HB.out⟩
end Go.Proofs.YtohdpidlilhnjaaGreatDoor

/- Contract of the reference's Kinds (printed by gen_tre.py). -/
namespace Go.Proofs.YtohdpidlilhnjaaGreatDoor
open Go.RowKit Go.Maps Num

theorem ownI_emptyS {B : Nat} {w : World} {s : Nat} (hs : w.heap.size = s) (hB : B ≤ w.heap.size) : rowI.Own B (w.alloc (.cells #[] 31)) (.slice (some ⟨s, 0, none⟩) 0 0) [] := by
  subst hs
  exact ownI_emptyI B w hB
set_option maxRecDepth 100000 in
set_option maxHeartbeats 8000000 in
theorem rKinds_any (A B : Option Addr) (n c m d : Nat) (l : List Ln) (ch : List Acc) (cu : List UInt8) (w : World) (hl : rowB.Rds w A n c l) (hc : Accs w B m d ch) (hs : ∀ x ∈ l, x.1.length ≤ 100000 ∧ x.2.1.length ≤ 100000 ∧ x.2.2.length ≤ 13) (hn : n ≤ 100) (hcl : ∀ a ∈ ch, a.1.length < 4294967281) :
    Calls Tryz.prog 42 #[.slice A n c, .slice B m d, .string ⟨cu.toArray⟩] w (KndC (knL ch cu l) (knI ch cu l) w) := by
  have ll := Lib.hid hl.len
  have L1 := Lib.hid hl
  have C1 := Lib.hid (rCheckB_any A n c l w hl (fun x hx => by have := hs x hx; omega) (by omega))
  have C2 := Lib.hid (fun W (h : Below w.heap.size w W) => rCheckAll_any B m d ch W (hc.below h) hcl)
  have C3 := Lib.hid (fun (code : List UInt8) W (h : Below w.heap.size w W) => rFind_any B m d ch code W (hc.below h) (fun a ha => by have := hcl a ha; omega))
  have HBD := Lib.hid (show ∀ k, ∀ v ∈ wantF ch cu (l.take k) zero5, v.natAbs < 10 ^ 17 from fun k v hv => by
    have h1 := want_bd (M := num13) ch cu (l := l.take k) (fun x hx => val_13 (hs x (List.mem_of_mem_take hx)).2.2) v hv
    have h2 : (l.take k).length * num13 ≤ 1000 * num13 := Nat.mul_le_mul_right _ (by rw [List.length_take]; have := ll.out; omega)
    have h3 : 1000 * num13 < 10 ^ 17 := by decide
    omega)
  have HS := Lib.hid (show ∀ x ∈ l, x.2.2.length ≤ 13 from fun x hx => (hs x hx).2.2)
  have HP := Lib.hid (fun v i W (h1 : rowI.Own w.heap.size W v (knL ch cu l)) (h2 : Below w.heap.size w W) (hi : knI ch cu l = i) => (show KndC (knL ch cu l) (knI ch cu l) w (.returned (.tuple #[v, .int .i64 i])) W from ⟨v, by rw [hi], h1, h2⟩))
  have HBAD := Lib.hid (fun (h : ¬ (listB l = true ∧ chkL ch = 0)) => knI_bad (cu := cu) h)
  have HNON := Lib.hid (fun (h1 : listB l = true) (h2 : chkL ch = 0) (h3 : knownB ch l = false) => knI_none (cu := cu) h1 h2 h3)
  have HYES := Lib.hid (fun (h1 : listB l = true) (h2 : chkL ch = 0) (h3 : knownB ch l = true) => knI_ok (cu := cu) h1 h2 h3)
  unfold BoolPost at C1
  clear hl hc hs hcl
  generalize KndC (knL ch cu l) (knI ch cu l) w = Post at *
  generalize knI ch cu l = ri at *
  generalize knL ch cu l = rl at *
  cases hlb : listB l
  case false =>
    obtain ⟨e1, e2⟩ := HBAD.out (by rw [hlb]; simp)
    subst e1 e2
    have hck := C1.out
    rw [hlb] at hck
    have HC2 := Lib.hid hck
    clear hck C1 C2 C3 HBAD HNON HYES hlb HBD HS
    go_enter Tryz.func42, Tryz.ntmps42
    go_wp2_with fail
    refine HC2.out.mono ?_
    rintro e w1 ⟨rfl, hb⟩
    have B1 := Lib.hid hb
    clear hb HC2
    go_wp2_with fail
    exact HP.out _ _ _ (ownI_emptyI _ _ B1.out.size) (B1.out.alloc B1.out.size _) rfl
  obtain ⟨ck, hck⟩ : ∃ ck, chkL ch = ck := ⟨_, rfl⟩
  have h1 := C1.out
  have h2 := C2.out
  rw [hlb] at h1
  rw [hck] at h2
  have HC1 := Lib.hid h1
  have HC2 := Lib.hid h2
  clear h1 h2 C1 C2
  by_cases h0 : ck = 0
  case neg =>
    have hb0 : (ck == 0) = false := beq_eq_false_iff_ne.2 h0
    have hb1 : (ck != 0) = true := by rw [bne_iff_ne]; exact h0
    obtain ⟨e1, e2⟩ := HBAD.out (fun h => h0 (by rw [← hck]; exact h.2))
    subst e1 e2
    clear C3 HBAD HNON HYES hlb HBD HS hck h0
    go_enter Tryz.func42, Tryz.ntmps42
    go_wp2_with fail
    refine HC1.out.mono ?_
    rintro e w1 ⟨rfl, hb⟩
    have B1 := Lib.hid hb
    clear hb HC1
    go_wp2_with fail
    refine (HC2.out _ B1.out).mono ?_
    rintro e w2 ⟨rfl, hb⟩
    have B2 := Lib.hid (below_next B1.out hb ⟨rfl, rfl, rfl, rfl⟩)
    clear hb HC2 B1
    go_wp2_with fail
    exact HP.out _ _ _ (ownI_emptyI _ _ B2.out.size) (B2.out.alloc B2.out.size _) rfl
  subst h0
  have HNO := Lib.hid (fun h => HNON.out hlb hck h)
  have HOK := Lib.hid (fun h => HYES.out hlb hck h)
  have HRG := Lib.hid (fun c (h : (findL ch c).2 = true) => find_rng hck h)
  clear HBAD HNON HYES hlb hck
  go_enter Tryz.func42, Tryz.ntmps42
  go_wp2_with fail
  refine HC1.out.mono ?_
  rintro e w1 ⟨rfl, hb⟩
  have B1 := Lib.hid hb
  clear hb HC1
  go_wp2_with fail
  refine (HC2.out _ B1.out).mono ?_
  rintro e w2 ⟨rfl, hb⟩
  have B2 := Lib.hid (below_next B1.out hb ⟨rfl, rfl, rfl, rfl⟩)
  clear hb HC2 B1
  have O0 := Lib.hid (ownI_five w.heap.size w2 B2.out.size)
  have B3 := Lib.hid (B2.out.alloc B2.out.size (.cells #[.string ⟨#[]⟩, .string ⟨#[]⟩, .string ⟨#[]⟩, .string ⟨#[]⟩, .string ⟨#[]⟩] 31))
  have hmk := make5 w2
  go_wp2_with fail
  clear hmk
  obtain ⟨g, hg⟩ : ∃ g, w2.heap.size = g := ⟨_, rfl⟩
  rw [hg] at O0 ⊢
  clear B2 hg
  generalize w2.alloc (.cells #[.string ⟨#[]⟩, .string ⟨#[]⟩, .string ⟨#[]⟩, .string ⟨#[]⟩, .string ⟨#[]⟩] 31) = w3 at *
  go_loopw [9] (fun i wr => ∃ k : Nat, k ≤ n ∧ i = .int .i64 (k : Int) ∧ Hid (knownB ch (l.take k) = true) ∧ Hid (rowI.Own w.heap.size wr (.slice (some ⟨g, 0, none⟩) 5 5) ((wantF ch cu (l.take k) zero5).map txt)) ∧ Hid (Below w.heap.size w wr)) (fun i _ => n - (intOf i).toNat)
  case atStart => exact ⟨0, by omega, rfl, Lib.hid (by rw [List.take_zero]; rfl), O0, B3⟩
  case round =>
    clear O0 B3
    obtain ⟨k, hk, rfl, HK, HO, HB⟩ := hrel
    by_cases hlt : k < n
    · have hkl : k < l.length := by rw [ll.out]; exact hlt
      obtain ⟨b1, o1, rfl, hb1, _⟩ := L1.out.at_ (by omega)
      have p0 := (L1.out.below HB.out).cell rowB_ok ln0 k 0 _ hlt rfl
      have p1 := (L1.out.below HB.out).cell rowB_ok ln0 k 1 _ hlt rfl
      have p2 := (L1.out.below HB.out).cell rowB_ok ln0 k 2 _ hlt rfl
      have hki : (k : Int) < (n : Int) := by omega
      have HSk := Lib.hid (HS.out _ (lnAt_mem l k hkl))
      have HTK := Lib.hid (take_gen ln0 l k hkl)
      have HWK := Lib.hid (wantF_known ch cu l k hkl)
      have HNK := Lib.hid (show (findL ch (l.getD k ln0).1).2 = false → knownB ch l = false from fun h => by
        cases hq : knownB ch l
        · rfl
        · have := List.all_eq_true.1 hq _ (lnAt_mem l k hkl)
          rw [h] at this; cases this)
      have HRk := Lib.hid (HRG.out (l.getD k ln0).1)
      have HBk := Lib.hid (HBD.out k)
      have HWL := Lib.hid (wantF_len ch cu (l.take k) zero5)
      have HKS := Lib.hid (show (findL ch (l.getD k ln0).1).2 = true → knownB ch (l.take (k + 1)) = true from fun h => by rw [HTK.out, known_snoc, HK.out, h]; rfl)
      have HP1 := Lib.hid (fun W (h : Below w.heap.size w W) => (L1.out.below h).cell rowB_ok ln0 k 1 _ hlt rfl)
      have HP2 := Lib.hid (fun W (h : Below w.heap.size w W) => (L1.out.below h).cell rowB_ok ln0 k 2 _ hlt rfl)
      clear hkl HTK
      generalize l.getD k ln0 = y at *
      obtain ⟨ya, yc, ym⟩ := y
      simp only [Nat.add_zero] at p0 p1 p2 HP1 HP2 HNK HRk HKS HWK HSk
      have HF := Lib.hid (C3.out ya)
      generalize findL ch ya = fa at *
      obtain ⟨⟨ac, ak⟩, fb⟩ := fa
      simp only at HNK HRk HKS HWK HF
      cases fb
      case false =>
        obtain ⟨e1, e2⟩ := HNO.out (HNK.out rfl)
        subst e1 e2
        clear HNO HOK HNK HRk HKS HWK HRG HBk HBD HWL HSk HK
        go_wp2_with fail
        refine (HF.out _ HB.out).mono ?_
        rintro e w6 ⟨rfl, hb⟩
        have HB6 := Lib.hid (below_next HB.out hb ⟨rfl, rfl, rfl, rfl⟩)
        have HO6 := Lib.hid (HO.out.below hb)
        have HBB := Lib.hid (HB6.out.alloc HB6.out.size (.cells #[.string ⟨ac.toArray⟩, .int .i64 ak] 77))
        have HOB := Lib.hid (HO6.out.alloc (.cells #[.string ⟨ac.toArray⟩, .int .i64 ak] 77))
        have hy1 : (w6.alloc (.cells #[.string ⟨ac.toArray⟩, .int .i64 ak] 77)).cell? ⟨w6.heap.size, 1, none⟩ = some (.int .i64 ak) := by rw [cell_of_row _ _ _ _ _ _ (heap_alloc_new w6 _)]; rfl
        have p1b := HP1.out _ HBB.out
        have p2b := HP2.out _ HBB.out
        clear hb HB6 HO6 p0 p1 p2
        go_wp2_with fail
        exact HP.out _ _ _ (ownI_emptyS (by simp) HBB.out.size) (HBB.out.alloc HBB.out.size _) rfl
      case true =>
      have hrg := HRk.out rfl
      have HK2 := Lib.hid (HKS.out rfl)
      have HW2 := Lib.hid (HWK.out rfl)
      clear HNK HRk HKS HWK
      by_cases hcu : yc = cu
      case neg =>
        have e2 : (yc == cu) = false := beq_eq_false_iff_ne.2 hcu
        have HE := Lib.hid (show wantF ch cu (l.take (k + 1)) zero5 = wantF ch cu (l.take k) zero5 by rw [HW2.out, if_neg hcu])
        clear HNO HOK HRG HBk HBD HWL HSk HK HW2 hcu hrg
        go_wp2_with fail
        refine (HF.out _ HB.out).mono ?_
        rintro e w6 ⟨rfl, hb⟩
        have HB6 := Lib.hid (below_next HB.out hb ⟨rfl, rfl, rfl, rfl⟩)
        have HO6 := Lib.hid (HO.out.below hb)
        have HBB := Lib.hid (HB6.out.alloc HB6.out.size (.cells #[.string ⟨ac.toArray⟩, .int .i64 ak] 77))
        have HOB := Lib.hid (HO6.out.alloc (.cells #[.string ⟨ac.toArray⟩, .int .i64 ak] 77))
        have hy1 : (w6.alloc (.cells #[.string ⟨ac.toArray⟩, .int .i64 ak] 77)).cell? ⟨w6.heap.size, 1, none⟩ = some (.int .i64 ak) := by rw [cell_of_row _ _ _ _ _ _ (heap_alloc_new w6 _)]; rfl
        have p1b := HP1.out _ HBB.out
        have p2b := HP2.out _ HBB.out
        clear hb HB6 HO6 p0 p1 p2
        go_wp2_with fail
        exact ⟨⟨k + 1, by omega, by go_num, HK2, Lib.hid (by rw [HE.out]; exact HOB.out), HBB⟩, by simp [intOf]; omega⟩
      subst hcu
      obtain ⟨ix, hix, hx5⟩ : ∃ ix : Nat, (ix : Int) = ak - 1 ∧ ix < 5 := ⟨(ak - 1).toNat, by omega, by omega⟩
      have hw : IntKind.i64.wrap (ak - 1) = (ix : Int) := by rw [IntWalk.i64_in _ (by omega)]; omega
      have hxi : (ix : Int) < 5 := by omega
      have hx0 : (0 : Int) ≤ (ix : Int) := by omega
      have HW3 := Lib.hid (show (wantF ch yc (l.take (k + 1)) zero5).map txt = ((wantF ch yc (l.take k) zero5).map txt).set ix (txt (val (((wantF ch yc (l.take k) zero5).map txt).getD ix []) + val ym)) by
        rw [HW2.out, if_pos rfl, map_addAt, show (ak - 1).toNat = ix by omega, getD_txt, val_txt])
      have HSI := Lib.hid (show (((wantF ch yc (l.take k) zero5).map txt).getD ix []) = txt ((wantF ch yc (l.take k) zero5).getD ix 0) ∧ ((wantF ch yc (l.take k) zero5).getD ix 0).natAbs < 10 ^ 17 from ⟨getD_txt _ _, by
        rw [List.getD_eq_getElem?_getD, List.getElem?_eq_getElem (by rw [HWL.out]; exact hx5)]
        exact HBk.out _ (List.getElem_mem _)⟩)
      have HL5 := Lib.hid (show ((wantF ch yc (l.take k) zero5).map txt).length = 5 by rw [List.length_map, HWL.out]; rfl)
      clear HW2 HBk HBD HWL HNO HRG HK hix hrg
      generalize (wantF ch yc (l.take k) zero5).map txt = om at *
      have HRO := Lib.hid (fun W (h : rowI.Own w.heap.size W (.slice (some ⟨g, 0, none⟩) 5 5) om) => (show W.cell? ⟨g, ix, none⟩ = some (.string ⟨(om.getD ix []).toArray⟩) ∧ W.frozen? ⟨g, ix, none⟩ = false from ⟨by
        obtain ⟨A', c', e, hr⟩ := h.rds
        injection e with e1 e2 e3
        subst e1 e3
        have := hr.cell rowI_ok [] ix 0 _ (by rw [HL5.out]; exact hx5) rfl
        simpa using this, h.frz ix⟩))
      have HSL := Lib.hid (show (om.getD ix []).length ≤ 80 by rw [HSI.out.1]; have := txt_bd HSI.out.2; omega)
      have HSD := Lib.hid (show (dgs (om.getD ix [])).length ≤ 17 by rw [HSI.out.1]; exact dgs_txt_len HSI.out.2)
      clear HSI
      generalize om.getD ix [] = si at *
      have HADD := Lib.hid (fun W => (show Calls Tryz.prog 92 #[.string ⟨si.toArray⟩, .string ⟨ym.toArray⟩] W (fun e w'' => e = .returned (.string ⟨(txt (val si + val ym)).toArray⟩) ∧ w'' = W) from (radd_any si ym W (by have := HSL.out; omega) (by have := HSk.out; omega) (by have := HSD.out; omega) (dgs_13 HSk.out)).mono fun e w'' h => ⟨h.1, h.2.symm⟩))
      have HNX := Lib.hid (fun W (h : rowI.Own w.heap.size W (.slice (some ⟨g, 0, none⟩) 5 5) om) => ownI_set h ix (txt (val si + val ym)))
      clear HSL HSD HSk
      generalize txt (val si + val ym) = s2 at *
      rw [← HW3.out] at HNX
      clear HW3 HL5
      go_wp2_with fail
      refine (HF.out _ HB.out).mono ?_
      rintro e w6 ⟨rfl, hb⟩
      have HB6 := Lib.hid (below_next HB.out hb ⟨rfl, rfl, rfl, rfl⟩)
      have HO6 := Lib.hid (HO.out.below hb)
      have HBB := Lib.hid (HB6.out.alloc HB6.out.size (.cells #[.string ⟨ac.toArray⟩, .int .i64 ak] 77))
      have HOB := Lib.hid (HO6.out.alloc (.cells #[.string ⟨ac.toArray⟩, .int .i64 ak] 77))
      have hy1 : (w6.alloc (.cells #[.string ⟨ac.toArray⟩, .int .i64 ak] 77)).cell? ⟨w6.heap.size, 1, none⟩ = some (.int .i64 ak) := by rw [cell_of_row _ _ _ _ _ _ (heap_alloc_new w6 _)]; rfl
      have p1b := HP1.out _ HBB.out
      have p2b := HP2.out _ HBB.out
      clear hb HB6 HO6 p0 p1 p2
      obtain ⟨lo, fo⟩ := HRO.out _ HOB.out
      have hgs := (HOB.out.own g rfl).1
      clear HF HP1 HP2 HP HOK HO HB
      go_upto_region 11 with fail
      generalize w6.alloc (.cells #[.string ⟨ac.toArray⟩, .int .i64 ak] 77) = wb at *
      generalize w6.heap.size = by_ at *
      go_still_tail 17, (by kernel_rfl)
      still_call (HADD.out _)
      repeat still_step
      refine wpStill_nil ?_
      change wpList _ _ _ _ _ wb.drew
      have HBD := Lib.hid HBB.out.drew
      have HOD := Lib.hid (HOB.out.below (Below.drew (Below.refl wb.heap.size wb)))
      obtain ⟨lo7, fo7⟩ := HRO.out _ HOD.out
      clear lo fo hy1 p1b p2b HOB HBB HRO
      generalize wb.drew = w7 at *
      go_wp2_with fail
      obtain ⟨own, hgn⟩ := HNX.out _ HOD.out
      exact ⟨⟨k + 1, by omega, by go_num, HK2, Lib.hid own, Lib.hid (below_own HBD.out (Nat.le_refl _) hgn (fun q e => by have := Option.some.inj e; omega))⟩, by simp [intOf]; omega⟩
    · have hkn : k = n := by omega
      subst hkn
      have hki : ¬ (k : Int) < (k : Int) := by omega
      have e : l.take k = l := List.take_of_length_le (by rw [ll.out]; exact Nat.le_refl _)
      rw [e] at HK HO
      obtain ⟨e1, e2⟩ := HOK.out HK.out
      subst e1 e2
      clear HNO HOK HRG HBD HK e
      go_wp2_with fail
      exact HP.out _ _ _ HO.out HB.out rfl
end Go.Proofs.YtohdpidlilhnjaaGreatDoor

/- LedgerReads: the walk (printed by gen_lgh.py). -/
namespace Go.Proofs.YtohdpidlilhnjaaGreatDoor
open Go.RowKit Go.Maps Num

theorem rowsh_rds {l : List Rw} {i : Int} {w w' : World} {e : Ending} (h : RowsC l i w e w') : ∃ A c, e = .returned (.tuple #[.slice A l.length c, .int .i64 i]) ∧ rowR.Rds w' A l.length c l ∧ Below w.heap.size w w' := by
  obtain ⟨v, rfl, ho, hb⟩ := h
  obtain ⟨A, c, rfl, hr⟩ := ho.rds
  exact ⟨A, c, rfl, hr, hb⟩
theorem rwL_len (es : List En) (k : Ky) : (rwL es k).length ≤ es.length := by
  unfold rwL
  split
  · unfold rowsL
    exact Nat.le_trans (rowsE_len _ _ _) (by rw [(srtE_perm es).length_eq]; exact Nat.le_refl _)
  · simp
set_option maxRecDepth 100000 in
set_option maxHeartbeats 8000000 in
theorem reads_in (A : Option Addr) (n c : Nat) (ps : List RE) (B : Option Addr) (m d : Nat) (b : List Ln) (C : Option Addr) (q r : Nat) (ch : List Acc) (ka kc : List UInt8) (w : World) (hl : rowE.Rds w A n c ps) (hr : ∀ p ∈ ps, RdG w p) (hb : rowB.Rds w B m d b) (hc : Accs w C q r ch) (hcl : ∀ a ∈ ch, a.1.length < 4294967281) (ht : Tab w) (hm : ML w) :
    Calls Tryz.prog 10 #[.slice A n c, .slice B m d, .slice C q r, .string ⟨ka.toArray⟩, .string ⟨kc.toArray⟩] w (BoolPost true w) := by
  have HP := Lib.hid (fun W (h : Below w.heap.size w W) => (show BoolPost true w (.returned (.bool true)) W from ⟨rfl, h⟩))
  have HW := Lib.hid (fun W (h : Below w.heap.size w W) => awake_any W (ht.below h) (hm.below h))
  have HG1 := Lib.hid (rgreat_any A n c ps w hl hr)
  have HG2 := Lib.hid (fun W (h : Below w.heap.size w W) => rGreatB_any B m d b W (hb.below h))
  have HL := Lib.hid (And.intro hl hr)
  have HB := Lib.hid hb
  have HC := Lib.hid (And.intro hc hcl)
  have HT := Lib.hid (And.intro ht hm)
  unfold BoolPost at HW HG1 HG2
  clear hl hr hb hc hcl ht hm
  generalize BoolPost true w = Post at *
  cases hga : greatB ps
  case true =>
    rw [hga] at HG1
    clear HG2 HL HB HC HT hga
    go_enter Tryz.func10, Tryz.ntmps10
    go_wp2_with fail
    refine (HG1.out).mono ?_
    rintro e w1 ⟨rfl, hx⟩
    have B1 := Lib.hid (hx)
    clear hx
    go_wp2_with fail
    refine (HW.out _ B1.out).mono ?_
    rintro e w2 ⟨rfl, hx⟩
    have B2 := Lib.hid (below_next B1.out hx ⟨rfl, rfl, rfl, rfl⟩)
    clear hx
    go_wp2_with fail
    exact HP.out _ B2.out
  rw [hga] at HG1
  cases hgb : grLB b
  case true =>
    rw [hgb] at HG2
    clear HL HB HC HT hga hgb
    go_enter Tryz.func10, Tryz.ntmps10
    go_wp2_with fail
    refine (HG1.out).mono ?_
    rintro e w1 ⟨rfl, hx⟩
    have B1 := Lib.hid (hx)
    clear hx
    go_wp2_with fail
    refine (HG2.out _ B1.out).mono ?_
    rintro e w2 ⟨rfl, hx⟩
    have B2 := Lib.hid (below_next B1.out hx ⟨rfl, rfl, rfl, rfl⟩)
    clear hx
    go_wp2_with fail
    refine (HW.out _ B2.out).mono ?_
    rintro e w3 ⟨rfl, hx⟩
    have B3 := Lib.hid (below_next B2.out hx ⟨rfl, rfl, rfl, rfl⟩)
    clear hx
    go_wp2_with fail
    exact HP.out _ B3.out
  rw [hgb] at HG2
  by_cases hq : 20 < q
  case pos =>
    have hd : decide (20 < (q : Int)) = true := by simp; omega
    clear HL HB HC HT hga hgb
    go_enter Tryz.func10, Tryz.ntmps10
    go_wp2_with fail
    refine (HG1.out).mono ?_
    rintro e w1 ⟨rfl, hx⟩
    have B1 := Lib.hid (hx)
    clear hx
    go_wp2_with fail
    refine (HG2.out _ B1.out).mono ?_
    rintro e w2 ⟨rfl, hx⟩
    have B2 := Lib.hid (below_next B1.out hx ⟨rfl, rfl, rfl, rfl⟩)
    clear hx
    go_wp2_with fail
    refine (HW.out _ B2.out).mono ?_
    rintro e w3 ⟨rfl, hx⟩
    have B3 := Lib.hid (below_next B2.out hx ⟨rfl, rfl, rfl, rfl⟩)
    clear hx
    go_wp2_with fail
    exact HP.out _ B3.out
  have hd : decide (20 < (q : Int)) = false := by simp; omega
  obtain ⟨gb, sb⟩ := grLB_parts hgb
  have hn := great_n HL.out.1 hga
  have hm16 : m ≤ 16 := by rw [← HB.out.len]; exact gb
  have hres := great_res HL.out.1 HL.out.2 hga
  have hz : ∀ p ∈ ps, p.2.2.1.length ≤ 1000 := fun p hp => by have := ((great_parts hga).2 p hp).cause; omega
  have h13 : ∀ p ∈ ps, p.2.2.1.length ≤ maxLen ∧ ∀ y ∈ p.2.2.2, y.2.2.length ≤ 13 := fun p hp => ⟨by have := hz p hp; unfold maxLen; omega, fun y hy => (((great_parts hga).2 p hp).ln y hy).2.2⟩
  have K1 := Lib.hid (fun W (h : Below w.heap.size w W) => Rows_any A n c ps ka kc W (hres.below h) hz (by omega) (HT.out.1.below h) (HT.out.2.below h))
  have K2 := Lib.hid (fun W (h : Below w.heap.size w W) => rRows_any A n c ps ka kc W (hres.below h) h13 (by omega))
  have K3 := Lib.hid (fun W (h : Below w.heap.size w W) => Kinds_any B C m d q r b ch kc W (HB.out.below h) (HC.out.1.below h) (fun x hx => by have := sb x hx; exact ⟨⟨by omega, by omega, by omega⟩, by omega⟩) (by omega) HC.out.2 (HT.out.1.below h) (HT.out.2.below h))
  have K4 := Lib.hid (fun W (h : Below w.heap.size w W) => rKinds_any B C m d q r b ch kc W (HB.out.below h) (HC.out.1.below h) (fun x hx => by have := sb x hx; omega) (by omega) HC.out.2)
  have zr := rwL_len (ps.map Prod.snd) (ka, kc)
  rw [List.length_map, HL.out.1.len] at zr
  have zk := knL_len ch kc b
  clear hres hz h13 sb gb hga hgb HL HB HC HT hm16
  generalize rwL (ps.map Prod.snd) (ka, kc) = RL at *
  generalize rwI (ps.map Prod.snd) = ri at *
  generalize knL ch kc b = KL at *
  generalize knI ch kc b = ki at *
  have K5 := Lib.hid (fun A1 c1 A2 c2 W (r1 : rowR.Rds W A1 RL.length c1 RL) (r2 : rowR.Rds W A2 RL.length c2 RL) => (show Calls Tryz.prog 43 #[.slice A1 RL.length c1, .slice A2 RL.length c2] W (fun e w' => e = .returned (.bool true) ∧ Below W.heap.size W w') by
    have h := rSameR_any A1 A2 _ c1 _ c2 _ _ W r1 r2 (by omega) (by omega)
    rw [decide_eq_true rfl] at h; exact h))
  have K6 := Lib.hid (fun A1 c1 A2 c2 W (r1 : rowI.Rds W A1 KL.length c1 KL) (r2 : rowI.Rds W A2 KL.length c2 KL) => (show Calls Tryz.prog 44 #[.slice A1 KL.length c1, .slice A2 KL.length c2] W (fun e w' => e = .returned (.bool true) ∧ Below W.heap.size W w') by
    have h := Eq44_any A1 A2 _ c1 _ c2 _ _ W r1 r2 (by omega) (by omega)
    rw [decide_eq_true rfl] at h; exact h))
  clear zr zk
  go_enter Tryz.func10, Tryz.ntmps10
  go_wp2_with fail
  refine (HG1.out).mono ?_
  rintro e w1 ⟨rfl, hx⟩
  have B1 := Lib.hid (hx)
  clear hx
  go_wp2_with fail
  refine (HG2.out _ B1.out).mono ?_
  rintro e w2 ⟨rfl, hx⟩
  have B2 := Lib.hid (below_next B1.out hx ⟨rfl, rfl, rfl, rfl⟩)
  clear hx
  go_wp2_with fail
  refine (K1.out _ B2.out).mono ?_
  intro e w3 hx
  obtain ⟨A1, c1, rfl, hr, hx2⟩ := rowsh_rds hx
  have R1 := Lib.hid hr
  have B3 := Lib.hid (below_next B2.out hx2 ⟨rfl, rfl, rfl, rfl⟩)
  clear hx hr hx2 K1 B2 HG1 HG2
  go_wp2_with fail
  refine (K2.out _ B3.out).mono ?_
  intro e w4 hx
  obtain ⟨A2, c2, rfl, hr, hx2⟩ := rowsh_rds hx
  have R2 := Lib.hid hr
  have R1' := Lib.hid (R1.out.below hx2)
  have B4 := Lib.hid (below_next B3.out hx2 ⟨rfl, rfl, rfl, rfl⟩)
  clear hx hr hx2 K2 B3 R1
  go_wp2_with fail
  refine (K3.out _ B4.out).mono ?_
  intro e w5 hx
  obtain ⟨A3, c3, rfl, hr, hx2⟩ := kndc_rds hx
  have R3 := Lib.hid hr
  have R1 := Lib.hid (R1'.out.below hx2)
  have R2' := Lib.hid (R2.out.below hx2)
  have B5 := Lib.hid (below_next B4.out hx2 ⟨rfl, rfl, rfl, rfl⟩)
  clear hx hr hx2 K3 B4 R1' R2
  go_wp2_with fail
  refine (K4.out _ B5.out).mono ?_
  intro e w6 hx
  obtain ⟨A4, c4, rfl, hr, hx2⟩ := kndc_rds hx
  have R4 := Lib.hid hr
  have R1' := Lib.hid (R1.out.below hx2)
  have R2 := Lib.hid (R2'.out.below hx2)
  have R3' := Lib.hid (R3.out.below hx2)
  have B6 := Lib.hid (below_next B5.out hx2 ⟨rfl, rfl, rfl, rfl⟩)
  clear hx hr hx2 K4 B5 R1 R2' R3
  obtain ⟨rn, hrn⟩ : ∃ z, RL.length = z := ⟨_, rfl⟩
  obtain ⟨kn, hkn⟩ : ∃ z, KL.length = z := ⟨_, rfl⟩
  rw [hrn] at R1' R2 K5 ⊢
  rw [hkn] at R3' R4 K6 ⊢
  clear hrn hkn
  go_wp2_with fail
  refine (K5.out _ _ _ _ _ R1'.out R2.out).mono ?_
  rintro e w7 ⟨rfl, hx⟩
  have R3 := Lib.hid (R3'.out.below hx)
  have R5 := Lib.hid (R4.out.below hx)
  have B7 := Lib.hid (below_next B6.out hx ⟨rfl, rfl, rfl, rfl⟩)
  clear hx K5 B6 R1' R2 R3' R4
  go_wp2_with fail
  refine (K6.out _ _ _ _ _ R3.out R5.out).mono ?_
  rintro e w8 ⟨rfl, hx⟩
  have B8 := Lib.hid (below_next B7.out hx ⟨rfl, rfl, rfl, rfl⟩)
  clear hx K6 B7 R3 R5
  go_wp2_with fail
  refine (HW.out _ B8.out).mono ?_
  rintro e w9 ⟨rfl, hx⟩
  have B9 := Lib.hid (below_next B8.out hx ⟨rfl, rfl, rfl, rfl⟩)
  clear hx HW B8
  go_wp2_with fail
  exact HP.out _ B9.out
theorem reads_row (A : Option Addr) (n c : Nat) (ps : List RE) (B : Option Addr) (m d : Nat) (b : List Ln) (C : Option Addr) (q r : Nat) (ch : List Acc) (ka kc : ByteArray) (w : World) (hl : rowE.Rds w A n c ps) (hr : ∀ p ∈ ps, RdG w p ∧ p.2.2.1.length ≤ maxLen) (hb : rowB.Rds w B m d b) (hc : Accs w C q r ch) (hcl : ∀ a ∈ ch, a.1.length < 4294967281) (ht : Tab w) (hm : ML w) :
    Calls Tryz.prog 10 #[.slice A n c, .slice B m d, .slice C q r, .string ka, .string kc] w (BoolPost true w) := by
  obtain ⟨⟨ka⟩⟩ := ka
  obtain ⟨⟨kc⟩⟩ := kc
  exact reads_in A n c ps B m d b C q r ch ka kc w hl (fun p hp => (hr p hp).1) hb hc hcl ht hm
end Go.Proofs.YtohdpidlilhnjaaGreatDoor
