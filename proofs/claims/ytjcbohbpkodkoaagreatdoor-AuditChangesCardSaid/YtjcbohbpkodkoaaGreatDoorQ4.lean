/- As in BoxC; the loop's assignment may make memory. A range over an iterator that keeps what is left in a captured cell: the iterator writes block bs between two rounds. -/
import Derived.Test.YtjcbohbpkodkoaaGreatDoorQ3
import Derived.Maps.RangeWalk
import Derived.RangeFuncNested
import Derived.RangeFuncBound
import Derived.RangeFuncCalls
import Derived.RangeFuncLeaves
import Derived.Shelf.Abstract
import Derived.Shelf.RegionOpen
import Derived.WalkKit
import Derived.OwnWalkIn
import Derived.TacticsInMore
import Derived.LoopNIn
import Derived.LoopIn
import Derived.Maps.OwnSet
import Derived.Maps.Views
import Derived.Lib.AppendIntMem
import Derived.OwnWalk
namespace Go.Proofs.YtjcbohbpkodkoaaGreatDoor
open Go.RowKit Go.Shelf

theorem range_boxA (c : Nat) {F : Fence} {n : Nat} {P : Program} {α : Type} {g : Operand} {ps : Array Tmp} {assign body : Code} {Q : Exit → Act → World → Prop} {a : Act} {w : World}
    (hro : F.round = none) (h1 : 1 ≤ n) {gf : Nat} {lb : Array Value} (hg : a.eval g = .func (.func gf) #[] lb) (hFg : F.fn gf) (eg : ∀ args w, (callFunc gf args).run P w = .ok (.enter gf args) w)
    {encs : α → Array Value} (bs : Nat) (hbs : bs < w.heap.size) (h3w : c < w.heap.size) {S Sp : List α → Prop} {N : Nat} (hseq : SeqBoxC c F (n - 1) P gf lb encs bs S Sp N w) (hps : ∀ x, (encs x).size = ps.size)
    (I Ix : List α → World → Prop) (hI : OwnFrom w.heap.size I) (hIx : OwnFrom w.heap.size Ix) (hIb : ∀ s A B, I s A → A.grownBy B (some bs) → I s B) (hIxb : ∀ s A B, Ix s A → A.grownBy B (some bs) → Ix s B) (h0 : I [] w) (a₁ : α → World → Act) (Pr : α → World → World → Prop) (hPr : ∀ x W0 W' o, w.heap.size + 1 < W0.heap.size → Pr x W0 W' → Pr x W0 (W'.putObj (w.heap.size + 1) o))
    (hassign : ∀ (l : Nat) (x : α) (W : World) (K : Act → World → Prop), (∀ W', W.grownBy W' none → Pr x W W' → K (a₁ x W) W') →
      assign.wpIn (F.inRound l) (n - 1 - 1) P (Exit.then K (fun _ _ _ => False)) { tmps := (ps.zip (encs x)).foldl (fun t (p, v) => t.setIfInBounds p v) a.tmps, defers := [] } W)
    (hbody : ∀ (l : Nat) (pre : List α) (x : α) (W0 W : World), w.heap.size + 2 ≤ W0.heap.size → I pre W → Pr x W0 W → pre.length < N → body.wpIn (F.inRound l) (n - 1 - 1) P (BoxEndC c w.heap.size bs I Ix (pre ++ [x]) W) (a₁ x W0) W)
    (hdone : ∀ (D : Nat) (xs : List α) (W : World), w.heap.size ≤ D → S xs → I xs W → W.heap[D]? = some (.deferred (some [])) → Q .normal { a with defers := { target := .collected D, args := #[] } :: a.defers } W)
    (hstop : ∀ (D : Nat) (pre : List α) (W : World), w.heap.size ≤ D → Sp pre → Ix pre W → W.heap[D]? = some (.deferred (some [])) → Code.ret.wpIn F n P Q { a with defers := { target := .collected D, args := #[] } :: a.defers } W) :
    (Code.rangeFunc g ps assign body).wpIn F n P Q a w := by
  refine wpIn_rangeFunc fun fn hfn => ?_
  rw [hro]
  let rc : LoopState → Option Code → Loop := fun st pe => { state := st, pending := pe, fn, tmps := a.tmps, params := ps, assign, body, defers := w.heap.size }
  have hrc : ∀ st pe, rc st pe = { state := st, pending := pe, fn, tmps := a.tmps, params := ps, assign, body, defers := w.heap.size } := fun _ _ => rfl
  obtain ⟨W1, hW1⟩ : ∃ W1, (w.alloc (.deferred (some []))).alloc (.loop (rc .ready none)) = W1 := ⟨_, rfl⟩
  -- the two blocks of the book-keeping
  have hD1 : W1.heap[w.heap.size]? = some (.deferred (some [])) := by
    rw [← hW1]; exact (Below.heap_alloc _ _ _ (by simp)).trans (World.alloc_heap_new w _)
  have hL1 : W1.heap[w.heap.size + 1]? = some (.loop (rc .ready none)) := by
    have h := World.alloc_heap_new (w.alloc (.deferred (some []))) (.loop (rc .ready none))
    rw [World.size_alloc] at h
    rw [← hW1]; exact h
  have hI1 : I [] W1 := by rw [← hW1]; exact hI.alloc _ (hI.alloc _ h0)
  have hb1 : Below w.heap.size w W1 := by rw [← hW1]; exact ((Below.refl _ w).alloc (Nat.le_refl _) _).alloc (by simp) _
  refine ⟨w.heap.size + 1, [{ target := .collected w.heap.size, args := #[] }], W1, { target := .fn (.func gf) lb, args := #[.func (.yield (w.heap.size + 1)) #[] #[]] }, W1, gf,
    #[.func (.yield (w.heap.size + 1)) #[] #[]] ++ lb, W1, ?_, ?_, ?_, ?_, fun _ => h1, ?_⟩
  · rw [← hW1]; exact run_enterLoop_outer _ _ _ _ _
  · simp only [resolve, hg]
    simp [go_sem]
  · intro f' hf'; simp [Target.leads] at hf'; subst hf'; exact hFg
  · simp [invoke, go_sem, eg]
  have keeps : ∀ {A B : World} {k : Nat} {o : Obj}, A.grownBy B (some bs) → w.heap.size ≤ k → A.heap[k]? = some o → B.heap[k]? = some o := fun hgr hk ho =>
    (hgr.block _ (Array.getElem?_eq_some_iff.1 ho).1 (fun e => by cases e; omega)).trans ho
  refine (hseq (w.heap.size + 1)
    (fun pre W => I pre W ∧ W.heap[w.heap.size + 1]? = some (.loop (rc .ready none)) ∧ W.heap[w.heap.size]? = some (.deferred (some [])))
    (fun pre W => Ix pre W ∧ W.heap[w.heap.size + 1]? = some (.loop (rc .done (some .ret))) ∧ W.heap[w.heap.size]? = some (.deferred (some [])))
    W1 hb1 (fun s A B hs hgr => ⟨hIb s A B hs.1 hgr, keeps hgr (by omega) hs.2.1, keeps hgr (Nat.le_refl _) hs.2.2⟩)
    (fun s A B hs hgr => ⟨hIxb s A B hs.1 hgr, keeps hgr (by omega) hs.2.1, keeps hgr (Nat.le_refl _) hs.2.2⟩) ?_ ⟨hI1, hL1, hD1⟩).mono ?_
  · -- a round
    rintro pre x W ⟨hi, hl, hk⟩ hlen
    have hlt : w.heap.size + 1 < W.heap.size := (Array.getElem?_eq_some_iff.1 hl).1
    refine ⟨fn, _, assign, body, run_yield (P := P) (args := encs x) hl (hps x), roundIn_of_wpIn hfn (hassign _ x W _ fun Wa hga hpa => ?_)⟩
    have hi := hIb _ _ _ hi (hga.but (some bs))
    have hl' := (hga.block _ hlt (by simp)).trans hl
    have hk' := (hga.block _ (by omega) (by simp)).trans hk
    have hlt' : w.heap.size + 1 < Wa.heap.size := (Array.getElem?_eq_some_iff.1 hl').1
    have hxa : TwoC c bs W Wa := ⟨hga.block _ (by omega) (by simp), hga.block _ (by omega) (by simp)⟩
    refine ⟨_, run_beginRound hl' rfl, ?_⟩
    have hl2 : (Wa.putObj (w.heap.size + 1) (.loop { rc .ready none with state := .busy })).heap[w.heap.size + 1]? = some (.loop { rc .ready none with state := .busy }) := World.putObj_heap_same hlt'
    have hk2 : (Wa.putObj (w.heap.size + 1) (.loop { rc .ready none with state := .busy })).heap[w.heap.size]? = some (.deferred (some [])) := (World.putObj_heap_other (by omega)).trans hk'
    have hx2 : TwoC c bs W (Wa.putObj (w.heap.size + 1) (.loop { rc .ready none with state := .busy })) := hxa.trans ⟨World.putObj_heap_other (by omega), World.putObj_heap_other (by omega)⟩
    refine wpIn_mono (hbody _ pre x W _ (by omega) (hI.putObj _ hi (by omega) hl' rfl) (hPr _ _ _ _ hlt hpa) hlen) ?_
    rintro e a3 W3 hp
    cases e with
    | normal =>
      obtain ⟨hk3, hkp3, hi3⟩ := hp
      have hl3 := hk3.same _ _ (by omega) hl2 rfl
      exact ⟨_, _, run_endRound (P := P) none hl3, .inl ⟨rfl, ⟨hI.putObj _ hi3 (by omega) hl3 rfl, World.putObj_heap_same (Array.getElem?_eq_some_iff.1 hl3).1, (World.putObj_heap_other (by omega)).trans (hk3.same _ _ (Nat.le_refl _) hk2 rfl)⟩,
        (hx2.trans hkp3).trans ⟨World.putObj_heap_other (by omega), World.putObj_heap_other (by omega)⟩⟩⟩
    | ret =>
      obtain ⟨hk3, hi3⟩ := hp
      have hl3 := hk3.same _ _ (by omega) hl2 rfl
      exact ⟨_, _, run_endRound (P := P) (some .ret) hl3, .inr ⟨rfl, hIx.putObj _ hi3 (by omega) hl3 rfl, World.putObj_heap_same (Array.getElem?_eq_some_iff.1 hl3).1, (World.putObj_heap_other (by omega)).trans (hk3.same _ _ (Nat.le_refl _) hk2 rfl)⟩⟩
    | exit id => exact hp.elim
    | goto t => exact hp.elim
    | panic ch => exact hp.elim
    | outgrown => exact hp.elim
  · -- behind the iterator
    rintro e W2 ⟨⟨v, rfl⟩, (⟨xs, hS, hi, hl, hk⟩ | ⟨pre, hSp, hi, hl, hk⟩)⟩
    · exact ⟨none, _, run_endLoop (P := P) hl (by simp [hrc]), hdone _ xs _ (Nat.le_refl _) hS (hI.putObj _ hi (by omega) hl rfl) ((World.putObj_heap_other (by omega)).trans hk)⟩
    · exact ⟨some .ret, _, run_endLoop (P := P) hl (by simp [hrc]), hstop _ pre _ (Nat.le_refl _) hSp (hIx.putObj _ hi (by omega) hl rfl) ((World.putObj_heap_other (by omega)).trans hk)⟩
end Go.Proofs.YtjcbohbpkodkoaaGreatDoor

/- Contracts of money.sum and money.Put at no money and one of amount 0. -/
namespace Go.Proofs.YtjcbohbpkodkoaaGreatDoor
open Go.RowKit Go.Shelf Num
attribute [local go_sem] Oper.semAt_some

/-- what the loop in sum keeps in memory -/
structure SI (w : World) (W : World) : Prop where
  ho : Boxed W w.heap.size 167 (.slice none 0 0)
  bel : Below w.heap.size w W
  sz : w.heap.size + 3 ≤ W.heap.size
theorem SI.grown {w W W' : World} {row : Option Nat} (h : SI w W) (hg : W.grownBy W' row) (hrow : ∀ r, row = some r → w.heap.size < r) : SI w W' :=
  ⟨h.ho.kept hg (fun e => by have := hrow _ e.symm; omega), h.bel.grown hg h.bel.size (fun k e => Nat.le_of_lt (hrow k e)), Nat.le_trans h.sz hg.size⟩
theorem SI.below {w W W' : World} (h : SI w W) (hb : Below W.heap.size W W') : SI w W' :=
  ⟨(hb.block _ h.ho.lt).trans h.ho, h.bel.trans (hb.mono h.bel.size), Nat.le_trans h.sz hb.size⟩
def AmP (_ : Unit) (W0 W : World) : Prop := W.cell? ⟨W0.heap.size, 0, none⟩ = some (.string ⟨#[]⟩) ∧ W.cell? ⟨W0.heap.size, 1, none⟩ = some (.string ⟨#[]⟩)
theorem AmP.put {x : Unit} {W0 W : World} (h : AmP x W0 W) {b : Nat} (hb : b < W0.heap.size) (o : Obj) : AmP x W0 (W.putObj b o) :=
  ⟨(World.cell?_of_block (a := ⟨W0.heap.size, 0, none⟩) (World.putObj_heap_other (by simp; omega))).trans h.1, (World.cell?_of_block (a := ⟨W0.heap.size, 1, none⟩) (World.putObj_heap_other (by simp; omega))).trans h.2⟩
set_option maxRecDepth 100000 in
set_option maxHeartbeats 4000000 in
theorem sum_one (d : Nat) (hd : 1 ≤ d) (bm : Nat) (l : List UInt8) (w : World) (m0 : w.cell? ⟨bm, 0, none⟩ = some (.string ⟨l.toArray⟩)) (m1 : w.cell? ⟨bm, 1, none⟩ = some (.string ⟨#[]⟩)) (ht : Tab w) :
    CallsIn Fence.wide d Tryz.prog 167 #[.slice none 0 0, .slice (some ⟨bm, 0, none⟩) 1 1] w fun e w' => e = .returned (.tuple #[.slice none 0 0, .int .i64 0]) ∧ Below w.heap.size w w' := by
  refine callsIn_of_wp_marks Tryz.func167 rfl trivial ?_ rfl
  simp only [Tryz.ntmps167, List.size_toArray, List.length_cons, List.length_nil, Nat.reduceAdd, Nat.reduceSub, Array.replicate_succ, Array.replicate_zero, List.push_toArray, List.append_toArray, List.nil_append, List.cons_append]
  gi_wp2_with (refine ⟨trivial, ?_⟩; refine (callsIn_wide.2 (both_any _ _ _ _)).mono ?_; rintro e w' ⟨rfl, rfl⟩)
  have hbl : bm < w.heap.size := block_lt_of_cell m0
  have b0 := Boxed.new w 167 (.slice none 0 0)
  have b1 := Boxed.new (w.alloc (.cells #[.slice none 0 0] 167)) 167 (.slice none 0 0)
  have b2 := Boxed.new ((w.alloc (.cells #[.slice none 0 0] 167)).alloc (.cells #[.slice none 0 0] 167)) 167 (.slice (some ⟨bm, 0, none⟩) 1 1)
  simp only [World.size_alloc] at b1 b2 ⊢
  have hB0 : Below w.heap.size w (((w.alloc (.cells #[.slice none 0 0] 167)).alloc (.cells #[.slice none 0 0] 167)).alloc (.cells #[.slice (some ⟨bm, 0, none⟩) 1 1] 167)) := ex_alloc3 w _ _ _
  have hF0 : SI w (((w.alloc (.cells #[.slice none 0 0] 167)).alloc (.cells #[.slice none 0 0] 167)).alloc (.cells #[.slice (some ⟨bm, 0, none⟩) 1 1] 167)) := ⟨(b0.alloc _).alloc _, hB0, by simp⟩
  have b1' := b1.alloc (.cells #[.slice (some ⟨bm, 0, none⟩) 1 1] 167)
  have hsz : (((w.alloc (.cells #[.slice none 0 0] 167)).alloc (.cells #[.slice none 0 0] 167)).alloc (.cells #[.slice (some ⟨bm, 0, none⟩) 1 1] 167)).heap.size = w.heap.size + 3 := by simp
  clear b0 b1
  generalize (((w.alloc (.cells #[.slice none 0 0] 167)).alloc (.cells #[.slice none 0 0] 167)).alloc (.cells #[.slice (some ⟨bm, 0, none⟩) 1 1] 167)) = W0 at *
  have n0 := (hB0.cell (p := ⟨bm, 0, none⟩) hbl).trans m0
  have n1 := (hB0.cell (p := ⟨bm, 1, none⟩) hbl).trans m1
  refine range_boxA (w.heap.size + 1) rfl hd (gf := 215) (lb := #[.pointer (some ⟨w.heap.size + 1, 0, none⟩), .pointer (some ⟨w.heap.size + 1 + 1, 0, none⟩)]) rfl trivial (enters_of Tryz.func215 (by kernel_rfl) rfl) (w.heap.size + 1 + 1) (by omega) (by omega)
    (both_stops (d - 1) (w.heap.size + 1) (w.heap.size + 1 + 1) bm l W0 b1' b2 n0 n1 (by omega) (by omega) (by omega)) (fun _ => rfl)
    (fun _ W => SI w W) (fun _ _ => False)
    (fun s A B row hs hg hr => hs.grown hg (fun r e => by have := (hr r e).1; omega))
    (fun s A B row hs hg hr => hs)
    (fun s A B hs hg => hs.grown hg (fun r e => by cases e; omega))
    (fun s A B hs hg => hs)
    hF0
    (fun _ Wp => { tmps := #[.slice none 0 0, .slice (some ⟨bm, 0, none⟩) 1 1, undef, undef, .slice none 0 0, .int .i64 0, .pointer (some ⟨w.heap.size, 0, none⟩), .string ⟨l.toArray⟩, .pointer (some ⟨Wp.heap.size, 0, none⟩), undef, .slice none 0 0, .slice (some ⟨bm, 0, none⟩) 1 1, .func (.func 215) #[] #[.pointer (some ⟨w.heap.size + 1, 0, none⟩), .pointer (some ⟨w.heap.size + 1 + 1, 0, none⟩)], .string ⟨l.toArray⟩, .agg #[.string ⟨#[]⟩, .string ⟨#[]⟩], undef, undef, undef, undef, undef, undef, undef, undef, undef, undef, undef, undef, undef, undef, undef, undef, undef], defers := [] })
    AmP (fun x W0 W' o hlt h => h.put hlt o) ?assign ?body ?done ?stop
  case assign =>
    intro lp x W K hK
    gi_wp2
    exact hK _ (World.grownBy_alloc _ _ _) ⟨by go_simp, by go_simp⟩
  case body =>
    rintro lp pre x Wp W hWp hF ⟨p0, p1⟩ _
    have htW : Tab W := ht.below hF.bel
    have hadd : CallsIn (Fence.wide.inRound lp) (d - 1 - 1 - 1) Tryz.prog 68 #[.string ⟨#[]⟩, .string ⟨#[]⟩] W fun e w' => e = .returned (.string ⟨#[]⟩) ∧ Below W.heap.size W w' := by
      refine CallsIn.inRound lp (callsIn_wide.2 ?_)
      refine (Add_any ⟨#[]⟩ ⟨#[]⟩ W (by decide) (by decide) htW).mono ?_
      rintro e w' ⟨he, hb⟩
      refine ⟨?_, hb⟩
      have e0 : txt (val (⟨#[]⟩ : ByteArray).data.toList + val (⟨#[]⟩ : ByteArray).data.toList) = [] := txt_zero
      rw [he, e0]
    have HA := Lib.hid hadd
    clear hadd b1' b2 hF0 hB0 n0 n1 m0 m1
    gi_wp2_with (refine ⟨trivial, fun h => (by cases h), ?_⟩; refine HA.out.mono ?_; rintro e W3 ⟨rfl, hb3⟩)
    refine ⟨(keeps_of_below hb3).from _, ⟨hb3.block _ ?_, hb3.block _ ?_⟩, hF.below hb3⟩
    · have := hF.sz; omega
    · have := hF.sz; omega
  case done =>
    rintro D ys W hD hys hF hK
    have c0 := hF.ho.cell
    clear b1' b2 hF0 hB0 n0 n1 m0 m1
    gi_wp2
    refine ⟨by simp, .inl ⟨_, _, rfl, run_takeDeferred hK, ?_⟩⟩
    refine ⟨.tuple #[.slice none 0 0, .int .i64 0], ?_, rfl, hF.bel.trans (belowK_b (w := w) (Nat.le_refl _) W D _ _ (by omega) hK rfl rfl)⟩
    simp [results, Tryz.f167, go_sem]
  case stop =>
    rintro D pre W hD hpre hF hK
    exact hF.elim
theorem chkI_nil : chkI [] = 0 := by
  have : can [] = [] := txt_zero
  rw [chkI, if_pos this]
def PutPost (l : List UInt8) (w : World) (e : Ending) (w' : World) : Prop := e = .returned (.tuple #[.slice none 0 0, .int .i64 (if curB l then 0 else 23)]) ∧ Below w.heap.size w w'
set_option maxRecDepth 100000 in
theorem Put_any (l : List UInt8) (w : World) (hl : l.length ≤ maxLen) (ht : Tab w) : Calls Tryz.prog 130 #[.slice none 0 0, .agg #[.string ⟨l.toArray⟩, .string ⟨#[]⟩]] w (PutPost l w) := by
  have h1 := fun W => isCode_any ⟨l.toArray⟩ W hl
  have e1 : (⟨l.toArray⟩ : ByteArray).data.toList = l := rfl
  rw [e1] at h1
  have h2 := fun W => Check_any ⟨#[]⟩ W (by decide)
  have e2 : chkI (⟨#[]⟩ : ByteArray).data.toList = 0 := chkI_nil
  rw [e2] at h2
  unfold IntPost at h2
  have H1 := Lib.hid h1
  have H2 := Lib.hid h2
  have hq := Lib.hid (show PutPost l w = fun e w' => e = .returned (.tuple #[.slice none 0 0, .int .i64 (if curB l then 0 else 23)]) ∧ Below w.heap.size w w' from rfl)
  clear h1 h2 e1 e2
  have hbx : Below w.heap.size w (w.alloc (.cells #[.string ⟨l.toArray⟩, .string ⟨#[]⟩] 171)) := (Below.refl _ w).alloc (Nat.le_refl _) _
  have x0 : (w.alloc (.cells #[.string ⟨l.toArray⟩, .string ⟨#[]⟩] 171)).cell? ⟨w.heap.size, 0, none⟩ = some (.string ⟨l.toArray⟩) := by go_simp
  have x1 : (w.alloc (.cells #[.string ⟨l.toArray⟩, .string ⟨#[]⟩] 171)).cell? ⟨w.heap.size, 1, none⟩ = some (.string ⟨#[]⟩) := by go_simp
  cases hc : curB l
  · have H1' := Lib.hid (by have := H1.out; rw [hc] at this; exact this)
    go_enter Tryz.func130, Tryz.ntmps130
    go_wp2_with fail
    refine (MCheck_nil _).mono ?_
    rintro e w1 ⟨rfl, rfl⟩
    go_wp2_with fail
    refine (H1'.out _).mono ?_
    rintro e w1 ⟨rfl, rfl⟩
    go_wp2_with fail
    go_ret2
    rw [hq.out]
    exact ⟨by rw [hc]; rfl, hbx⟩
  · have H1' := Lib.hid (by have := H1.out; rw [hc] at this; exact this)
    go_enter Tryz.func130, Tryz.ntmps130
    go_wp2_with fail
    refine (MCheck_nil _).mono ?_
    rintro e w1 ⟨rfl, rfl⟩
    go_wp2_with fail
    refine (H1'.out _).mono ?_
    rintro e w1 ⟨rfl, rfl⟩
    go_wp2_with fail
    refine (H2.out _).mono ?_
    rintro e w1 ⟨rfl, hb1⟩
    have x0' := (hb1.cell (p := ⟨w.heap.size, 0, none⟩) (by simp)).trans x0
    have x1' := (hb1.cell (p := ⟨w.heap.size, 1, none⟩) (by simp)).trans x1
    have B1 := Lib.hid (hbx.trans (hb1.mono (by simp)))
    clear x0 x1 hb1
    go_wp2_with fail
    have hal : Below w1.heap.size w1 (w1.alloc (.cells #[.string ⟨l.toArray⟩, .string ⟨#[]⟩] 171)) := (Below.refl _ _).alloc (Nat.le_refl _) _
    have B2 := Lib.hid (B1.out.trans (hal.mono B1.out.size))
    have hs := (callsIn_wide (n := 5)).1 (sum_one 5 (by omega) w1.heap.size l (w1.alloc (.cells #[.string ⟨l.toArray⟩, .string ⟨#[]⟩] 171)) (by go_simp) (by go_simp) (ht.below B2.out))
    refine hs.mono ?_
    rintro e w2 ⟨rfl, hb2⟩
    have B3 := Lib.hid (B2.out.trans (hb2.mono B2.out.size))
    clear hs hal hb2
    go_wp2_with fail
    go_ret2
    rw [hq.out]
    exact ⟨by rw [hc]; rfl, B3.out⟩
end Go.Proofs.YtjcbohbpkodkoaaGreatDoor

/- Lines and entries in memory; contracts of isCause, checkHead, checkLine. -/
namespace Go.Proofs.YtjcbohbpkodkoaaGreatDoor
open Go.RowKit Num

/-- a byte of a cause -/
def causeC (c : UInt8) : Bool := decide (97 ≤ c.toNat ∧ c.toNat ≤ 122 ∨ 48 ≤ c.toNat ∧ c.toNat ≤ 57 ∨ c.toNat = 95 ∨ c.toNat = 45 ∨ c.toNat = 32)
def causeB (l : List UInt8) : Bool := l.all causeC && (decide (1 ≤ l.length) && decide (l.length ≤ 48))
theorem zones11 (z : Nat) : (z < 32) ∨ (z = 32) ∨ (33 ≤ z ∧ z ≤ 44) ∨ (z = 45) ∨ (46 ≤ z ∧ z ≤ 47) ∨ (48 ≤ z ∧ z ≤ 57) ∨ (58 ≤ z ∧ z ≤ 94) ∨ (z = 95) ∨ (z = 96) ∨ (97 ≤ z ∧ z ≤ 122) ∨ (122 < z) := by omega
set_option maxHeartbeats 4000000 in
set_option maxRecDepth 100000 in
theorem isCause_any (s : ByteArray) (w : World) (hs : s.size ≤ maxLen) : Calls Tryz.prog 178 #[.string s] w fun e w' => e = .returned (.bool (causeB s.data.toList)) ∧ w = w' := by
  unfold maxLen at hs
  have hl : s.data.toList.length = s.size := rfl
  have hnb := Lib.hid (show causeB s.data.toList = (s.data.toList.all causeC && (decide (1 ≤ s.size) && decide (s.size ≤ 48))) from rfl)
  have HL := Lib.hid hl
  clear hl
  have hget : ∀ k (h : k < s.size), s.data.toList.getD k 0 = s[k] := fun k h => by rw [List.getD_eq_getElem?_getD, List.getElem?_eq_getElem (by simpa using h)]; rfl
  have HG := Lib.hid hget
  clear hget
  go_enter Tryz.func178, Tryz.ntmps178
  go_wp2_with fail
  go_loop [7] (fun i => ∃ k : Nat, k ≤ s.size ∧ i = .int .i64 (k : Int) ∧ Hid ((s.data.toList.take k).all causeC = true)) (fun i => s.size - (intOf i).toNat)
  case atStart => exact ⟨0, by omega, rfl, rfl⟩
  case round =>
    obtain ⟨k, hk, rfl, HA⟩ := hrel
    by_cases hlt : k < s.size
    · have hal := Lib.hid (allp_take_succ causeC s.data.toList k (by rw [HL.out]; exact hlt))
      have hno := Lib.hid (fun h => notp_all (p := causeC) (l := s.data.toList) (k := k) (by rw [HL.out]; exact hlt) h)
      have hnc := Lib.hid (show causeC (s.data.toList.getD k 0) = decide (97 ≤ (s[k]).toNat ∧ (s[k]).toNat ≤ 122 ∨ 48 ≤ (s[k]).toNat ∧ (s[k]).toNat ≤ 57 ∨ (s[k]).toNat = 95 ∨ (s[k]).toNat = 45 ∨ (s[k]).toNat = 32) by rw [HG.out k hlt]; rfl)
      have hzz := zones11 s[k].toNat
      generalize causeC (s.data.toList.getD k 0) = nc at *
      have hki : (k : Int) < (s.size : Int) := by omega
      rcases hzz with hz | hz | hz | hz | hz | hz | hz | hz | hz | hz | hz
      · have t0 : decide ((s[k].toNat : Int) < 97) = true := by rw [decide_eq_true_iff]; omega
        have t1 : decide (122 < (s[k].toNat : Int)) = false := by rw [decide_eq_false_iff_not]; omega
        have t2 : decide ((s[k].toNat : Int) < 48) = true := by rw [decide_eq_true_iff]; omega
        have t3 : decide (57 < (s[k].toNat : Int)) = false := by rw [decide_eq_false_iff_not]; omega
        have t4 : ((s[k].toNat : Int) != 95) = true := by rw [bne_iff_ne]; omega
        have t5 : ((s[k].toNat : Int) != 45) = true := by rw [bne_iff_ne]; omega
        have t6 : ((s[k].toNat : Int) != 32) = true := by rw [bne_iff_ne]; omega
        have hncv := Lib.hid (show nc = false by rw [hnc.out, decide_eq_false_iff_not]; omega)
        clear hz
        go_wp2_with fail
        go_ret
        exact ⟨ret_bool (by rw [hnb.out, hno.out hncv.out, Bool.false_and]), rfl⟩
      · have t0 : decide ((s[k].toNat : Int) < 97) = true := by rw [decide_eq_true_iff]; omega
        have t1 : decide (122 < (s[k].toNat : Int)) = false := by rw [decide_eq_false_iff_not]; omega
        have t2 : decide ((s[k].toNat : Int) < 48) = true := by rw [decide_eq_true_iff]; omega
        have t3 : decide (57 < (s[k].toNat : Int)) = false := by rw [decide_eq_false_iff_not]; omega
        have t4 : ((s[k].toNat : Int) != 95) = true := by rw [bne_iff_ne]; omega
        have t5 : ((s[k].toNat : Int) != 45) = true := by rw [bne_iff_ne]; omega
        have t6 : ((s[k].toNat : Int) != 32) = false := by rw [bne_eq_false_iff_eq]; omega
        have hncv := Lib.hid (show nc = true by rw [hnc.out, decide_eq_true_iff]; omega)
        clear hz
        go_wp2_with fail
        go_round
        case rel => exact ⟨k + 1, by omega, by go_num, by show _ = _; rw [hal.out, HA.out, hncv.out]; rfl⟩
        case measure => simp [intOf]; omega
      · have t0 : decide ((s[k].toNat : Int) < 97) = true := by rw [decide_eq_true_iff]; omega
        have t1 : decide (122 < (s[k].toNat : Int)) = false := by rw [decide_eq_false_iff_not]; omega
        have t2 : decide ((s[k].toNat : Int) < 48) = true := by rw [decide_eq_true_iff]; omega
        have t3 : decide (57 < (s[k].toNat : Int)) = false := by rw [decide_eq_false_iff_not]; omega
        have t4 : ((s[k].toNat : Int) != 95) = true := by rw [bne_iff_ne]; omega
        have t5 : ((s[k].toNat : Int) != 45) = true := by rw [bne_iff_ne]; omega
        have t6 : ((s[k].toNat : Int) != 32) = true := by rw [bne_iff_ne]; omega
        have hncv := Lib.hid (show nc = false by rw [hnc.out, decide_eq_false_iff_not]; omega)
        clear hz
        go_wp2_with fail
        go_ret
        exact ⟨ret_bool (by rw [hnb.out, hno.out hncv.out, Bool.false_and]), rfl⟩
      · have t0 : decide ((s[k].toNat : Int) < 97) = true := by rw [decide_eq_true_iff]; omega
        have t1 : decide (122 < (s[k].toNat : Int)) = false := by rw [decide_eq_false_iff_not]; omega
        have t2 : decide ((s[k].toNat : Int) < 48) = true := by rw [decide_eq_true_iff]; omega
        have t3 : decide (57 < (s[k].toNat : Int)) = false := by rw [decide_eq_false_iff_not]; omega
        have t4 : ((s[k].toNat : Int) != 95) = true := by rw [bne_iff_ne]; omega
        have t5 : ((s[k].toNat : Int) != 45) = false := by rw [bne_eq_false_iff_eq]; omega
        have t6 : ((s[k].toNat : Int) != 32) = true := by rw [bne_iff_ne]; omega
        have hncv := Lib.hid (show nc = true by rw [hnc.out, decide_eq_true_iff]; omega)
        clear hz
        go_wp2_with fail
        go_round
        case rel => exact ⟨k + 1, by omega, by go_num, by show _ = _; rw [hal.out, HA.out, hncv.out]; rfl⟩
        case measure => simp [intOf]; omega
      · have t0 : decide ((s[k].toNat : Int) < 97) = true := by rw [decide_eq_true_iff]; omega
        have t1 : decide (122 < (s[k].toNat : Int)) = false := by rw [decide_eq_false_iff_not]; omega
        have t2 : decide ((s[k].toNat : Int) < 48) = true := by rw [decide_eq_true_iff]; omega
        have t3 : decide (57 < (s[k].toNat : Int)) = false := by rw [decide_eq_false_iff_not]; omega
        have t4 : ((s[k].toNat : Int) != 95) = true := by rw [bne_iff_ne]; omega
        have t5 : ((s[k].toNat : Int) != 45) = true := by rw [bne_iff_ne]; omega
        have t6 : ((s[k].toNat : Int) != 32) = true := by rw [bne_iff_ne]; omega
        have hncv := Lib.hid (show nc = false by rw [hnc.out, decide_eq_false_iff_not]; omega)
        clear hz
        go_wp2_with fail
        go_ret
        exact ⟨ret_bool (by rw [hnb.out, hno.out hncv.out, Bool.false_and]), rfl⟩
      · have t0 : decide ((s[k].toNat : Int) < 97) = true := by rw [decide_eq_true_iff]; omega
        have t1 : decide (122 < (s[k].toNat : Int)) = false := by rw [decide_eq_false_iff_not]; omega
        have t2 : decide ((s[k].toNat : Int) < 48) = false := by rw [decide_eq_false_iff_not]; omega
        have t3 : decide (57 < (s[k].toNat : Int)) = false := by rw [decide_eq_false_iff_not]; omega
        have t4 : ((s[k].toNat : Int) != 95) = true := by rw [bne_iff_ne]; omega
        have t5 : ((s[k].toNat : Int) != 45) = true := by rw [bne_iff_ne]; omega
        have t6 : ((s[k].toNat : Int) != 32) = true := by rw [bne_iff_ne]; omega
        have hncv := Lib.hid (show nc = true by rw [hnc.out, decide_eq_true_iff]; omega)
        clear hz
        go_wp2_with fail
        go_round
        case rel => exact ⟨k + 1, by omega, by go_num, by show _ = _; rw [hal.out, HA.out, hncv.out]; rfl⟩
        case measure => simp [intOf]; omega
      · have t0 : decide ((s[k].toNat : Int) < 97) = true := by rw [decide_eq_true_iff]; omega
        have t1 : decide (122 < (s[k].toNat : Int)) = false := by rw [decide_eq_false_iff_not]; omega
        have t2 : decide ((s[k].toNat : Int) < 48) = false := by rw [decide_eq_false_iff_not]; omega
        have t3 : decide (57 < (s[k].toNat : Int)) = true := by rw [decide_eq_true_iff]; omega
        have t4 : ((s[k].toNat : Int) != 95) = true := by rw [bne_iff_ne]; omega
        have t5 : ((s[k].toNat : Int) != 45) = true := by rw [bne_iff_ne]; omega
        have t6 : ((s[k].toNat : Int) != 32) = true := by rw [bne_iff_ne]; omega
        have hncv := Lib.hid (show nc = false by rw [hnc.out, decide_eq_false_iff_not]; omega)
        clear hz
        go_wp2_with fail
        go_ret
        exact ⟨ret_bool (by rw [hnb.out, hno.out hncv.out, Bool.false_and]), rfl⟩
      · have t0 : decide ((s[k].toNat : Int) < 97) = true := by rw [decide_eq_true_iff]; omega
        have t1 : decide (122 < (s[k].toNat : Int)) = false := by rw [decide_eq_false_iff_not]; omega
        have t2 : decide ((s[k].toNat : Int) < 48) = false := by rw [decide_eq_false_iff_not]; omega
        have t3 : decide (57 < (s[k].toNat : Int)) = true := by rw [decide_eq_true_iff]; omega
        have t4 : ((s[k].toNat : Int) != 95) = false := by rw [bne_eq_false_iff_eq]; omega
        have t5 : ((s[k].toNat : Int) != 45) = true := by rw [bne_iff_ne]; omega
        have t6 : ((s[k].toNat : Int) != 32) = true := by rw [bne_iff_ne]; omega
        have hncv := Lib.hid (show nc = true by rw [hnc.out, decide_eq_true_iff]; omega)
        clear hz
        go_wp2_with fail
        go_round
        case rel => exact ⟨k + 1, by omega, by go_num, by show _ = _; rw [hal.out, HA.out, hncv.out]; rfl⟩
        case measure => simp [intOf]; omega
      · have t0 : decide ((s[k].toNat : Int) < 97) = true := by rw [decide_eq_true_iff]; omega
        have t1 : decide (122 < (s[k].toNat : Int)) = false := by rw [decide_eq_false_iff_not]; omega
        have t2 : decide ((s[k].toNat : Int) < 48) = false := by rw [decide_eq_false_iff_not]; omega
        have t3 : decide (57 < (s[k].toNat : Int)) = true := by rw [decide_eq_true_iff]; omega
        have t4 : ((s[k].toNat : Int) != 95) = true := by rw [bne_iff_ne]; omega
        have t5 : ((s[k].toNat : Int) != 45) = true := by rw [bne_iff_ne]; omega
        have t6 : ((s[k].toNat : Int) != 32) = true := by rw [bne_iff_ne]; omega
        have hncv := Lib.hid (show nc = false by rw [hnc.out, decide_eq_false_iff_not]; omega)
        clear hz
        go_wp2_with fail
        go_ret
        exact ⟨ret_bool (by rw [hnb.out, hno.out hncv.out, Bool.false_and]), rfl⟩
      · have t0 : decide ((s[k].toNat : Int) < 97) = false := by rw [decide_eq_false_iff_not]; omega
        have t1 : decide (122 < (s[k].toNat : Int)) = false := by rw [decide_eq_false_iff_not]; omega
        have t2 : decide ((s[k].toNat : Int) < 48) = false := by rw [decide_eq_false_iff_not]; omega
        have t3 : decide (57 < (s[k].toNat : Int)) = true := by rw [decide_eq_true_iff]; omega
        have t4 : ((s[k].toNat : Int) != 95) = true := by rw [bne_iff_ne]; omega
        have t5 : ((s[k].toNat : Int) != 45) = true := by rw [bne_iff_ne]; omega
        have t6 : ((s[k].toNat : Int) != 32) = true := by rw [bne_iff_ne]; omega
        have hncv := Lib.hid (show nc = true by rw [hnc.out, decide_eq_true_iff]; omega)
        clear hz
        go_wp2_with fail
        go_round
        case rel => exact ⟨k + 1, by omega, by go_num, by show _ = _; rw [hal.out, HA.out, hncv.out]; rfl⟩
        case measure => simp [intOf]; omega
      · have t0 : decide ((s[k].toNat : Int) < 97) = false := by rw [decide_eq_false_iff_not]; omega
        have t1 : decide (122 < (s[k].toNat : Int)) = true := by rw [decide_eq_true_iff]; omega
        have t2 : decide ((s[k].toNat : Int) < 48) = false := by rw [decide_eq_false_iff_not]; omega
        have t3 : decide (57 < (s[k].toNat : Int)) = true := by rw [decide_eq_true_iff]; omega
        have t4 : ((s[k].toNat : Int) != 95) = true := by rw [bne_iff_ne]; omega
        have t5 : ((s[k].toNat : Int) != 45) = true := by rw [bne_iff_ne]; omega
        have t6 : ((s[k].toNat : Int) != 32) = true := by rw [bne_iff_ne]; omega
        have hncv := Lib.hid (show nc = false by rw [hnc.out, decide_eq_false_iff_not]; omega)
        clear hz
        go_wp2_with fail
        go_ret
        exact ⟨ret_bool (by rw [hnb.out, hno.out hncv.out, Bool.false_and]), rfl⟩
    · have hfin := Lib.hid (show s.data.toList.all causeC = true by
        have := HA.out
        rwa [List.take_of_length_le (by rw [HL.out]; omega)] at this)
      by_cases h1 : 1 ≤ s.size
      · by_cases h2 : s.size ≤ 48
        · have d1 : decide (1 ≤ (s.size : Int)) = true := by rw [decide_eq_true_iff]; omega
          have d2 : decide ((s.size : Int) ≤ 48) = true := by rw [decide_eq_true_iff]; omega
          have hv := Lib.hid (show true = causeB s.data.toList by rw [hnb.out, hfin.out, decide_eq_true h1, decide_eq_true h2]; rfl)
          go_wp2_with fail
          go_ret
          exact ⟨ret_bool hv.out, rfl⟩
        · have d1 : decide (1 ≤ (s.size : Int)) = true := by rw [decide_eq_true_iff]; omega
          have d2 : decide ((s.size : Int) ≤ 48) = false := by rw [decide_eq_false_iff_not]; omega
          have hv := Lib.hid (show false = causeB s.data.toList by rw [hnb.out, hfin.out, decide_eq_true h1, decide_eq_false h2]; rfl)
          go_wp2_with fail
          go_ret
          exact ⟨ret_bool hv.out, rfl⟩
      · have d1 : decide (1 ≤ (s.size : Int)) = false := by rw [decide_eq_false_iff_not]; omega
        have hv := Lib.hid (show false = causeB s.data.toList by rw [hnb.out, hfin.out, decide_eq_false h1]; rfl)
        go_wp2_with fail
        go_ret
        exact ⟨ret_bool hv.out, rfl⟩
/-- 0, 13: the day, 23: the cause -/
def headI (d : Int) (c : List UInt8) : Int := if d < -25567 ∨ 84005 < d then 13 else if causeB c then 0 else 23
set_option maxRecDepth 100000 in
theorem checkHead_any (d : Int) (l : List UInt8) (A : Option Addr) (n c : Nat) (w : World) (hl : l.length ≤ maxLen) :
    Calls Tryz.prog 141 #[.agg #[.int .i64 d, .string ⟨l.toArray⟩, .slice A n c]] w (IntPost (headI d l) w) := by
  have h1 := fun W => isCause_any ⟨l.toArray⟩ W hl
  have e1 : (⟨l.toArray⟩ : ByteArray).data.toList = l := rfl
  rw [e1] at h1
  have hh := Lib.hid (show headI d l = if d < -25567 ∨ 84005 < d then 13 else if causeB l then 0 else 23 from rfl)
  have hbx : Below w.heap.size w (w.alloc (.cells #[.int .i64 d, .string ⟨l.toArray⟩, .slice A n c] 40)) := (Below.refl _ w).alloc (Nat.le_refl _) _
  generalize causeB l = cb at *
  have H1 := Lib.hid h1
  clear h1 e1
  by_cases ha : d < -25567
  · have t1 : decide (d < -25567) = true := decide_eq_true ha
    have hv := Lib.hid (show headI d l = 13 by rw [hh.out, if_pos (.inl ha)])
    clear ha
    go_enter Tryz.func141, Tryz.ntmps141
    go_wp2_with fail
    go_ret
    exact ⟨by rw [hv.out]; rfl, hbx⟩
  by_cases hb : 84005 < d
  · have t1 : decide (d < -25567) = false := decide_eq_false ha
    have t2 : decide (84005 < d) = true := decide_eq_true hb
    have hv := Lib.hid (show headI d l = 13 by rw [hh.out, if_pos (.inr hb)])
    clear ha hb
    go_enter Tryz.func141, Tryz.ntmps141
    go_wp2_with fail
    go_ret
    exact ⟨by rw [hv.out]; rfl, hbx⟩
  have t1 : decide (d < -25567) = false := decide_eq_false ha
  have t2 : decide (84005 < d) = false := decide_eq_false hb
  have hv := Lib.hid (show headI d l = if cb then 0 else 23 by rw [hh.out, if_neg (by omega)])
  clear ha hb
  cases cb
  · go_enter Tryz.func141, Tryz.ntmps141
    go_wp2_with fail
    refine (H1.out _).mono ?_
    rintro e w1 ⟨rfl, rfl⟩
    go_wp2_with fail
    go_ret
    exact ⟨by rw [hv.out]; rfl, hbx⟩
  · go_enter Tryz.func141, Tryz.ntmps141
    go_wp2_with fail
    refine (H1.out _).mono ?_
    rintro e w1 ⟨rfl, rfl⟩
    go_wp2_with fail
    go_ret
    exact ⟨by rw [hv.out]; rfl, hbx⟩
/-- a line's value -/
def lnV (x : Ln) : Array Value := #[.string ⟨x.1.toArray⟩, .string ⟨x.2.1.toArray⟩, .string ⟨x.2.2.toArray⟩]
/-- 0; 3: the account, 12: the currency, 1: the amount -/
def lineI (x : Ln) : Int := if codeB x.1 then if curB x.2.1 then chkI x.2.2 else 12 else 3
/-- strings of a bounded size -/
def Sml (x : Ln) : Prop := x.1.length ≤ 1000 ∧ x.2.1.length ≤ 1000 ∧ x.2.2.length ≤ 100
set_option maxRecDepth 100000 in
set_option maxHeartbeats 1000000 in
theorem checkLine_any (x : Ln) (w : World) (hx : Sml x) (hm : ML w) (ht : Tab w) : Calls Tryz.prog 142 #[.agg (lnV x)] w (IntPost (lineI x) w) := by
  obtain ⟨a, c, m⟩ := x
  obtain ⟨ha, hc, hmm⟩ := hx
  simp only at ha hc hmm
  have h1 := fun W hW => AccCheck_any ⟨a.toArray⟩ W (show a.length < _ by omega) hW
  have h2 := fun W hW => Put_any c W (by unfold maxLen; omega) hW
  have h3 := fun W => Check_any ⟨m.toArray⟩ W (show m.length ≤ _ by omega)
  have e1 : (⟨a.toArray⟩ : ByteArray).data.toList = a := rfl
  have e3 : (⟨m.toArray⟩ : ByteArray).data.toList = m := rfl
  rw [e1] at h1
  rw [e3] at h3
  unfold chkA at h1
  unfold PutPost at h2
  unfold IntPost at h3
  have hh := Lib.hid (show lineI (a, c, m) = if codeB a then if curB c then chkI m else 12 else 3 from rfl)
  have hk : chkI m = 0 ∨ chkI m = 1 := by unfold chkI; split <;> simp
  unfold lnV
  simp only
  have hbx : Below w.heap.size w (w.alloc (.cells #[.string ⟨a.toArray⟩, .string ⟨c.toArray⟩, .string ⟨m.toArray⟩] 68)) := (Below.refl _ w).alloc (Nat.le_refl _) _
  have x1 : (w.alloc (.cells #[.string ⟨a.toArray⟩, .string ⟨c.toArray⟩, .string ⟨m.toArray⟩] 68)).cell? ⟨w.heap.size, 1, none⟩ = some (.string ⟨c.toArray⟩) := by go_simp
  have x2 : (w.alloc (.cells #[.string ⟨a.toArray⟩, .string ⟨c.toArray⟩, .string ⟨m.toArray⟩] 68)).cell? ⟨w.heap.size, 2, none⟩ = some (.string ⟨m.toArray⟩) := by go_simp
  have HBX := Lib.hid hbx
  generalize chkI m = km at *
  cases hca : codeB a
  · rw [hca] at h1 hh
    have H1 := Lib.hid h1
    clear h1 h2 h3 e1 e3 hbx hk
    go_enter Tryz.func142, Tryz.ntmps142
    go_wp2_with fail
    refine (H1.out _ (hm.below HBX.out)).mono ?_
    rintro e w1 ⟨rfl, hb1⟩
    go_wp2_with fail
    go_ret
    exact ⟨by rw [hh.out]; rfl, HBX.out.trans (hb1.mono (by simp))⟩
  · rw [hca] at h1 hh
    cases hcc : curB c
    · rw [hcc] at h2 hh
      have H1 := Lib.hid h1
      have H2 := Lib.hid h2
      clear h1 h2 h3 e1 e3 hbx hk
      go_enter Tryz.func142, Tryz.ntmps142
      go_wp2_with fail
      refine (H1.out _ (hm.below HBX.out)).mono ?_
      rintro e w1 ⟨rfl, hb1⟩
      have y1 := (hb1.cell (p := ⟨w.heap.size, 1, none⟩) (by simp)).trans x1
      have B1 := Lib.hid (HBX.out.trans (hb1.mono (by simp)))
      clear hb1 x1 x2
      go_wp2_with fail
      refine (H2.out _ (ht.below B1.out)).mono ?_
      rintro e w2 ⟨rfl, hb2⟩
      have B2 := Lib.hid (B1.out.trans (hb2.mono B1.out.size))
      clear hb2
      go_wp2_with fail
      go_ret
      exact ⟨by rw [hh.out]; rfl, B2.out⟩
    · rw [hcc] at h2 hh
      have H1 := Lib.hid h1
      have H2 := Lib.hid h2
      have H3 := Lib.hid h3
      clear h1 h2 h3 e1 e3 hbx
      rcases hk with rfl | rfl
      all_goals
        go_enter Tryz.func142, Tryz.ntmps142
        go_wp2_with fail
        refine (H1.out _ (hm.below HBX.out)).mono ?_
        rintro e w1 ⟨rfl, hb1⟩
        have y1 := (hb1.cell (p := ⟨w.heap.size, 1, none⟩) (by simp)).trans x1
        have y2 := (hb1.cell (p := ⟨w.heap.size, 2, none⟩) (by simp)).trans x2
        have B1 := Lib.hid (HBX.out.trans (hb1.mono (by simp)))
        have S1 := hb1.size
        simp only [World.size_alloc] at S1
        clear hb1 x1 x2
        go_wp2_with fail
        refine (H2.out _ (ht.below B1.out)).mono ?_
        rintro e w2 ⟨rfl, hb2⟩
        have z2 := (hb2.cell (p := ⟨w.heap.size, 2, none⟩) (by simp; omega)).trans y2
        have B2 := Lib.hid (B1.out.trans (hb2.mono B1.out.size))
        clear hb2 y1 y2
        go_wp2_with fail
        refine (H3.out _).mono ?_
        rintro e w3 ⟨rfl, hb3⟩
        have B3 := Lib.hid (B2.out.trans (hb3.mono B2.out.size))
        clear hb3
        go_wp2_with fail
        go_ret
        exact ⟨by rw [hh.out]; rfl, B3.out⟩
end Go.Proofs.YtjcbohbpkodkoaaGreatDoor

/- Contracts of cmp.Compare at strings and days, cmp.Or, place, key.compare, compareLines. -/
namespace Go.Proofs.YtjcbohbpkodkoaaGreatDoor
open Go.RowKit Num

theorem nanS_any (l : List UInt8) (w : World) : Calls Tryz.prog 197 #[.string ⟨l.toArray⟩] w fun e w' => e = .returned (.bool false) ∧ w = w' := by
  go_enter Tryz.func197, Tryz.ntmps197
  go_wp2_with fail
  go_ret
  exact ⟨rfl, rfl⟩
theorem less_lt (a b : List UInt8) : Op.bytesLess a b = decide (a < b) := by
  induction a generalizing b with
  | nil => cases b <;> simp [Op.bytesLess]
  | cons x r ih =>
    cases b with
    | nil => simp [Op.bytesLess]
    | cons y t =>
      rw [Op.bytesLess, ih t, Bool.eq_iff_iff]
      simp [List.cons_lt_cons_iff]
theorem cmpS_any (a b : List UInt8) (w : World) : Calls Tryz.prog 170 #[.string ⟨a.toArray⟩, .string ⟨b.toArray⟩] w fun e w' => e = .returned (.int .i64 (cmpS a b)) ∧ w = w' := by
  have hc := Lib.hid (show cmpS a b = if a < b then -1 else if b < a then 1 else 0 from rfl)
  have hl := less_lt a b
  generalize cmpS a b = c at *
  by_cases h : a < b
  · have t1 : Op.bytesLess a b = true := by rw [hl]; exact decide_eq_true h
    have hv := Lib.hid (show c = -1 by rw [hc.out, if_pos h])
    clear h hl
    go_enter Tryz.func170, Tryz.ntmps170
    go_wp2_with (go_at_call 197; refine (nanS_any _ _).mono ?_; rintro e w' ⟨rfl, rfl⟩)
    go_ret
    exact ⟨by rw [hv.out]; rfl, rfl⟩
  · have t1 : Op.bytesLess a b = false := by rw [hl]; exact decide_eq_false h
    by_cases h2 : b < a
    · have t2 : (a == b) = false := beq_eq_false_iff_ne.2 (fun e => by subst e; exact List.lt_irrefl _ h2)
      have hv := Lib.hid (show c = 1 by rw [hc.out, if_neg h, if_pos h2])
      clear h h2 hl
      go_enter Tryz.func170, Tryz.ntmps170
      go_wp2_with (go_at_call 197; refine (nanS_any _ _).mono ?_; rintro e w' ⟨rfl, rfl⟩)
      go_ret
      exact ⟨by rw [hv.out]; rfl, rfl⟩
    · have he : a = b := lt_tri a b h h2
      subst he
      have hv := Lib.hid (show c = 0 by rw [hc.out, if_neg h, if_neg h2])
      clear h h2 hl
      go_enter Tryz.func170, Tryz.ntmps170
      go_wp2_with (go_at_call 197; refine (nanS_any _ _).mono ?_; rintro e w' ⟨rfl, rfl⟩)
      go_ret
      exact ⟨by rw [hv.out]; rfl, rfl⟩
/-- the first one that is not 0 -/
def orI : List Int → Int
  | [] => 0
  | x :: r => if x ≠ 0 then x else orI r
/-- the slice reads as the numbers -/
structure Ints (w : World) (A : Option Addr) (n c : Nat) (l : List Int) : Prop where
  len : l.length = n
  top : n ≤ 1000
  at_ : 0 < n → ∃ b o, A = some ⟨b, o, none⟩ ∧ ∀ k, k < n → w.cell? ⟨b, o + k, none⟩ = some (.int .i64 (l.getD k 0))
theorem orI_drop (l : List Int) (k : Nat) (h : k < l.length) : orI (l.drop k) = if l.getD k 0 ≠ 0 then l.getD k 0 else orI (l.drop (k + 1)) := by
  rw [List.drop_eq_getElem_cons h, orI, List.getD_eq_getElem?_getD, List.getElem?_eq_getElem h]; rfl
set_option maxRecDepth 100000 in
theorem Or_any (A : Option Addr) (n c : Nat) (l : List Int) (w : World) (h : Ints w A n c l) : Calls Tryz.prog 169 #[.slice A n c] w fun e w' => e = .returned (.int .i64 (orI l)) ∧ w = w' := by
  have hn := h.top
  have hlen := Lib.hid h.len
  have HA := Lib.hid h.at_
  clear h
  go_enter Tryz.func169, Tryz.ntmps169
  go_wp2_with fail
  go_loop [8] (fun i => ∃ k : Nat, k ≤ n ∧ i = .int .i64 (k : Int) ∧ Hid (orI (l.drop k) = orI l)) (fun i => n - (intOf i).toNat)
  case atStart => exact ⟨0, by omega, rfl, rfl⟩
  case round =>
    obtain ⟨k, hk, rfl, hor⟩ := hrel
    by_cases hlt : k < n
    · obtain ⟨b, o, rfl, hc⟩ := HA.out (by omega)
      have c1 := hc k hlt
      have hs := Lib.hid (orI_drop l k (by rw [hlen.out]; exact hlt))
      have hki : (k : Int) < (n : Int) := by omega
      clear hc
      generalize l.getD k 0 = x at *
      by_cases hx : x = 0
      · subst hx
        go_wp2_with fail
        go_round
        case rel => exact ⟨k + 1, by omega, by go_num, by show _ = _; rw [← hor.out, hs.out]; rfl⟩
        case measure => simp [intOf]; omega
      · have t1 : (x != 0) = true := by rw [bne_iff_ne]; exact hx
        have hv := Lib.hid (show orI l = x by rw [← hor.out, hs.out, if_pos hx])
        go_wp2_with fail
        go_ret
        exact ⟨by rw [hv.out]; rfl, rfl⟩
    · have hv := Lib.hid (show orI l = 0 by rw [← hor.out, List.drop_of_length_le (by rw [hlen.out]; omega)]; rfl)
      have hki : decide ((k : Int) < (n : Int)) = false := by rw [decide_eq_false_iff_not]; omega
      go_wp2_with fail
      go_ret
      exact ⟨by rw [hv.out]; rfl, rfl⟩
def keyV (k : Ky) : Array Value := #[.string ⟨k.1.toArray⟩, .string ⟨k.2.toArray⟩]
set_option maxRecDepth 100000 in
theorem place_any (x : Ln) (w : World) : Calls Tryz.prog 143 #[.agg (lnV x)] w fun e w' => e = .returned (.agg (keyV (key x))) ∧ Below w.heap.size w w' := by
  obtain ⟨a, c, m⟩ := x
  unfold lnV key keyV
  simp only
  go_enter Tryz.func143, Tryz.ntmps143
  go_wp2_with fail
  exact bodyPost_ret (v := .agg #[.string ⟨a.toArray⟩, .string ⟨c.toArray⟩]) (by simp [results, Tryz.results143, go_sem]) rfl ⟨rfl, ((Below.refl _ w).alloc (Nat.le_refl _) _).alloc (by simp) _⟩
end Go.Proofs.YtjcbohbpkodkoaaGreatDoor

/- Contracts of key.compare, compareLines, slices.CompareFunc, entry.Compare. -/
namespace Go.Proofs.YtjcbohbpkodkoaaGreatDoor
open Go.RowKit Num

theorem ints2 (w : World) (x y : Int) : Ints (w.alloc (.cells #[.int .i64 x, .int .i64 y] 3)) (some ⟨w.heap.size, 0, none⟩) 2 2 [x, y] :=
  ⟨rfl, by omega, fun _ => ⟨w.heap.size, 0, rfl, fun k hk => by
    rw [Nat.zero_add, cell_of_row _ _ _ _ _ _ (heap_alloc_new w _)]
    rcases k with _ | _ | k
    · rfl
    · rfl
    · omega⟩⟩
theorem ints2d (w : World) (x y : Int) : Ints (w.alloc (.cells #[.int .i64 x, .int .i64 y] 3)).drew (some ⟨w.heap.size, 0, none⟩) 2 2 [x, y] := ⟨rfl, by omega, (ints2 w x y).at_⟩
theorem orI2 (x y : Int) : orI [x, y] = if x ≠ 0 then x else y := by
  rw [orI, orI]
  split
  · rfl
  · split
    · rfl
    · rename_i h; have : y = 0 := by simpa using h
      rw [this]; rfl
set_option maxRecDepth 100000 in
set_option maxHeartbeats 2000000 in
theorem kcmp_any (a b : Ky) (w : World) : Calls Tryz.prog 144 #[.agg (keyV a), .agg (keyV b)] w (IntPost (cmpKy a b) w) := by
  obtain ⟨a1, a2⟩ := a
  obtain ⟨b1, b2⟩ := b
  have hv := Lib.hid (show cmpKy (a1, a2) (b1, b2) = orI [cmpS a1 b1, cmpS a2 b2] by rw [orI2]; rfl)
  unfold keyV
  simp only
  go_enter Tryz.func144, Tryz.ntmps144
  go_wp2_with fail
  have hB0 : Below w.heap.size w ((w.alloc (.cells #[.string ⟨a1.toArray⟩, .string ⟨a2.toArray⟩] 185)).alloc (.cells #[.string ⟨b1.toArray⟩, .string ⟨b2.toArray⟩] 185)) := ((Below.refl _ w).alloc (Nat.le_refl _) _).alloc (by simp) _
  have x0 : ((w.alloc (.cells #[.string ⟨a1.toArray⟩, .string ⟨a2.toArray⟩] 185)).alloc (.cells #[.string ⟨b1.toArray⟩, .string ⟨b2.toArray⟩] 185)).cell? ⟨w.heap.size, 0, none⟩ = some (.string ⟨a1.toArray⟩) := by go_simp
  have x1 : ((w.alloc (.cells #[.string ⟨a1.toArray⟩, .string ⟨a2.toArray⟩] 185)).alloc (.cells #[.string ⟨b1.toArray⟩, .string ⟨b2.toArray⟩] 185)).cell? ⟨w.heap.size, 1, none⟩ = some (.string ⟨a2.toArray⟩) := by go_simp
  have y0 : ((w.alloc (.cells #[.string ⟨a1.toArray⟩, .string ⟨a2.toArray⟩] 185)).alloc (.cells #[.string ⟨b1.toArray⟩, .string ⟨b2.toArray⟩] 185)).cell? ⟨w.heap.size + 1, 0, none⟩ = some (.string ⟨b1.toArray⟩) := by go_simp
  have y1 : ((w.alloc (.cells #[.string ⟨a1.toArray⟩, .string ⟨a2.toArray⟩] 185)).alloc (.cells #[.string ⟨b1.toArray⟩, .string ⟨b2.toArray⟩] 185)).cell? ⟨w.heap.size + 1, 1, none⟩ = some (.string ⟨b2.toArray⟩) := by go_simp
  have hsz : ((w.alloc (.cells #[.string ⟨a1.toArray⟩, .string ⟨a2.toArray⟩] 185)).alloc (.cells #[.string ⟨b1.toArray⟩, .string ⟨b2.toArray⟩] 185)).heap.size = w.heap.size + 2 := by simp
  generalize ((w.alloc (.cells #[.string ⟨a1.toArray⟩, .string ⟨a2.toArray⟩] 185)).alloc (.cells #[.string ⟨b1.toArray⟩, .string ⟨b2.toArray⟩] 185)) = W at *
  have HB := Lib.hid hB0
  have HSZ := Lib.hid hsz
  clear hsz hB0
  have ne0 := World.new_ne W ⟨w.heap.size, 0, none⟩ x0
  have ne1 := World.new_ne W ⟨w.heap.size, 1, none⟩ x1
  have ne2 := World.new_ne W ⟨w.heap.size + 1, 0, none⟩ y0
  have ne3 := World.new_ne W ⟨w.heap.size + 1, 1, none⟩ y1
  go_region_held3 (fun w' => w'.cell? ⟨w.heap.size, 0, none⟩ = some (.string ⟨a1.toArray⟩) ∧ w'.cell? ⟨w.heap.size, 1, none⟩ = some (.string ⟨a2.toArray⟩) ∧ w'.cell? ⟨w.heap.size + 1, 0, none⟩ = some (.string ⟨b1.toArray⟩) ∧ w'.cell? ⟨w.heap.size + 1, 1, none⟩ = some (.string ⟨b2.toArray⟩)) (go_keep)
    (first
      | (go_at_call 170; refine (cmpS_any _ _ _).mono ?_; rintro e w' ⟨rfl, rfl⟩)
      | (go_at_call 169; refine (Or_any _ _ _ [cmpS a1 b1, cmpS a2 b2] _ (ints2d _ _ _)).mono ?_; rintro e w' ⟨rfl, rfl⟩))
  go_wp2_with fail
  go_ret
  exact ⟨by rw [hv.out]; rfl, below_dr (HB.out.trans ((Below.refl _ _).alloc HB.out.size _)) 1⟩
theorem kcmp3 (a1 a2 b1 b2 : List UInt8) (w : World) : Calls Tryz.prog 144 #[.agg #[.string ⟨a1.toArray⟩, .string ⟨a2.toArray⟩], .agg #[.string ⟨b1.toArray⟩, .string ⟨b2.toArray⟩]] w fun e w' => e = .returned (.int .i64 (cmpKy (a1, a2) (b1, b2))) ∧ Below w.heap.size w w' := kcmp_any (a1, a2) (b1, b2) w
theorem place3 (a c m : List UInt8) (w : World) : Calls Tryz.prog 143 #[.agg #[.string ⟨a.toArray⟩, .string ⟨c.toArray⟩, .string ⟨m.toArray⟩]] w fun e w' => e = .returned (.agg #[.string ⟨a.toArray⟩, .string ⟨c.toArray⟩]) ∧ Below w.heap.size w w' := place_any (a, c, m) w
theorem icmp3 (a b : List UInt8) (w : World) (ha : a.length ≤ 100) (hb : b.length ≤ 100) : Calls Tryz.prog 66 #[.string ⟨a.toArray⟩, .string ⟨b.toArray⟩] w fun e w' => e = .returned (.int .i64 (cmpV a b)) ∧ Below w.heap.size w w' := Compare_any ⟨a.toArray⟩ ⟨b.toArray⟩ w (show a.length ≤ _ by omega) (show b.length ≤ _ by omega)
theorem below_next {w0 W Wc w' : World} (h : Below w0.heap.size w0 W) (hb : Below Wc.heap.size Wc w') (e : Wc.heap = W.heap ∧ Wc.os = W.os ∧ Wc.tape = W.tape ∧ Wc.output = W.output) : Below w0.heap.size w0 w' := by
  obtain ⟨e1, e2, e3, e4⟩ := e
  have hs := h.size
  have hs' := hb.size
  rw [e1] at hs'
  refine ⟨hb.os.trans (e2.trans h.os), hb.tape.trans (e3.trans h.tape), hb.output.trans (e4.trans h.output), Nat.le_trans hs hs', fun k hk => ?_⟩
  rw [hb.block k (by rw [e1]; omega), e1]
  exact h.block k hk
end Go.Proofs.YtjcbohbpkodkoaaGreatDoor

/- Slices of lines in memory; contracts of slices.CompareFunc and entry.Compare. -/
namespace Go.Proofs.YtjcbohbpkodkoaaGreatDoor
open Go.RowKit Num

def ln0 : Ln := ([], [], [])
/-- The slice value '.slice A n c' reads as the lines l in w. -/
structure Lns (w : World) (A : Option Addr) (n c : Nat) (l : List Ln) : Prop where
  len : l.length = n
  cap : n ≤ c
  top : c ≤ maxLen
  small : n ≤ 1000
  sml : ∀ x ∈ l, Sml x
  at_ : 0 < n → ∃ b o, A = some ⟨b, o, none⟩ ∧ b < w.heap.size ∧ ∀ k, k < n → w.cell? ⟨b, o + k * 3, none⟩ = some (.string ⟨(l.getD k ln0).1.toArray⟩) ∧ w.cell? ⟨b, o + k * 3 + 1, none⟩ = some (.string ⟨(l.getD k ln0).2.1.toArray⟩) ∧ w.cell? ⟨b, o + k * 3 + 2, none⟩ = some (.string ⟨(l.getD k ln0).2.2.toArray⟩)
theorem Lns.below {w w' : World} {A : Option Addr} {n c : Nat} {l : List Ln} (h : Lns w A n c l) (hb : Below w.heap.size w w') : Lns w' A n c l :=
  ⟨h.len, h.cap, h.top, h.small, h.sml, fun h0 => by
    obtain ⟨b, o, e, hlt, hc⟩ := h.at_ h0
    exact ⟨b, o, e, Nat.lt_of_lt_of_le hlt hb.size, fun k hk => by
      rw [hb.cell (by simpa using hlt), hb.cell (by simpa using hlt), hb.cell (by simpa using hlt)]; exact hc k hk⟩⟩
theorem lnAt_mem (l : List Ln) (k : Nat) (h : k < l.length) : l.getD k ln0 ∈ l := by
  rw [List.getD_eq_getElem?_getD, List.getElem?_eq_getElem h]
  exact List.getElem_mem h
theorem cmpLs_drop (l m : List Ln) (k : Nat) (h : k < l.length) (h2 : k < m.length) : cmpLs cmpL (l.drop k) (m.drop k) = if cmpL (l.getD k ln0) (m.getD k ln0) ≠ 0 then cmpL (l.getD k ln0) (m.getD k ln0) else cmpLs cmpL (l.drop (k + 1)) (m.drop (k + 1)) := by
  rw [List.drop_eq_getElem_cons h, List.drop_eq_getElem_cons h2, cmpLs, List.getD_eq_getElem?_getD, List.getD_eq_getElem?_getD, List.getElem?_eq_getElem h, List.getElem?_eq_getElem h2]; rfl
theorem ints3 (w : World) (x y z : Int) : Ints (w.alloc (.cells #[.int .i64 x, .int .i64 y, .int .i64 z] 3)) (some ⟨w.heap.size, 0, none⟩) 3 3 [x, y, z] :=
  ⟨rfl, by omega, fun _ => ⟨w.heap.size, 0, rfl, fun k hk => by
    rw [Nat.zero_add, cell_of_row _ _ _ _ _ _ (heap_alloc_new w _)]
    rcases k with _ | _ | _ | k
    · rfl
    · rfl
    · rfl
    · omega⟩⟩
theorem orI3 (x y z : Int) : orI [x, y, z] = if x ≠ 0 then x else if y ≠ 0 then y else z := by
  rw [orI, orI2]
/-- an entry's value -/
def enV (d : Int) (c : List UInt8) (A : Option Addr) (n cp : Nat) : Array Value := #[.int .i64 d, .string ⟨c.toArray⟩, .slice A n cp]
end Go.Proofs.YtjcbohbpkodkoaaGreatDoor

/- A map from strings (or from what is told as strings) to numbers' strings, of the call's own. -/
namespace Go.Proofs.YtjcbohbpkodkoaaGreatDoor
open Go.RowKit Go.Maps Num

/-- block b is a map of at most n entries: at each key kl it reads as f kl ('' where it has none); its keys are ks -/
def MapS (kt : TypeId) (w : World) (b n : Nat) (f : List UInt8 → List UInt8) (ks : List (List UInt8)) : Prop :=
  ∃ D : DataW Nat, w.ownsMap Tryz.prog kt (plainElem Tryz.prog 46) b n D ∧ IsMap D ∧ (∀ k, D.atKey (.string k) (.lit (.string [])) = .lit (.string (f k))) ∧ (∀ k, has D (.string k) = true ↔ k ∈ ks)
theorem MapS.made (kt : TypeId) (w : World) : MapS kt (w.alloc (.map #[] 0)) w.heap.size 0 (fun _ => []) [] :=
  ⟨.map [], World.ownsMap_made w Tryz.prog kt _, isMap_empty, fun _ => rfl, fun k => by simp [has]⟩
theorem MapS.kept {kt : TypeId} {w w' : World} {b n : Nat} {f : List UInt8 → List UInt8} {ks : List (List UInt8)} {row : Option Nat} (h : MapS kt w b n f ks) (hg : w.grownBy w' row) (hne : some b ≠ row) : MapS kt w' b n f ks := by
  obtain ⟨D, ho, hm, h1, h2⟩ := h
  exact ⟨D, ho.kept hg hne, hm, h1, h2⟩
theorem grown_of_below {w w' : World} (h : Below w.heap.size w w') : w.grownBy w' none := ⟨h.os, h.tape, h.output, h.size, fun k hk _ => h.block k hk⟩
theorem MapS.below {kt : TypeId} {w w' : World} {b n : Nat} {f : List UInt8 → List UInt8} {ks : List (List UInt8)} (h : MapS kt w b n f ks) (hb : Below w.heap.size w w') : MapS kt w' b n f ks := h.kept (grown_of_below hb) (by simp)
theorem MapS.dr {kt : TypeId} {w : World} {b n : Nat} {f : List UInt8 → List UInt8} {ks : List (List UInt8)} (h : MapS kt w b n f ks) (k : Nat) : MapS kt (w.drewN k) b n f ks := h
theorem MapS.lt {kt : TypeId} {w : World} {b n : Nat} {f : List UInt8 → List UInt8} {ks : List (List UInt8)} (h : MapS kt w b n f ks) : b < w.heap.size := by
  obtain ⟨D, ho, _⟩ := h
  exact ho.lt
set_option maxRecDepth 100000 in
theorem plain_str {v : Value} {l : List UInt8} {ps : List MemPlace} (h : plainElem (H := Nat) Tryz.prog 46 v = some (.lit (.string l), ps)) : v = .string ⟨l.toArray⟩ := by
  unfold plainElem at h
  rw [Tryz.underlying46] at h
  cases v with
  | string s =>
    simp only at h
    split at h
    · have h2 := Option.some.inj h
      rw [Prod.mk.injEq, DataW.lit.injEq, Lit.string.injEq] at h2
      rw [← h2.1]
    · cases h
  | _ => simp at h
theorem zero40 (w : World) : (zeroValue 46).run Tryz.prog w = .ok (.string ⟨#[]⟩) w := by kernel_rfl
/-- m[k] -/
theorem MapS.look {kt T : TypeId} {w : World} {b n : Nat} {f : List UInt8 → List UInt8} {ks : List (List UInt8)} (h : MapS kt w b n f ks) (K : Keyed Tryz.prog kt) (ht : Tryz.prog.underlying T = some (.map kt 46)) {kv : Value} {kl : List UInt8} (hk : keyOf Tryz.prog kt kv = some (.string kl)) :
    (Instr.lookup T (.map (some b)) kv false).run Tryz.prog w = .ok (.string ⟨(f kl).toArray⟩) w := by
  obtain ⟨D, ho, _, h1, _⟩ := h
  obtain ⟨v, ps, hrun, hv⟩ := ho.lookup K ht (zero40 w) (zd := .lit (.string [])) (zp := []) (plainElem_string Tryz.underlying46 (by decide)) hk
  rw [h1 kl] at hv
  rw [hrun, plain_str hv]
/-- m[k] = v -/
theorem MapS.put {kt T : TypeId} {w : World} {b n : Nat} {f : List UInt8 → List UInt8} {ks : List (List UInt8)} (h : MapS kt w b n f ks) (K : Keyed Tryz.prog kt) (ht : Tryz.prog.underlying T = some (.map kt 46)) (hn : n < 100000) {kv : Value} {kl v : List UInt8} (hk : keyOf Tryz.prog kt kv = some (.string kl)) (hv : v.length ≤ 100000) :
    ∃ w', (Instr.mapUpdate T (.map (some b)) kv (.string ⟨v.toArray⟩)).run Tryz.prog w = .ok () w' ∧ MapS kt w' b (n + 1) (fun k => if k = kl then v else f k) (kl :: ks) ∧ w.grownBy w' (some b) := by
  obtain ⟨D, ho, hm, h1, h2⟩ := h
  obtain ⟨w', hrun, ho', hg⟩ := ho.update K ht (by unfold maxLen; omega) hk (plainElem_string (s := ⟨v.toArray⟩) Tryz.underlying46 (by unfold maxLen; show v.length ≤ _; omega))
  refine ⟨w', hrun, ⟨_, ho', hm.put _ _, fun k => ?_, fun k => ?_⟩, hg⟩
  · show _ = DataW.lit (Lit.string (if k = kl then v else f k))
    by_cases e : k = kl
    · subst e
      rw [atKey_put_same hm (show WideAt.IsKeyLit (.string k) from trivial), if_pos rfl]
    · rw [atKey_put_other (fun e' => e (by cases e'; rfl)), if_neg e, h1]
  · by_cases e : k = kl
    · subst e
      rw [has_put_same hm (show WideAt.IsKeyLit (.string k) from trivial)]; simp
    · rw [has_put_other (fun e' => e (by cases e'; rfl)), h2, List.mem_cons]
      exact ⟨.inr, fun h => h.resolve_left e⟩
theorem keyed9 : Keyed Tryz.prog 9 := string_keyed Tryz.underlying9
theorem key9 (l : List UInt8) (h : l.length ≤ 100000) : keyOf Tryz.prog 9 (.string ⟨l.toArray⟩) = some (.string l) := by
  have : (⟨l.toArray⟩ : ByteArray).size ≤ maxLen := by unfold maxLen; show l.length ≤ _; omega
  simp [keyOf, Tryz.underlying9, mapKey, this]
set_option maxRecDepth 100000 in
theorem plain_str_inv {v : Value} {z : DataW Nat × List MemPlace} (h : plainElem Tryz.prog 46 v = some z) : ∃ s : ByteArray, v = .string s ∧ z = (.lit (.string s.data.toList), []) ∧ s.size ≤ maxLen := by
  unfold plainElem at h
  rw [Tryz.underlying46] at h
  cases v <;> simp at h
  exact ⟨_, rfl, h.2.symm, h.1⟩
set_option maxRecDepth 100000 in
theorem key9_inv {v : Value} {kl : Lit} (h : keyOf Tryz.prog 9 v = some kl) : ∃ s : ByteArray, v = .string s ∧ kl = .string s.data.toList := by
  unfold keyOf at h
  rw [Tryz.underlying9] at h
  cases v <;> simp [mapKey] at h
  exact ⟨_, rfl, h.2.symm⟩
/-- next over an own map of strings to numbers' strings -/
theorem next_ss (w : World) {ops : Array Oper} {rest : List Oper} {o : Oper} {a : Act} {Q : Exit → Act → World → Prop}
    (hg : o.guard = none) (it : Operand) (hop : o.op = Op.next it false)
    (b r n : Nat) (D : DataW Nat) (left : Lit → Bool) (cnt : Nat) (hit : a.eval it = .pointer (some ⟨r, 0, none⟩)) (h : w.ranges Tryz.prog 9 (plainElem Tryz.prog 46) b r n D left cnt)
    (hDone : cnt = 0 → (∀ kl, left kl = false) → wpList Tryz.prog ops Q rest (a.put o.dst (.tuple #[.bool false])) w)
    (hMore : ∀ (x c : ByteArray) (w' : World) (cnt' : Nat), left (.string x.data.toList) = true → (∀ zd, D.atKey (.string x.data.toList) zd = .lit (.string c.data.toList)) → w'.ranges Tryz.prog 9 (plainElem Tryz.prog 46) b r n D (fun z => left z && !z.sameKey (.string x.data.toList)) cnt' → cnt' < cnt →
      w.grownBy w' (some r) → w'.heap.size = w.heap.size → (Instr.entry (.pointer (some ⟨r, 0, none⟩))).run Tryz.prog w' = .ok (.tuple #[.string x, .string c]) w' → wpList Tryz.prog ops Q rest (a.put o.dst (.tuple #[.bool true, .string x, .string c])) w') :
    wpList Tryz.prog ops Q (o :: rest) a w :=
  wpList_next_ranges w hg it hop 9 keyed9 (plainElem Tryz.prog 46) Value.string Value.string (fun key kl hkey => by obtain ⟨x, rfl, _⟩ := key9_inv hkey; exact ⟨x, rfl⟩) (fun v y hv => by obtain ⟨c, rfl, _⟩ := plain_str_inv hv; exact ⟨c, rfl⟩)
    b r n D left cnt hit h hDone (fun x c kl y w' cnt' hkey hlk hv hat hrg hlt hgr hsz hen => by
      obtain ⟨x', ex, rfl⟩ := key9_inv hkey
      cases ex
      obtain ⟨c', ec, rfl, hwc⟩ := plain_str_inv hv
      cases ec
      exact hMore x c w' cnt' hlk hat hrg hlt hgr hsz hen)
end Go.Proofs.YtjcbohbpkodkoaaGreatDoor

/- Contract of entry.balances. -/
namespace Go.Proofs.YtjcbohbpkodkoaaGreatDoor
open Go.RowKit Go.Maps Num

theorem val_bd (a : List UInt8) : (val a).natAbs < 10 ^ a.length := by
  have h1 := digV_lt (dgs a) (dgs_all a)
  have h2 : 10 ^ (dgs a).length ≤ 10 ^ a.length := Nat.pow_le_pow_right (by omega) (dgs_len a)
  unfold val; split <;> omega
theorem txt_bd {v : Int} {k : Nat} (h : v.natAbs < 10 ^ k) : (txt v).length ≤ k + 1 := by
  unfold txt; split
  · have := dig_len h; simp; omega
  · have := dig_len h; omega
def big : Nat := 10 ^ 100
theorem sml_bd {x : Ln} (h : Sml x) : (val x.2.2).natAbs < big :=
  Nat.lt_of_lt_of_le (val_bd _) (Nat.pow_le_pow_right (by omega) h.2.2)
theorem curT_bd (l : List Ln) (h : ∀ x ∈ l, Sml x) (c : List UInt8) : (curT l c).natAbs ≤ l.length * big := by
  induction l with
  | nil => simp [curT]
  | cons x r ih =>
    have h1 := sml_bd (h x (by simp))
    have h2 := ih fun y hy => h y (List.mem_cons_of_mem _ hy)
    rw [curT_cons, List.length_cons, Nat.add_mul]
    split <;> omega
theorem tot_bd (l : List Ln) (h : ∀ x ∈ l, Sml x) (k : Ky) : (tot l k).natAbs ≤ l.length * big := by
  induction l with
  | nil => simp [tot]
  | cons x r ih =>
    have h1 := sml_bd (h x (by simp))
    have h2 := ih fun y hy => h y (List.mem_cons_of_mem _ hy)
    rw [tot_cons, List.length_cons, Nat.add_mul]
    split <;> omega
theorem bd_txt {v : Int} {n : Nat} (h : v.natAbs ≤ n * big) (hn : n ≤ 1000) : (txt v).length ≤ 110 := by
  have h1 : n * big ≤ 1000 * big := Nat.mul_le_mul_right _ hn
  have h2 : 1000 * big < 10 ^ 109 := by decide
  have := txt_bd (k := 109) (show v.natAbs < 10 ^ 109 by omega)
  omega
theorem take_sml {l : List Ln} (h : ∀ x ∈ l, Sml x) (k : Nat) : ∀ x ∈ l.take k, Sml x := fun x hx => h x (List.mem_of_mem_take hx)
theorem take_ln (l : List Ln) (k : Nat) (h : k < l.length) : l.take (k + 1) = l.take k ++ [l.getD k ln0] := by
  rw [List.take_succ_eq_append_getElem h, List.getD_eq_getElem?_getD, List.getElem?_eq_getElem h]; rfl
theorem Add_l (a b : List UInt8) (w : World) (ha : a.length ≤ 120) (hb : b.length ≤ 120) (ht : Tab w) :
    Calls Tryz.prog 68 #[.string ⟨a.toArray⟩, .string ⟨b.toArray⟩] w (StrPost (txt (val a + val b)) w) := Add_any ⟨a.toArray⟩ ⟨b.toArray⟩ w ha hb ht
theorem below_grown {B r : Nat} {w W U : World} (h : Below B w W) (hB : B ≤ w.heap.size) (hg : W.grownBy U (some r)) (hr : B ≤ r) : Below B w U := by
  have hs := h.size
  refine ⟨hg.os.trans h.os, hg.tape.trans h.tape, hg.output.trans h.output, Nat.le_trans hs hg.size, fun k hk => ?_⟩
  rw [hg.block k (by omega) (fun e => by have := Option.some.inj e; omega), h.block k hk]
/-- the map of the sums by currency, after k lines -/
def BalR (w : World) (l : List Ln) (k : Nat) (W : World) : Prop := (∃ ks, MapS 9 W w.heap.size k (fun c => txt (curT (l.take k) c)) ks ∧ ∀ c, c ∈ ks ↔ ∃ x ∈ l.take k, x.2.1 = c) ∧ Below w.heap.size w W
theorem balR_zero (l : List Ln) (w : World) : BalR w l 0 (w.alloc (.map #[] 0)) := by
  have h := MapS.made 9 w
  have e : (fun _ => []) = fun c => txt (curT (l.take 0) c) := funext fun c => by
    rw [List.take_zero]; exact txt_zero.symm
  rw [e] at h
  exact ⟨⟨[], h, fun c => by simp⟩, (Below.refl _ _).alloc (Nat.le_refl _) _⟩
theorem balR_step {l : List Ln} {k : Nat} {w U : World} {a cu m : List UInt8} {ks : List (List UInt8)} (htk : l.take (k + 1) = l.take k ++ [(a, cu, m)])
    (hm : MapS 9 U w.heap.size (k + 1) (fun k' => if k' = cu then txt (val (txt (curT (l.take k) cu)) + val m) else txt (curT (l.take k) k')) (cu :: ks))
    (hks : ∀ c, c ∈ ks ↔ ∃ x ∈ l.take k, x.2.1 = c) (hb : Below w.heap.size w U) : BalR w l (k + 1) U := by
  refine ⟨⟨cu :: ks, ?_, fun c => ?_⟩, hb⟩
  · have e : (fun k' => if k' = cu then txt (val (txt (curT (l.take k) cu)) + val m) else txt (curT (l.take k) k')) = fun c => txt (curT (l.take (k + 1)) c) := funext fun c => by
      rw [htk, curT_snoc, val_txt]
      by_cases h : c = cu
      · subst h; simp
      · have h' : ¬ cu = c := fun e => h e.symm
        simp [h, h']
    rwa [e] at hm
  · rw [List.mem_cons, hks, htk]
    constructor
    · rintro (rfl | ⟨x, hx, rfl⟩)
      · exact ⟨_, List.mem_append_right _ (List.mem_singleton.2 rfl), rfl⟩
      · exact ⟨x, List.mem_append_left _ hx, rfl⟩
    · rintro ⟨x, hx, rfl⟩
      rcases List.mem_append.1 hx with h | h
      · exact .inr ⟨x, h, rfl⟩
      · rw [List.mem_singleton.1 h]; exact .inl rfl
theorem txt_nil_iff (v : Int) : txt v = [] ↔ v = 0 := ⟨fun h => by have e := val_txt v; rw [h] at e; exact e.symm, fun h => by subst h; exact txt_zero⟩
theorem balB_true {l : List Ln} (h : ∀ x ∈ l, txt (curT l x.2.1) = []) : balB l = true := by
  unfold balB
  rw [List.all_eq_true]
  exact fun x hx => decide_eq_true ((txt_nil_iff _).1 (h x hx))
theorem balB_false {l : List Ln} {x : Ln} (hx : x ∈ l) (h : txt (curT l x.2.1) ≠ []) : balB l = false := by
  cases e : balB l with
  | false => rfl
  | true =>
    unfold balB at e
    rw [List.all_eq_true] at e
    exact absurd ((txt_nil_iff _).2 (of_decide_eq_true (e x hx))) h
set_option maxRecDepth 100000 in
set_option maxHeartbeats 4000000 in
theorem balances_any (A : Option Addr) (n c : Nat) (l : List Ln) (w : World) (hl : Lns w A n c l) (ht : Tab w) : Calls Tryz.prog 145 #[.slice A n c] w fun e w' => e = .returned (.bool (balB l)) ∧ Below w.heap.size w w' := by
  have hn := hl.small
  have L1 := Lib.hid hl
  have ll := Lib.hid hl.len
  have hmm := @run_makeMap Tryz.prog
  clear hl
  go_enter Tryz.func145, Tryz.ntmps145
  go_wp2_with fail
  have R0 := balR_zero l w
  go_loopw [11] (fun i wr => ∃ k : Nat, k ≤ n ∧ i = .int .i64 (k : Int) ∧ Hid (BalR w l k wr)) (fun i _ => n - (intOf i).toNat)
  case atStart => exact ⟨0, by omega, rfl, R0⟩
  case round =>
    clear R0
    obtain ⟨k, hk, rfl, hR⟩ := hrel
    by_cases hlt : k < n
    · obtain ⟨b1, o1, rfl, hb1, hc1⟩ := L1.out.at_ (by omega)
      obtain ⟨q0, q1, q2⟩ := hc1 k hlt
      have HB := Lib.hid hR.out.2
      have r0 := (HB.out.cell (p := ⟨b1, o1 + k * 3, none⟩) hb1).trans q0
      have r1 := (HB.out.cell (p := ⟨b1, o1 + k * 3 + 1, none⟩) hb1).trans q1
      have r2 := (HB.out.cell (p := ⟨b1, o1 + k * 3 + 2, none⟩) hb1).trans q2
      have hsx := L1.out.sml _ (lnAt_mem l k (by rw [ll.out]; exact hlt))
      have hki : (k : Int) < (n : Int) := by omega
      have htk := Lib.hid (take_ln l k (by rw [ll.out]; exact hlt))
      obtain ⟨⟨ks, hms, hks⟩, _⟩ := hR.out
      have HMS := Lib.hid hms
      have HKS := Lib.hid hks
      have hbd := bd_txt (curT_bd (l.take k) (take_sml L1.out.sml k) (l.getD k ln0).2.1) (by rw [List.length_take]; omega)
      have hsm := Lib.hid (fun y => bd_txt (n := k + 1) (v := y))
      clear hc1 q0 q1 q2 hR hms hks
      generalize l.getD k ln0 = x at *
      obtain ⟨a, cu, m⟩ := x
      simp only at r0 r1 r2 hbd
      have h1 : cu.length ≤ 1000 := hsx.2.1
      have h2 : m.length ≤ 100 := hsx.2.2
      go_wp2_with fail
      have l0 := HB.out.size
      have hB1 : Below w.heap.size w (wr.alloc (.cells #[.string ⟨a.toArray⟩, .string ⟨cu.toArray⟩, .string ⟨m.toArray⟩] 68)) := HB.out.alloc l0 _
      have hM1 : MapS 9 (wr.alloc (.cells #[.string ⟨a.toArray⟩, .string ⟨cu.toArray⟩, .string ⟨m.toArray⟩] 68)) w.heap.size k (fun c => txt (curT (List.take k l) c)) ks := HMS.out.below ((Below.refl _ _).alloc (Nat.le_refl _) _)
      have x1 : (wr.alloc (.cells #[.string ⟨a.toArray⟩, .string ⟨cu.toArray⟩, .string ⟨m.toArray⟩] 68)).cell? ⟨wr.heap.size, 1, none⟩ = some (.string ⟨cu.toArray⟩) := by go_simp
      have x2 : (wr.alloc (.cells #[.string ⟨a.toArray⟩, .string ⟨cu.toArray⟩, .string ⟨m.toArray⟩] 68)).cell? ⟨wr.heap.size, 2, none⟩ = some (.string ⟨m.toArray⟩) := by go_simp
      have ht1 : Tab (wr.alloc (.cells #[.string ⟨a.toArray⟩, .string ⟨cu.toArray⟩, .string ⟨m.toArray⟩] 68)) := ht.below hB1
      generalize (wr.alloc (.cells #[.string ⟨a.toArray⟩, .string ⟨cu.toArray⟩, .string ⟨m.toArray⟩] 68)) = W at *
      have HB1 := Lib.hid hB1
      have ht2 : Tab W.drew := ht1
      have HT1 := Lib.hid ht2
      have hne : some wr.heap.size ≠ some w.heap.size := by have := HMS.out.lt; intro e; have := Option.some.inj e; omega
      have HM1 := Lib.hid hM1
      have l1 := block_lt_of_cell x1
      have hlook := (hM1.dr 1).look keyed9 Tryz.underlying218 (key9 cu (by omega))
      have hlook2 : Sem.run Tryz.prog (Instr.lookup 218 (.map (some w.heap.size)) (.string ⟨cu.toArray⟩) false) W.drew = .ok (.string ⟨(txt (curT (List.take k l) cu)).toArray⟩) W.drew := hlook
      have HX := Lib.hid (And.intro x1 x2)
      clear hB1 hM1 ht1 ht2 hlook
      have h3 : 110 ≤ 120 := by decide
      have HSM : Hid ((txt (val (txt (curT (List.take k l) cu)) + val m)).length ≤ 110) := by
        have e := curT_bd (l.take (k + 1)) (take_sml L1.out.sml (k + 1)) cu
        rw [htk.out, curT_snoc, if_pos rfl, ← htk.out, List.length_take] at e
        rw [val_txt]
        exact Lib.hid (bd_txt e (by omega))
      go_region_held3 (fun w' => w'.cell? ⟨wr.heap.size, 1, none⟩ = some (.string ⟨cu.toArray⟩) ∧ w'.cell? ⟨wr.heap.size, 2, none⟩ = some (.string ⟨m.toArray⟩))
        (first | exact ⟨d2, d3⟩ | exact ⟨d0, d1⟩ | go_keep)
        (first
          | (go_at_call 68; refine (Add_l _ _ _ (Nat.le_trans hbd h3) (Nat.le_trans h2 (by decide)) HT1.out).mono ?_; rintro e w' ⟨rfl, hb⟩; have HB2 := Lib.hid (below_next (Below.refl W.heap.size W) hb ⟨rfl, rfl, rfl, rfl⟩); have d0 := (HB2.out.cell l1).trans HX.out.1; have d1 := (HB2.out.cell (p := ⟨wr.heap.size, 2, none⟩) l1).trans HX.out.2; clear hb; obtain ⟨wU, hrunU, hmsU, hgU⟩ := (HM1.out.below HB2.out).put keyed9 Tryz.underlying218 (by omega) (key9 cu (by omega)) (Nat.le_trans HSM.out (by decide)); have hrU : Sem.run Tryz.prog (Instr.mapUpdate 218 (.map (some w.heap.size)) (.string ⟨cu.toArray⟩) (.string ⟨(txt (val (txt (curT (List.take k l) cu)) + val m)).toArray⟩)) w' = .ok () wU := hrunU; have HMU := Lib.hid hmsU; have HGU := Lib.hid hgU; have d2 := hgU.cell (a := ⟨wr.heap.size, 1, none⟩) d0 hne; have d3 := hgU.cell (a := ⟨wr.heap.size, 2, none⟩) d1 hne; clear hrunU hmsU hgU))
      have RR := Lib.hid (balR_step htk.out HMU.out HKS.out (below_grown (HB1.out.trans (HB2.out.mono HB1.out.size)) (Nat.le_refl _) HGU.out (Nat.le_refl _)))
      clear HMU HB2 HGU hrU
      go_wp2_with fail
      go_roundw
      case rel => exact ⟨k + 1, by omega, by go_num, RR⟩
      case measure => simp [intOf]; omega
    · obtain ⟨⟨ks, hms, hks⟩, HBx⟩ := hR.out
      have HB := Lib.hid HBx
      obtain ⟨wq, hwq⟩ : ∃ wq, wq = wr := ⟨_, rfl⟩
      subst hwq
      have hkn : k = n := by omega
      subst hkn
      clear HBx hR
      obtain ⟨D, hown, him, hat, hhas⟩ := hms
      have hki : ¬ (k : Int) < (k : Int) := by omega
      go_wp2_with (first | (at_range; refine wpList_range_own _ rfl _ 218 rfl 9 46 keyed9 Tryz.underlying218 _ w.heap.size k D rfl hown ?_; intro w0 hrg0 hg0 hs0) | fail)
      have H0 := Lib.hid (show ∀ kl, has D (.string kl) = true → has D (.string kl) = false → txt (curT (List.take k l) kl) = [] from fun kl h1 h2 => by rw [h1] at h2; cases h2)
      have HB0 := Lib.hid (below_grown (r := w0.heap.size) HB.out (Nat.le_refl _) (hg0.but _) (Nat.le_trans HB.out.size (by omega)))
      go_loopw [2] (fun _ wx => ∃ (left : Lit → Bool) (cnt : Nat), wx.ranges Tryz.prog 9 (plainElem Tryz.prog 46) w.heap.size wq.heap.size k D left cnt ∧ Hid (Below w.heap.size w wx) ∧ Hid (∀ kl, has D (.string kl) = true → left (.string kl) = false → txt (curT (List.take k l) kl) = []))
        (fun _ wx => wx.rangeLeft w.heap.size wq.heap.size)
      case atStart => exact ⟨_, _, hrg0, HB0, H0⟩
      case round =>
        obtain ⟨left, cnt, hrg, HBx, HL⟩ := hrel
        go_wp2_with (first | (at_next; refine next_ss _ rfl _ rfl w.heap.size wq.heap.size k D left cnt rfl hrg ?_ ?_) | fail)
        · intro hc0 hl0
          have hv := Lib.hid (balB_true (l := l) fun x hx => by
            have e : List.take k l = l := List.take_of_length_le (by rw [ll.out]; exact Nat.le_refl _)
            have := HL.out x.2.1 ((hhas _).2 ((hks _).2 ⟨x, by rw [e]; exact hx, rfl⟩)) (hl0 _)
            rwa [e] at this)
          go_wp2_with fail
          go_ret
          exact ⟨by rw [hv.out]; rfl, HBx.out⟩
        · intro x c w1 cnt1 hlx hat1 hrg1 hlt hg1 hs1 hen
          have hm0 : wr.rangeLeft w.heap.size wq.heap.size = cnt := hrg.left_eq
          have hx1 := has_true_of_atKey hat1
          have hc : c.data.toList = txt (curT (List.take k l) x.data.toList) := by
            have h1 := hat1 (.lit (.string []))
            rw [hat] at h1
            injection h1 with h1
            injection h1 with h1
            exact h1.symm
          have HB1 := Lib.hid (below_grown HBx.out (Nat.le_refl _) hg1 HB.out.size)
          obtain ⟨⟨c0⟩⟩ := c
          simp only at hc
          subst hc
          generalize hcv : txt (curT (List.take k l) x.data.toList) = c0 at hen
          rcases c0 with _ | ⟨c1, cr⟩
          · have HL1 := Lib.hid (show ∀ kl : List UInt8, has D (.string kl) = true → (left (.string kl) && !(Lit.string kl).sameKey (.string x.data.toList)) = false → txt (curT (List.take k l) kl) = [] from fun kl h1 h2 => by
              cases hl : left (.string kl) with
              | false => exact HL.out kl h1 hl
              | true =>
                rw [hl] at h2
                have h3 : (Lit.string kl).sameKey (.string x.data.toList) = true := by
                  cases h : (Lit.string kl).sameKey (.string x.data.toList) with
                  | true => rfl
                  | false => rw [h] at h2; cases h2
                have h4 := WideAt.sameKey_eq h3
                injection h4 with h4
                rw [h4]; exact hcv)
            go_wp2_with fail
            exact ⟨⟨_, cnt1, hrg1, HB1, HL1⟩, by rw [hrg1.left_eq, hm0]; exact hlt⟩
          · have hv : Hid (balB l = false) := by
              obtain ⟨y, hy, e⟩ := (hks _).1 ((hhas _).1 hx1)
              have ek : List.take k l = l := List.take_of_length_le (by rw [ll.out]; exact Nat.le_refl _)
              rw [ek] at hy hcv
              exact Lib.hid (balB_false hy (by rw [e, hcv]; exact List.cons_ne_nil _ _))
            go_wp2_with fail
            go_ret
            exact ⟨by rw [hv.out]; rfl, HB1.out⟩
end Go.Proofs.YtjcbohbpkodkoaaGreatDoor

/- Contracts of integer.Of and entry.Amount. -/
namespace Go.Proofs.YtjcbohbpkodkoaaGreatDoor
open Go.RowKit Go.Maps Num

theorem dec_dig (n : Nat) (h : n ≠ 0) : Lib.decDigits n = dig n := by
  induction n using Nat.strongRecOn with
  | _ n ih =>
    rw [Lib.decDigits, dig_pos h]
    split
    · rename_i h1
      have e : n / 10 = 0 := by omega
      have e2 : n % 10 = n := by omega
      rw [e, dig_zero, e2]; rfl
    · rw [ih (n / 10) (by omega) (by omega)]
theorem itoa_zero : Lib.itoa 0 = [48] := by
  unfold Lib.itoa; rw [if_neg (by omega), show (0 : Int).toNat = 0 from rfl, Lib.decDigits, dif_pos (by omega)]; rfl
theorem itoa_txt (n : Int) (h : n ≠ 0) : Lib.itoa n = txt n := by
  unfold Lib.itoa txt
  by_cases hn : n < 0
  · rw [if_pos hn, if_pos hn, dec_dig _ (by omega)]
  · rw [if_neg hn, if_neg hn, dec_dig _ (by omega), show n.toNat = n.natAbs by omega]
theorem val_itoa (n : Int) : val (Lib.itoa n) = n := by
  by_cases h0 : n = 0
  · subst h0; rw [itoa_zero]; rfl
  · rw [itoa_txt n h0, val_txt]
theorem itoa_len (n : Int) (h0 : -9223372036854775808 ≤ n) (h1 : n ≤ 9223372036854775807) : (Lib.itoa n).length ≤ 1000 := by
  by_cases h : n = 0
  · subst h; rw [itoa_zero]; decide
  · rw [itoa_txt n h]
    have := txt_bd (v := n) (k := 20) (by omega)
    omega
end Go.Proofs.YtjcbohbpkodkoaaGreatDoor

/- Contract of entry.Amount. -/
namespace Go.Proofs.YtjcbohbpkodkoaaGreatDoor
open Go.RowKit Go.Maps Num

def AmtR (w : World) (l : List Ln) (ky : Ky) (k : Nat) (W : World) (v : Value) : Prop := v = .string ⟨(txt (tot (l.take k) ky)).toArray⟩ ∧ Below w.heap.size w W
end Go.Proofs.YtjcbohbpkodkoaaGreatDoor

/- Contract of entry.Check. -/
namespace Go.Proofs.YtjcbohbpkodkoaaGreatDoor
open Go.RowKit Go.Maps Num

/-- not in order behind p -/
def ordB (p : Option Ky) (q : Ky) : Bool := match p with | none => false | some p => decide (0 ≤ cmpKy p q)
/-- what is wrong with lines: their fields, an amount of 0, their order; p: the place of the line ahead -/
def chkLs : Option Ky → List Ln → Int
  | _, [] => 0
  | p, x :: r => if lineI x ≠ 0 then lineI x else if x.2.2 = [] then 2 else if ordB p (key x) then 8 else chkLs (some (key x)) r
theorem chkLs_cons (p : Option Ky) (x : Ln) (r : List Ln) : chkLs p (x :: r) = if lineI x ≠ 0 then lineI x else if x.2.2 = [] then 2 else if ordB p (key x) then 8 else chkLs (some (key x)) r := rfl
/-- what is wrong with an entry -/
def chkE (d : Int) (c : List UInt8) (l : List Ln) : Int :=
  if headI d c ≠ 0 then headI d c else if l.length = 0 then 11 else if 64 < l.length then 4 else if chkLs none l ≠ 0 then chkLs none l else if balB l then 0 else 14
def prevAt (l : List Ln) : Nat → Option Ky
  | 0 => none
  | k + 1 => some (key (l.getD k ln0))
theorem drop_ln (l : List Ln) (k : Nat) (h : k < l.length) : l.drop k = l.getD k ln0 :: l.drop (k + 1) := by
  rw [List.drop_eq_getElem_cons h, List.getD_eq_getElem?_getD, List.getElem?_eq_getElem h]; rfl
def ChkR (w : World) (l : List Ln) (k : Nat) (W : World) : Prop := chkLs none l = chkLs (prevAt l k) (l.drop k) ∧ Below w.heap.size w W
set_option maxRecDepth 100000 in
set_option maxHeartbeats 4000000 in
theorem Chk_any (d : Int) (cz : List UInt8) (A : Option Addr) (n c : Nat) (l : List Ln) (w : World) (hl : Lns w A n c l) (hcz : cz.length ≤ maxLen) (ht : Tab w) (hm : ML w) :
    Calls Tryz.prog 104 #[.agg (enV d cz A n c)] w (IntPost (chkE d cz l) w) := by
  have hn := hl.small
  have ll := Lib.hid hl.len
  have hB0 : Below w.heap.size w (w.alloc (.cells #[.int .i64 d, .string ⟨cz.toArray⟩, .slice A n c] 40)) := (Below.refl _ w).alloc (Nat.le_refl _) _
  have hx : (w.alloc (.cells #[.int .i64 d, .string ⟨cz.toArray⟩, .slice A n c] 40)).cell? ⟨w.heap.size, 2, none⟩ = some (.slice A n c) := by go_simp
  have c0 := fun W => checkHead_any d cz A n c W hcz
  have hE := Lib.hid (show chkE d cz l = if headI d cz ≠ 0 then headI d cz else if l.length = 0 then 11 else if 64 < l.length then 4 else if chkLs none l ≠ 0 then chkLs none l else if balB l then 0 else 14 from rfl)
  generalize chkE d cz l = r at *
  generalize headI d cz = hd at *
  have H0 := Lib.hid hB0
  have HT := Lib.hid ht
  have HM := Lib.hid hm
  have L1 := Lib.hid hl
  have l0 := Lib.hid (block_lt_of_cell hx)
  have hx0 := Lib.hid hx
  clear hl ht hm
  unfold enV
  go_enter Tryz.func104, Tryz.ntmps104
  go_wp2_with fail
  refine (c0 _).mono ?_
  rintro e w1 ⟨rfl, hb1⟩
  have hx1 := (hb1.cell l0.out).trans hx
  have HB1 := Lib.hid (below_next H0.out hb1 ⟨rfl, rfl, rfl, rfl⟩)
  have HB1' := Lib.hid hb1
  clear hb1 hx
  by_cases hz : hd = 0
  case neg =>
    have hzb : (hd == 0) = false := beq_eq_false_iff_ne.2 hz
    have hzb' : (hd != 0) = true := by rw [bne_iff_ne]; exact hz
    have hv := Lib.hid (show r = hd by rw [hE.out, if_pos hz])
    go_wp2_with fail
    go_ret
    exact ⟨by rw [hv.out]; rfl, HB1.out⟩
  subst hz
  by_cases h0 : n = 0
  · have hv := Lib.hid (show r = 11 by rw [hE.out, if_neg (by omega), if_pos (by rw [ll.out]; exact h0)])
    subst h0
    go_wp2_with fail
    go_ret
    exact ⟨by rw [hv.out]; rfl, HB1.out⟩
  have h0i : ((n : Int) == 0) = false := beq_eq_false_iff_ne.2 (by omega)
  have h0j : (n == 0) = false := beq_eq_false_iff_ne.2 (by omega)
  by_cases h64 : 64 < n
  · have hv := Lib.hid (show r = 4 by rw [hE.out, if_neg (by omega), if_neg (by rw [ll.out]; exact h0), if_pos (by rw [ll.out]; exact h64)])
    have h64i : (64 : Int) < (n : Int) := by omega
    go_wp2_with fail
    go_ret
    exact ⟨by rw [hv.out]; rfl, HB1.out⟩
  have hv := Lib.hid (show r = if chkLs none l ≠ 0 then chkLs none l else if balB l then 0 else 14 by rw [hE.out, if_neg (by omega), if_neg (by rw [ll.out]; exact h0), if_neg (by rw [ll.out]; exact h64)])
  have h64i : ¬ (64 : Int) < (n : Int) := by omega
  go_wp2_with fail
  have l1 := Lib.hid (block_lt_of_cell hx1)
  have hx1h := Lib.hid hx1
  have hh := Lib.hid (fun W (h : Below w1.heap.size w1 W) => below_next HB1.out h ⟨rfl, rfl, rfl, rfl⟩)
  have R0 := Lib.hid (show ChkR w1 l 0 w1 from ⟨by rw [List.drop_zero]; rfl, Below.refl _ _⟩)
  go_loopw [23] (fun i wr => ∃ k : Nat, k ≤ n ∧ i = .int .i64 (k : Int) ∧ Hid (ChkR w1 l k wr)) (fun i _ => n - (intOf i).toNat)
  case atStart => exact ⟨0, by omega, rfl, R0⟩
  case round =>
    obtain ⟨k, hk, rfl, hR⟩ := hrel
    have hch := Lib.hid hR.out.1
    have HC := Lib.hid hR.out.2
    have HB := Lib.hid (hh.out _ hR.out.2)
    have xb := (HC.out.cell l1.out).trans hx1h.out
    clear hR R0
    by_cases hlt : k < n
    · obtain ⟨b1, o1, rfl, hb1, hc1⟩ := L1.out.at_ (by omega)
      obtain ⟨q0, q1, q2⟩ := hc1 k hlt
      have r0 := (HB.out.cell (p := ⟨b1, o1 + k * 3, none⟩) hb1).trans q0
      have r1 := (HB.out.cell (p := ⟨b1, o1 + k * 3 + 1, none⟩) hb1).trans q1
      have r2 := (HB.out.cell (p := ⟨b1, o1 + k * 3 + 2, none⟩) hb1).trans q2
      have hsx := Lib.hid (L1.out.sml _ (lnAt_mem l k (by rw [ll.out]; exact hlt)))
      have hki : (k : Int) < (n : Int) := by omega
      have hdr := drop_ln l k (by rw [ll.out]; exact hlt)
      have hch2 := hch.out
      rw [hdr, chkLs_cons] at hch2
      have hpk : prevAt l (k + 1) = some (key (l.getD k ln0)) := rfl
      clear q0 q1 q2 hdr
      generalize hxe : l.getD k ln0 = x at *
      have cl := fun W hW1 hW2 => checkLine_any x W hsx.out hW1 hW2
      obtain ⟨a, cu, m⟩ := x
      unfold lnV at cl
      simp only at r0 r1 r2 cl
      generalize hli : lineI (a, cu, m) = li at *
      have l2 := HB.out.size
      have HB2 := Lib.hid (show Below w.heap.size w (wr.alloc (.cells #[.string ⟨a.toArray⟩, .string ⟨cu.toArray⟩, .string ⟨m.toArray⟩] 68)) from HB.out.alloc l2 _)
      have HC2 := Lib.hid (show Below w1.heap.size w1 (wr.alloc (.cells #[.string ⟨a.toArray⟩, .string ⟨cu.toArray⟩, .string ⟨m.toArray⟩] 68)) from HC.out.alloc HC.out.size _)
      have x0 : (wr.alloc (.cells #[.string ⟨a.toArray⟩, .string ⟨cu.toArray⟩, .string ⟨m.toArray⟩] 68)).cell? ⟨wr.heap.size, 0, none⟩ = some (.string ⟨a.toArray⟩) := by go_simp
      have x1 : (wr.alloc (.cells #[.string ⟨a.toArray⟩, .string ⟨cu.toArray⟩, .string ⟨m.toArray⟩] 68)).cell? ⟨wr.heap.size, 1, none⟩ = some (.string ⟨cu.toArray⟩) := by go_simp
      have x2 : (wr.alloc (.cells #[.string ⟨a.toArray⟩, .string ⟨cu.toArray⟩, .string ⟨m.toArray⟩] 68)).cell? ⟨wr.heap.size, 2, none⟩ = some (.string ⟨m.toArray⟩) := by go_simp
      have HX := Lib.hid (And.intro x0 (And.intro x1 x2))
      have l3 := Lib.hid (block_lt_of_cell x0)
      have hT := Lib.hid (HT.out.below HB2.out)
      have hM := Lib.hid (HM.out.below HB2.out)
      clear x0 x1 x2
      go_wp2_with fail
      refine (cl _ hM.out hT.out).mono ?_
      rintro e w2 ⟨rfl, hb⟩
      have HB3 := Lib.hid (below_next HB2.out hb ⟨rfl, rfl, rfl, rfl⟩)
      have HC3 := Lib.hid (below_next HC2.out hb ⟨rfl, rfl, rfl, rfl⟩)
      have d0 := (hb.cell l3.out).trans HX.out.1
      have d1 := (hb.cell (p := ⟨wr.heap.size, 1, none⟩) l3.out).trans HX.out.2.1
      have d2 := (hb.cell (p := ⟨wr.heap.size, 2, none⟩) l3.out).trans HX.out.2.2
      clear hb
      by_cases hz : li = 0
      case neg =>
        have hzb : (li == 0) = false := beq_eq_false_iff_ne.2 hz
        have hzb' : (li != 0) = true := by rw [bne_iff_ne]; exact hz
        have hv1 := Lib.hid (show r = li by rw [hv.out, hch2, if_pos hz, if_pos hz])
        go_wp2_with fail
        go_ret
        exact ⟨by rw [hv1.out]; rfl, HB3.out⟩
      subst hz
      rw [if_neg (by omega)] at hch2
      rcases m with _ | ⟨m0, mr⟩
      · rw [if_pos rfl] at hch2
        have hv1 := Lib.hid (show r = 2 by rw [hv.out, hch2, if_pos (by omega)])
        go_wp2_with fail
        go_ret
        exact ⟨by rw [hv1.out]; rfl, HB3.out⟩
      rw [if_neg (by simp)] at hch2
      go_upto_region 16 with fail
      have xb2 : w2.cell? ⟨w.heap.size, 2, none⟩ = some (.slice (some ⟨b1, o1, none⟩) n c) := (HC3.out.cell l1.out).trans hx1h.out
      by_cases hk0 : k = 0
      · have hf : ordB (prevAt l k) (key (a, cu, m0 :: mr)) = false := by rw [hk0]; rfl
        rw [hf, if_neg (by decide)] at hch2
        have hk0i : ¬ (0 : Int) < (k : Int) := by omega
        have hk0n : ¬ 0 < k := by omega
        clear hk0
        go_quiet (fail)
        have HC4 := Lib.hid (below_dr HC3.out nq)
        have RR := Lib.hid (show ChkR w1 l (k + 1) (w2.drewN nq) from ⟨by rw [hpk]; exact hch2, HC4.out⟩)
        clear hch2 hpk
        go_wp2_with fail
        go_roundw
        case rel => exact ⟨k + 1, by omega, by go_num, RR⟩
        case measure => simp [intOf]; omega
      · obtain ⟨j, hj⟩ : ∃ j, k = j + 1 := ⟨k - 1, by omega⟩
        have hHj := Lib.hid hj
        obtain ⟨q0, q1, q2⟩ := hc1 j (by omega)
        have p0 := (HB3.out.cell (p := ⟨b1, o1 + j * 3, none⟩) hb1).trans q0
        have p1 := (HB3.out.cell (p := ⟨b1, o1 + j * 3 + 1, none⟩) hb1).trans q1
        have p2 := (HB3.out.cell (p := ⟨b1, o1 + j * 3 + 2, none⟩) hb1).trans q2
        have hpv : prevAt l k = some (key (l.getD j ln0)) := by rw [hj]; rfl
        rw [hpv] at hch2
        have hw : IntKind.i64.wrap ((k : Int) - 1) = (j : Int) := (IntWalk.i64_in _ (by omega)).trans (by omega)
        have hji : (j : Int) < (n : Int) := by omega
        have hk0i : (0 : Int) < (k : Int) := by omega
        have hk0n : 0 < k := by omega
        clear q0 q1 q2 hpv hj hk0 r0 r1 r2 hc1
        generalize l.getD j ln0 = y at *
        obtain ⟨ya, yc, ym⟩ := y
        simp only at p0 p1 p2
        have HS := Lib.hid (And.intro xb2 (And.intro p0 (And.intro p1 (And.intro p2 (And.intro d0 (And.intro d1 d2))))))
        have lb := block_lt_of_cell xb2
        have ly := block_lt_of_cell p0
        have lx := block_lt_of_cell d0
        have HD := Lib.hid (Below.refl w2.heap.size w2)
        generalize hcv : cmpKy (ya, yc) (a, cu) = cv at *
        go_region_held3 (fun w' => w'.cell? ⟨w.heap.size, 2, none⟩ = some (.slice (some ⟨b1, o1, none⟩) n c) ∧ w'.cell? ⟨b1, o1 + j * 3, none⟩ = some (.string ⟨ya.toArray⟩) ∧ w'.cell? ⟨b1, o1 + j * 3 + 1, none⟩ = some (.string ⟨yc.toArray⟩) ∧ w'.cell? ⟨b1, o1 + j * 3 + 2, none⟩ = some (.string ⟨ym.toArray⟩) ∧ w'.cell? ⟨wr.heap.size, 0, none⟩ = some (.string ⟨a.toArray⟩) ∧ w'.cell? ⟨wr.heap.size, 1, none⟩ = some (.string ⟨cu.toArray⟩) ∧ w'.cell? ⟨wr.heap.size, 2, none⟩ = some (.string ⟨(m0 :: mr).toArray⟩))
          (first | exact ⟨f0, f1, f2, f3, f4, f5, f6⟩ | exact ⟨xb2, p0, p1, p2, d0, d1, d2⟩ | go_keep)
          (first
            | (go_at_call 143; refine (place3 _ _ _ _).mono ?_; rintro e w' ⟨rfl, hb⟩; have HD := Lib.hid (below_next HD.out hb ⟨rfl, rfl, rfl, rfl⟩); have f0 := (HD.out.cell lb).trans HS.out.1; have f1 := (HD.out.cell ly).trans HS.out.2.1; have f2 := (HD.out.cell (p := ⟨b1, o1 + j * 3 + 1, none⟩) ly).trans HS.out.2.2.1; have f3 := (HD.out.cell (p := ⟨b1, o1 + j * 3 + 2, none⟩) ly).trans HS.out.2.2.2.1; have f4 := (HD.out.cell lx).trans HS.out.2.2.2.2.1; have f5 := (HD.out.cell (p := ⟨wr.heap.size, 1, none⟩) lx).trans HS.out.2.2.2.2.2.1; have f6 := (HD.out.cell (p := ⟨wr.heap.size, 2, none⟩) lx).trans HS.out.2.2.2.2.2.2; clear hb)
            | (go_at_call 144; refine (kcmp3 _ _ _ _ _).mono ?_; rintro e w' ⟨rfl, hb⟩; have HD := Lib.hid (below_next HD.out hb ⟨rfl, rfl, rfl, rfl⟩); have f0 := (HD.out.cell lb).trans HS.out.1; have f1 := (HD.out.cell ly).trans HS.out.2.1; have f2 := (HD.out.cell (p := ⟨b1, o1 + j * 3 + 1, none⟩) ly).trans HS.out.2.2.1; have f3 := (HD.out.cell (p := ⟨b1, o1 + j * 3 + 2, none⟩) ly).trans HS.out.2.2.2.1; have f4 := (HD.out.cell lx).trans HS.out.2.2.2.2.1; have f5 := (HD.out.cell (p := ⟨wr.heap.size, 1, none⟩) lx).trans HS.out.2.2.2.2.2.1; have f6 := (HD.out.cell (p := ⟨wr.heap.size, 2, none⟩) lx).trans HS.out.2.2.2.2.2.2; clear hb))
        have hf : ordB (some (key (ya, yc, ym))) (key (a, cu, m0 :: mr)) = decide (0 ≤ cv) := by
          show decide (0 ≤ cmpKy (ya, yc) (a, cu)) = _
          rw [hcv]
        rw [hf] at hch2
        by_cases hc0 : 0 ≤ cv
        · rw [decide_eq_true hc0, if_pos rfl] at hch2
          have hv1 := Lib.hid (show r = 8 by rw [hv.out, hch2, if_pos (by omega)])
          have HB4 := Lib.hid (HB3.out.trans (HD.out.mono HB3.out.size))
          go_wp2_with fail
          go_ret
          exact ⟨by rw [hv1.out]; rfl, HB4.out⟩
        · rw [decide_eq_false hc0, if_neg (by decide)] at hch2
          have HC4 := Lib.hid (HC3.out.trans (HD.out.mono HC3.out.size))
          have RR := Lib.hid (fun W (h : Below w1.heap.size w1 W) => show ChkR w1 l (k + 1) W from ⟨by rw [hpk]; exact hch2, h⟩)
          clear hch2 hpk hf hcv
          go_wp2_with fail
          go_roundw
          case rel => exact ⟨k + 1, by omega, by go_num, Lib.hid (RR.out _ HC4.out)⟩
          case measure => simp [intOf]; omega
    · have hkn : k = n := by omega
      subst hkn
      have hki : ¬ (k : Int) < (k : Int) := by omega
      have e : List.drop k l = [] := List.drop_eq_nil_of_le (by rw [ll.out]; exact Nat.le_refl _)
      have hch3 := hch.out
      rw [e] at hch3
      have hv1 := hv.out
      rw [show chkLs none l = 0 from hch3, if_neg (by omega)] at hv1
      have hv2 := Lib.hid hv1
      have cb := balances_any A k c l wr (L1.out.below HB.out) (HT.out.below HB.out)
      have HCB := Lib.hid cb
      generalize balB l = bb at *
      clear hv1 hch3 e hv cb
      cases bb
      · go_wp2_with fail
        refine HCB.out.mono ?_
        rintro e w2 ⟨rfl, hb⟩
        have HB3 := Lib.hid (below_next HB.out hb ⟨rfl, rfl, rfl, rfl⟩)
        clear hb
        go_wp2_with fail
        go_ret
        exact ⟨by rw [hv2.out]; rfl, HB3.out⟩
      · go_wp2_with fail
        refine HCB.out.mono ?_
        rintro e w2 ⟨rfl, hb⟩
        have HB3 := Lib.hid (below_next HB.out hb ⟨rfl, rfl, rfl, rfl⟩)
        clear hb
        go_wp2_with fail
        go_ret
        exact ⟨by rw [hv2.out]; rfl, HB3.out⟩
end Go.Proofs.YtjcbohbpkodkoaaGreatDoor

/- Slices of lines of the call's own. -/
namespace Go.Proofs.YtjcbohbpkodkoaaGreatDoor
open Go.RowKit Go.Maps Num

def LV (x : Ln) : List Value := [.string ⟨x.1.toArray⟩, .string ⟨x.2.1.toArray⟩, .string ⟨x.2.2.toArray⟩]
def LVs (l : List Ln) : List Value := l.flatMap LV
theorem LVs_cons (x : Ln) (l : List Ln) : LVs (x :: l) = LV x ++ LVs l := rfl
theorem LVs_append (a b : List Ln) : LVs (a ++ b) = LVs a ++ LVs b := List.flatMap_append
theorem LVs_len (l : List Ln) : (LVs l).length = l.length * 3 := by
  induction l with
  | nil => rfl
  | cons x r ih => rw [LVs_cons, List.length_append, ih, List.length_cons]; simp [LV]; omega
theorem LVs_at (l : List Ln) (k j : Nat) (hk : k < l.length) (hj : j < 3) : (LVs l)[k * 3 + j]? = (LV (l.getD k ln0))[j]? := by
  induction l generalizing k with
  | nil => cases hk
  | cons x r ih =>
    rw [LVs_cons]
    cases k with
    | zero => rw [List.getElem?_append_left (by simp [LV]; omega)]; simp
    | succ k =>
      rw [List.getElem?_append_right (by simp [LV]; omega), show (k + 1) * 3 + j - (LV x).length = k * 3 + j by simp [LV]; omega, ih k (by simpa using hk)]
      simp
theorem LVs_one (l : List Ln) : ∀ u ∈ LVs l, u.oneCell' = true := by
  intro u hu
  obtain ⟨x, _, hx⟩ := List.mem_flatMap.1 hu
  simp only [LV, List.mem_cons, List.not_mem_nil, or_false] at hx
  rcases hx with rfl | rfl | rfl <;> rfl
/-- v is a slice of lines of the call's own (from block B on). -/
def OwnL (B : Nat) (w : World) (v : Value) (l : List Ln) : Prop := w.ownsRow B 68 3 v l.length (LVs l)
theorem OwnL.nil (B : Nat) (w : World) : OwnL B w (.slice none 0 0) [] := World.ownsRow_nil w B 68 3
set_option maxRecDepth 100000 in
theorem info45 : (Tryz.prog.info? 68).map (fun i => (i.zero, i.size, i.bytes)) = some (some (.agg #[.string ⟨#[]⟩, .string ⟨#[]⟩, .string ⟨#[]⟩]), 3, 48) := by kernel_rfl
/-- append(s, x): x lies in a block of its own -/
theorem op_append_l {o : Oper} {a : Act} {K : Act → World → Prop} {Q : Exit → Act → World → Prop} (s x : Operand)
    (ho : o.op = .call { callee := .builtin .append, args := #[s, x], argTypes := #[38, 38] })
    (B : Nat) (v : Value) (ns : List Ln) (w : World) (z : Ln) (hs : a.eval s = v) (hown : OwnL B w v ns) (hx : a.eval x = .slice (some ⟨w.heap.size, 0, none⟩) 1 1)
    (hB : B ≤ w.heap.size) (hn : ns.length ≤ 1000)
    (h : ∀ v' w', OwnL B w' v' (ns ++ [z]) → w.grownBy w' v.ownBlock → K (a.put o.dst v') w') : o.wp Tryz.prog a (w.alloc (.cells #[.string ⟨z.1.toArray⟩, .string ⟨z.2.1.toArray⟩, .string ⟨z.2.2.toArray⟩] 68)) K Q := by
  obtain ⟨i0, hi, hz0, hz1, hz2⟩ := info_parts info45
  refine wp_append_own _ s x 38 ho B 68 i0 _ 3 48 Tryz.underlying38 hi hz0 hz1 hz2 rfl (by decide) v ns.length (LVs ns) hs (World.ownsRow.alloc hown _) ⟨w.heap.size, 0, none⟩ 1 1 (LVs [z]) hx (by simp [LVs, LV]) ?_ ?_ ?_ ?_ ?_ ?_
  · intro j u hu
    have hadd : (⟨w.heap.size, 0, none⟩ : Addr).add j = ⟨w.heap.size, j, none⟩ := by unfold Addr.add; split <;> simp_all
    rw [hadd, cell_of_row _ _ _ _ _ _ (heap_alloc_new w _), ← hu]
    simp [LVs, LV]
  · exact LVs_one [z]
  · simp only [maxLen]; omega
  · omega
  · simp; omega
  · intro v' w' h2 h3 _
    refine h v' w' ?_ ?_
    · unfold OwnL
      rw [List.length_append, LVs_append]
      exact h2
    · exact (World.grownBy_alloc w _ _).trans h3
theorem OwnL.cells {B : Nat} {w : World} {v : Value} {l : List Ln} (h : OwnL B w v l) (hn : l.length ≤ 1000) (hs : ∀ x ∈ l, Sml x) : ∃ A c, v = .slice A l.length c ∧ Lns w A l.length c l := by
  rcases h.2 with ⟨rfl, h0⟩ | ⟨g, cap, cur, rfl, _, hg, hc, hm, hsz, htake⟩
  · exact ⟨none, 0, by rw [h0], rfl, by omega, by omega, hn, hs, fun hh => by omega⟩
  · refine ⟨_, _, rfl, rfl, hc, hm, hn, hs, fun _ => ⟨g, 0, rfl, ?_, fun k hk => ?_⟩⟩
    · rcases Nat.lt_or_ge g w.heap.size with h' | h'
      · exact h'
      · rw [Array.getElem?_eq_none h'] at hg; cases hg
    · have hc1 : ∀ j, j < 3 → w.cell? ⟨g, k * 3 + j, none⟩ = (LV (l.getD k ln0))[j]? := fun j hj => by
        rw [cell_of_row _ _ _ _ _ _ hg, ← LVs_at l k j hk hj, ← htake, List.getElem?_take, if_pos (by omega), Array.getElem?_toList]
      simp only [Nat.zero_add]
      exact ⟨hc1 0 (by omega), hc1 1 (by omega), hc1 2 (by omega)⟩
theorem OwnL.kept {B : Nat} {w w' : World} {v : Value} {l : List Ln} {row : Option Nat} (h : OwnL B w v l) (hg : w.grownBy w' row) (hr : ∀ k, row = some k → k < B) : OwnL B w' v l :=
  World.ownsRow.kept h hg (by
    cases hv : v.ownBlock with
    | none => exact .inl rfl
    | some g =>
      refine .inr fun e => ?_
      have := hr g e.symm
      have := (World.ownsRow.lt h g hv).1
      omega)
theorem OwnL.below {B : Nat} {w w' : World} {v : Value} {l : List Ln} (h : OwnL B w v l) (hb : Below w.heap.size w w') : OwnL B w' v l := h.kept (row := none) (grown_of_below hb) (fun _ e => by cases e)
theorem OwnL.own {B : Nat} {w : World} {v : Value} {l : List Ln} (h : OwnL B w v l) : ∀ k, v.ownBlock = some k → B ≤ k := fun k hk => (World.ownsRow.lt h k hk).1
theorem grown_setCell (w : World) (a : Addr) (u : Value) : w.grownBy (w.setCell a u) (some a.block) :=
  ⟨rfl, rfl, rfl, by simp, fun k _ hk => Below.heap_setCell w a u k (fun e => hk (by rw [e]))⟩
end Go.Proofs.YtjcbohbpkodkoaaGreatDoor

/- Contract of entry.Reverse. -/
namespace Go.Proofs.YtjcbohbpkodkoaaGreatDoor
open Go.RowKit Go.Maps Num

def negL (x : Ln) : Ln := (x.1, x.2.1, txt (- val x.2.2))
theorem negL_sml {x : Ln} (h : Sml x) (hl : x.2.2.length ≤ 60) : Sml (negL x) := by
  refine ⟨h.1, h.2.1, ?_⟩
  have h1 := val_bd x.2.2
  have h2 : 10 ^ x.2.2.length ≤ 10 ^ 60 := Nat.pow_le_pow_right (by omega) hl
  have := txt_bd (v := - val x.2.2) (k := 60) (by omega)
  show (txt _).length ≤ 100
  omega
def RevPost (d : Int) (cz : List UInt8) (l : List Ln) (w : World) (e : Ending) (w' : World) : Prop :=
  Below w.heap.size w w' ∧ if chkE d cz l = 0 then ∃ A c, e = .returned (.tuple #[.agg (enV d cz A l.length c), .int .i64 0]) ∧ Lns w' A l.length c (l.map negL)
  else e = .returned (.tuple #[.agg (enV 0 [] none 0 0), .int .i64 1])
/-- the lines made so far, in the block B -/
def RevR (d : Int) (cz : List UInt8) (l : List Ln) (w1 : World) (k : Nat) (W : World) : Prop :=
  ∃ v, W.heap[w1.heap.size]? = some (.cells #[.int .i64 d, .string ⟨cz.toArray⟩, v] 40) ∧ OwnL (w1.heap.size + 1) W v ((l.take k).map negL) ∧ Below w1.heap.size w1 W
theorem cells3 {W : World} {b : Nat} {x y z : Value} {t : TypeId} (h : W.heap[b]? = some (.cells #[x, y, z] t)) : (W.cell? ⟨b, 0, none⟩ = some x ∧ W.cell? ⟨b, 1, none⟩ = some y ∧ W.cell? ⟨b, 2, none⟩ = some z) ∧ (W.frozen? ⟨b, 0, none⟩ = false ∧ W.frozen? ⟨b, 1, none⟩ = false ∧ W.frozen? ⟨b, 2, none⟩ = false) :=
  ⟨⟨cell_of_row _ _ _ _ _ _ h, cell_of_row _ _ _ _ _ _ h, cell_of_row _ _ _ _ _ _ h⟩, frozen_of_row _ _ _ _ _ h, frozen_of_row _ _ _ _ _ h, frozen_of_row _ _ _ _ _ h⟩
theorem set2 {W : World} {b : Nat} {x y z : Value} {t : TypeId} (h : W.heap[b]? = some (.cells #[x, y, z] t)) (u : Value) : (W.setCell ⟨b, 2, none⟩ u).heap[b]? = some (.cells #[x, y, u] t) := by
  unfold World.setCell
  simp [Array.getElem?_modify, h]
theorem set3 {W : World} {b : Nat} {x y z : Value} {t : TypeId} (h : W.heap[b]? = some (.cells #[x, y, z] t)) (p q u : Value) : (((W.setCell ⟨b, 0, none⟩ p).setCell ⟨b, 1, none⟩ q).setCell ⟨b, 2, none⟩ u).heap[b]? = some (.cells #[p, q, u] t) := by
  unfold World.setCell
  simp [Array.getElem?_modify, h]
theorem wpList_append_l {ops : Array Oper} {rest : List Oper} {o : Oper} {a : Act} {Q : Exit → Act → World → Prop} (hgd : o.guard = none) (s x : Operand)
    (ho : o.op = .call { callee := .builtin .append, args := #[s, x], argTypes := #[38, 38] })
    (B : Nat) (v : Value) (ns : List Ln) (w : World) (z : Ln) (hs : a.eval s = v) (hown : OwnL B w v ns) (hx : a.eval x = .slice (some ⟨w.heap.size, 0, none⟩) 1 1)
    (hB : B ≤ w.heap.size) (hn : ns.length ≤ 1000)
    (h : ∀ v' w', OwnL B w' v' (ns ++ [z]) → w.grownBy w' v.ownBlock → wpList Tryz.prog ops Q rest (a.put o.dst v') w') : wpList Tryz.prog ops Q (o :: rest) a (w.alloc (.cells #[.string ⟨z.1.toArray⟩, .string ⟨z.2.1.toArray⟩, .string ⟨z.2.2.toArray⟩] 68)) :=
  wpList_plain hgd fun _ hK => op_append_l s x ho B v ns w z hs hown hx hB hn fun v' w' h2 h3 => hK _ _ (h v' w' h2 h3)
theorem OwnL.slice {B : Nat} {w : World} {v : Value} {l : List Ln} (h : OwnL B w v l) : ∃ A n c, v = .slice A n c := by
  rcases h.2 with ⟨rfl, _⟩ | ⟨g, cap, cur, rfl, _⟩
  · exact ⟨_, _, _, rfl⟩
  · exact ⟨_, _, _, rfl⟩
theorem below_own {B : Nat} {w W U : World} {row : Option Nat} (h : Below B w W) (hB : B ≤ w.heap.size) (hg : W.grownBy U row) (hr : ∀ k, row = some k → B ≤ k) : Below B w U := by
  have hs := h.size
  refine ⟨hg.os.trans h.os, hg.tape.trans h.tape, hg.output.trans h.output, Nat.le_trans hs hg.size, fun k hk => ?_⟩
  rw [hg.block k (by omega) (fun e => by have := hr k e.symm; omega), h.block k hk]
theorem below_set3 {w W : World} (h : Below w.heap.size w W) {b : Nat} (hb : w.heap.size ≤ b) (p q u : Value) : Below w.heap.size w (((W.setCell ⟨b, 0, none⟩ p).setCell ⟨b, 1, none⟩ q).setCell ⟨b, 2, none⟩ u) :=
  below_grown (below_grown (below_grown h (Nat.le_refl _) (grown_setCell _ _ _) hb) (Nat.le_refl _) (grown_setCell _ _ _) hb) (Nat.le_refl _) (grown_setCell _ _ _) hb
end Go.Proofs.YtjcbohbpkodkoaaGreatDoor
