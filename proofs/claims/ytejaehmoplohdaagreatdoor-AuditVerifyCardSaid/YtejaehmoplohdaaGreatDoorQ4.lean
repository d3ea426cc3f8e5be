/- As in BoxC; the loop's assignment may make memory. A range over an iterator that keeps what is left in a captured cell: the iterator writes block bs between two rounds. -/
import Derived.Test.YtejaehmoplohdaaGreatDoorQ3
import Derived.Maps.RangeWalk
import Derived.RangeFuncNested
import Derived.RangeFuncBound
import Derived.RangeFuncCalls
import Derived.RangeFuncLeaves
import Derived.Shelf.Abstract
import Derived.Shelf.RegionOpen
import Derived.WalkKit
import Derived.OwnWalkIn
import Derived.TacticsInMore
import Derived.LoopNIn
import Derived.LoopIn
import Derived.Maps.OwnSet
import Derived.Maps.Views
import Derived.Lib.AppendIntMem
import Derived.OwnWalk
import Derived.Laws.OwnMore
import Derived.Lib.AppendZeros
import Derived.Maps.AppendAt
import Derived.DeepKeys4
import Derived.RangeFuncBox
import Derived.Sort.MapsRangeIn
import Derived.Sort.KeysCollected
import Derived.Maps.OwnIn
namespace Go.Proofs.YtejaehmoplohdaaGreatDoor
open Go.RowKit Go.Shelf

theorem range_boxA (c : Nat) {F : Fence} {n : Nat} {P : Program} {α : Type} {g : Operand} {ps : Array Tmp} {assign body : Code} {Q : Exit → Act → World → Prop} {a : Act} {w : World}
    (hro : F.round = none) (h1 : 1 ≤ n) {gf : Nat} {lb : Array Value} (hg : a.eval g = .func (.func gf) #[] lb) (hFg : F.fn gf) (eg : ∀ args w, (callFunc gf args).run P w = .ok (.enter gf args) w)
    {encs : α → Array Value} (bs : Nat) (hbs : bs < w.heap.size) (h3w : c < w.heap.size) {S Sp : List α → Prop} {N : Nat} (hseq : SeqBoxC c F (n - 1) P gf lb encs bs S Sp N w) (hps : ∀ x, (encs x).size = ps.size)
    (I Ix : List α → World → Prop) (hI : OwnFrom w.heap.size I) (hIx : OwnFrom w.heap.size Ix) (hIb : ∀ s A B, I s A → A.grownBy B (some bs) → I s B) (hIxb : ∀ s A B, Ix s A → A.grownBy B (some bs) → Ix s B) (h0 : I [] w) (a₁ : α → World → Act) (Pr : α → World → World → Prop) (hPr : ∀ x W0 W' o, w.heap.size + 1 < W0.heap.size → Pr x W0 W' → Pr x W0 (W'.putObj (w.heap.size + 1) o))
    (hassign : ∀ (l : Nat) (x : α) (W : World) (K : Act → World → Prop), (∀ W', W.grownBy W' none → Pr x W W' → K (a₁ x W) W') →
      assign.wpIn (F.inRound l) (n - 1 - 1) P (Exit.then K (fun _ _ _ => False)) { tmps := (ps.zip (encs x)).foldl (fun t (p, v) => t.setIfInBounds p v) a.tmps, defers := [] } W)
    (hbody : ∀ (l : Nat) (pre : List α) (x : α) (W0 W : World), w.heap.size + 2 ≤ W0.heap.size → I pre W → Pr x W0 W → pre.length < N → body.wpIn (F.inRound l) (n - 1 - 1) P (BoxEndC c w.heap.size bs I Ix (pre ++ [x]) W) (a₁ x W0) W)
    (hdone : ∀ (D : Nat) (xs : List α) (W : World), w.heap.size ≤ D → S xs → I xs W → W.heap[D]? = some (.deferred (some [])) → Q .normal { a with defers := { target := .collected D, args := #[] } :: a.defers } W)
    (hstop : ∀ (D : Nat) (pre : List α) (W : World), w.heap.size ≤ D → Sp pre → Ix pre W → W.heap[D]? = some (.deferred (some [])) → Code.ret.wpIn F n P Q { a with defers := { target := .collected D, args := #[] } :: a.defers } W) :
    (Code.rangeFunc g ps assign body).wpIn F n P Q a w := by
  refine wpIn_rangeFunc fun fn hfn => ?_
  rw [hro]
  let rc : LoopState → Option Code → Loop := fun st pe => { state := st, pending := pe, fn, tmps := a.tmps, params := ps, assign, body, defers := w.heap.size }
  have hrc : ∀ st pe, rc st pe = { state := st, pending := pe, fn, tmps := a.tmps, params := ps, assign, body, defers := w.heap.size } := fun _ _ => rfl
  obtain ⟨W1, hW1⟩ : ∃ W1, (w.alloc (.deferred (some []))).alloc (.loop (rc .ready none)) = W1 := ⟨_, rfl⟩
  -- the two blocks of the book-keeping
  have hD1 : W1.heap[w.heap.size]? = some (.deferred (some [])) := by
    rw [← hW1]; exact (Below.heap_alloc _ _ _ (by simp)).trans (World.alloc_heap_new w _)
  have hL1 : W1.heap[w.heap.size + 1]? = some (.loop (rc .ready none)) := by
    have h := World.alloc_heap_new (w.alloc (.deferred (some []))) (.loop (rc .ready none))
    rw [World.size_alloc] at h
    rw [← hW1]; exact h
  have hI1 : I [] W1 := by rw [← hW1]; exact hI.alloc _ (hI.alloc _ h0)
  have hb1 : Below w.heap.size w W1 := by rw [← hW1]; exact ((Below.refl _ w).alloc (Nat.le_refl _) _).alloc (by simp) _
  refine ⟨w.heap.size + 1, [{ target := .collected w.heap.size, args := #[] }], W1, { target := .fn (.func gf) lb, args := #[.func (.yield (w.heap.size + 1)) #[] #[]] }, W1, gf,
    #[.func (.yield (w.heap.size + 1)) #[] #[]] ++ lb, W1, ?_, ?_, ?_, ?_, fun _ => h1, ?_⟩
  · rw [← hW1]; exact run_enterLoop_outer _ _ _ _ _
  · simp only [resolve, hg]
    simp [go_sem]
  · intro f' hf'; simp [Target.leads] at hf'; subst hf'; exact hFg
  · simp [invoke, go_sem, eg]
  have keeps : ∀ {A B : World} {k : Nat} {o : Obj}, A.grownBy B (some bs) → w.heap.size ≤ k → A.heap[k]? = some o → B.heap[k]? = some o := fun hgr hk ho =>
    (hgr.block _ (Array.getElem?_eq_some_iff.1 ho).1 (fun e => by cases e; omega)).trans ho
  refine (hseq (w.heap.size + 1)
    (fun pre W => I pre W ∧ W.heap[w.heap.size + 1]? = some (.loop (rc .ready none)) ∧ W.heap[w.heap.size]? = some (.deferred (some [])))
    (fun pre W => Ix pre W ∧ W.heap[w.heap.size + 1]? = some (.loop (rc .done (some .ret))) ∧ W.heap[w.heap.size]? = some (.deferred (some [])))
    W1 hb1 (fun s A B hs hgr => ⟨hIb s A B hs.1 hgr, keeps hgr (by omega) hs.2.1, keeps hgr (Nat.le_refl _) hs.2.2⟩)
    (fun s A B hs hgr => ⟨hIxb s A B hs.1 hgr, keeps hgr (by omega) hs.2.1, keeps hgr (Nat.le_refl _) hs.2.2⟩) ?_ ⟨hI1, hL1, hD1⟩).mono ?_
  · -- a round
    rintro pre x W ⟨hi, hl, hk⟩ hlen
    have hlt : w.heap.size + 1 < W.heap.size := (Array.getElem?_eq_some_iff.1 hl).1
    refine ⟨fn, _, assign, body, run_yield (P := P) (args := encs x) hl (hps x), roundIn_of_wpIn hfn (hassign _ x W _ fun Wa hga hpa => ?_)⟩
    have hi := hIb _ _ _ hi (hga.but (some bs))
    have hl' := (hga.block _ hlt (by simp)).trans hl
    have hk' := (hga.block _ (by omega) (by simp)).trans hk
    have hlt' : w.heap.size + 1 < Wa.heap.size := (Array.getElem?_eq_some_iff.1 hl').1
    have hxa : TwoC c bs W Wa := ⟨hga.block _ (by omega) (by simp), hga.block _ (by omega) (by simp)⟩
    refine ⟨_, run_beginRound hl' rfl, ?_⟩
    have hl2 : (Wa.putObj (w.heap.size + 1) (.loop { rc .ready none with state := .busy })).heap[w.heap.size + 1]? = some (.loop { rc .ready none with state := .busy }) := World.putObj_heap_same hlt'
    have hk2 : (Wa.putObj (w.heap.size + 1) (.loop { rc .ready none with state := .busy })).heap[w.heap.size]? = some (.deferred (some [])) := (World.putObj_heap_other (by omega)).trans hk'
    have hx2 : TwoC c bs W (Wa.putObj (w.heap.size + 1) (.loop { rc .ready none with state := .busy })) := hxa.trans ⟨World.putObj_heap_other (by omega), World.putObj_heap_other (by omega)⟩
    refine wpIn_mono (hbody _ pre x W _ (by omega) (hI.putObj _ hi (by omega) hl' rfl) (hPr _ _ _ _ hlt hpa) hlen) ?_
    rintro e a3 W3 hp
    cases e with
    | normal =>
      obtain ⟨hk3, hkp3, hi3⟩ := hp
      have hl3 := hk3.same _ _ (by omega) hl2 rfl
      exact ⟨_, _, run_endRound (P := P) none hl3, .inl ⟨rfl, ⟨hI.putObj _ hi3 (by omega) hl3 rfl, World.putObj_heap_same (Array.getElem?_eq_some_iff.1 hl3).1, (World.putObj_heap_other (by omega)).trans (hk3.same _ _ (Nat.le_refl _) hk2 rfl)⟩,
        (hx2.trans hkp3).trans ⟨World.putObj_heap_other (by omega), World.putObj_heap_other (by omega)⟩⟩⟩
    | ret =>
      obtain ⟨hk3, hi3⟩ := hp
      have hl3 := hk3.same _ _ (by omega) hl2 rfl
      exact ⟨_, _, run_endRound (P := P) (some .ret) hl3, .inr ⟨rfl, hIx.putObj _ hi3 (by omega) hl3 rfl, World.putObj_heap_same (Array.getElem?_eq_some_iff.1 hl3).1, (World.putObj_heap_other (by omega)).trans (hk3.same _ _ (Nat.le_refl _) hk2 rfl)⟩⟩
    | exit id => exact hp.elim
    | goto t => exact hp.elim
    | panic ch => exact hp.elim
    | outgrown => exact hp.elim
  · -- behind the iterator
    rintro e W2 ⟨⟨v, rfl⟩, (⟨xs, hS, hi, hl, hk⟩ | ⟨pre, hSp, hi, hl, hk⟩)⟩
    · exact ⟨none, _, run_endLoop (P := P) hl (by simp [hrc]), hdone _ xs _ (Nat.le_refl _) hS (hI.putObj _ hi (by omega) hl rfl) ((World.putObj_heap_other (by omega)).trans hk)⟩
    · exact ⟨some .ret, _, run_endLoop (P := P) hl (by simp [hrc]), hstop _ pre _ (Nat.le_refl _) hSp (hIx.putObj _ hi (by omega) hl rfl) ((World.putObj_heap_other (by omega)).trans hk)⟩
end Go.Proofs.YtejaehmoplohdaaGreatDoor

/- Contracts of money.sum and money.Put at no money and one of amount 0. -/
namespace Go.Proofs.YtejaehmoplohdaaGreatDoor
open Go.RowKit Go.Shelf Num
attribute [local go_sem] Oper.semAt_some

/-- what the loop in sum keeps in memory -/
structure SI (w : World) (W : World) : Prop where
  ho : Boxed W w.heap.size 146 (.slice none 0 0)
  bel : Below w.heap.size w W
  sz : w.heap.size + 3 ≤ W.heap.size
theorem SI.grown {w W W' : World} {row : Option Nat} (h : SI w W) (hg : W.grownBy W' row) (hrow : ∀ r, row = some r → w.heap.size < r) : SI w W' :=
  ⟨h.ho.kept hg (fun e => by have := hrow _ e.symm; omega), h.bel.grown hg h.bel.size (fun k e => Nat.le_of_lt (hrow k e)), Nat.le_trans h.sz hg.size⟩
theorem SI.below {w W W' : World} (h : SI w W) (hb : Below W.heap.size W W') : SI w W' :=
  ⟨(hb.block _ h.ho.lt).trans h.ho, h.bel.trans (hb.mono h.bel.size), Nat.le_trans h.sz hb.size⟩
def AmP (_ : Unit) (W0 W : World) : Prop := W.cell? ⟨W0.heap.size, 0, none⟩ = some (.string ⟨#[]⟩) ∧ W.cell? ⟨W0.heap.size, 1, none⟩ = some (.string ⟨#[]⟩)
theorem AmP.put {x : Unit} {W0 W : World} (h : AmP x W0 W) {b : Nat} (hb : b < W0.heap.size) (o : Obj) : AmP x W0 (W.putObj b o) :=
  ⟨(World.cell?_of_block (a := ⟨W0.heap.size, 0, none⟩) (World.putObj_heap_other (by simp; omega))).trans h.1, (World.cell?_of_block (a := ⟨W0.heap.size, 1, none⟩) (World.putObj_heap_other (by simp; omega))).trans h.2⟩
set_option maxRecDepth 100000 in
set_option maxHeartbeats 4000000 in
theorem sum_one (d : Nat) (hd : 1 ≤ d) (bm : Nat) (l : List UInt8) (w : World) (m0 : w.cell? ⟨bm, 0, none⟩ = some (.string ⟨l.toArray⟩)) (m1 : w.cell? ⟨bm, 1, none⟩ = some (.string ⟨#[]⟩)) (ht : Tab w) :
    CallsIn Fence.wide d Tryz.prog 154 #[.slice none 0 0, .slice (some ⟨bm, 0, none⟩) 1 1] w fun e w' => e = .returned (.tuple #[.slice none 0 0, .int .i64 0]) ∧ Below w.heap.size w w' := by
  refine callsIn_of_wp_marks Tryz.func154 rfl trivial ?_ rfl
  simp only [Tryz.ntmps154, List.size_toArray, List.length_cons, List.length_nil, Nat.reduceAdd, Nat.reduceSub, Array.replicate_succ, Array.replicate_zero, List.push_toArray, List.append_toArray, List.nil_append, List.cons_append]
  gi_wp2_with (refine ⟨trivial, ?_⟩; refine (callsIn_wide.2 (both_any _ _ _ _)).mono ?_; rintro e w' ⟨rfl, rfl⟩)
  have hbl : bm < w.heap.size := block_lt_of_cell m0
  have b0 := Boxed.new w 146 (.slice none 0 0)
  have b1 := Boxed.new (w.alloc (.cells #[.slice none 0 0] 146)) 146 (.slice none 0 0)
  have b2 := Boxed.new ((w.alloc (.cells #[.slice none 0 0] 146)).alloc (.cells #[.slice none 0 0] 146)) 146 (.slice (some ⟨bm, 0, none⟩) 1 1)
  simp only [World.size_alloc] at b1 b2 ⊢
  have hB0 : Below w.heap.size w (((w.alloc (.cells #[.slice none 0 0] 146)).alloc (.cells #[.slice none 0 0] 146)).alloc (.cells #[.slice (some ⟨bm, 0, none⟩) 1 1] 146)) := ex_alloc3 w _ _ _
  have hF0 : SI w (((w.alloc (.cells #[.slice none 0 0] 146)).alloc (.cells #[.slice none 0 0] 146)).alloc (.cells #[.slice (some ⟨bm, 0, none⟩) 1 1] 146)) := ⟨(b0.alloc _).alloc _, hB0, by simp⟩
  have b1' := b1.alloc (.cells #[.slice (some ⟨bm, 0, none⟩) 1 1] 146)
  have hsz : (((w.alloc (.cells #[.slice none 0 0] 146)).alloc (.cells #[.slice none 0 0] 146)).alloc (.cells #[.slice (some ⟨bm, 0, none⟩) 1 1] 146)).heap.size = w.heap.size + 3 := by simp
  clear b0 b1
  generalize (((w.alloc (.cells #[.slice none 0 0] 146)).alloc (.cells #[.slice none 0 0] 146)).alloc (.cells #[.slice (some ⟨bm, 0, none⟩) 1 1] 146)) = W0 at *
  have n0 := (hB0.cell (p := ⟨bm, 0, none⟩) hbl).trans m0
  have n1 := (hB0.cell (p := ⟨bm, 1, none⟩) hbl).trans m1
  refine range_boxA (w.heap.size + 1) rfl hd (gf := 193) (lb := #[.pointer (some ⟨w.heap.size + 1, 0, none⟩), .pointer (some ⟨w.heap.size + 1 + 1, 0, none⟩)]) rfl trivial (enters_of Tryz.func193 (by kernel_rfl) rfl) (w.heap.size + 1 + 1) (by omega) (by omega)
    (both_stops (d - 1) (w.heap.size + 1) (w.heap.size + 1 + 1) bm l W0 b1' b2 n0 n1 (by omega) (by omega) (by omega)) (fun _ => rfl)
    (fun _ W => SI w W) (fun _ _ => False)
    (fun s A B row hs hg hr => hs.grown hg (fun r e => by have := (hr r e).1; omega))
    (fun s A B row hs hg hr => hs)
    (fun s A B hs hg => hs.grown hg (fun r e => by cases e; omega))
    (fun s A B hs hg => hs)
    hF0
    (fun _ Wp => { tmps := #[.slice none 0 0, .slice (some ⟨bm, 0, none⟩) 1 1, undef, undef, .slice none 0 0, .int .i64 0, .pointer (some ⟨w.heap.size, 0, none⟩), .string ⟨l.toArray⟩, .pointer (some ⟨Wp.heap.size, 0, none⟩), undef, .slice none 0 0, .slice (some ⟨bm, 0, none⟩) 1 1, .func (.func 193) #[] #[.pointer (some ⟨w.heap.size + 1, 0, none⟩), .pointer (some ⟨w.heap.size + 1 + 1, 0, none⟩)], .string ⟨l.toArray⟩, .agg #[.string ⟨#[]⟩, .string ⟨#[]⟩], undef, undef, undef, undef, undef, undef, undef, undef, undef, undef, undef, undef, undef, undef, undef, undef, undef], defers := [] })
    AmP (fun x W0 W' o hlt h => h.put hlt o) ?assign ?body ?done ?stop
  case assign =>
    intro lp x W K hK
    gi_wp2
    exact hK _ (World.grownBy_alloc _ _ _) ⟨by go_simp, by go_simp⟩
  case body =>
    rintro lp pre x Wp W hWp hF ⟨p0, p1⟩ _
    have htW : Tab W := ht.below hF.bel
    have hadd : CallsIn (Fence.wide.inRound lp) (d - 1 - 1 - 1) Tryz.prog 27 #[.string ⟨#[]⟩, .string ⟨#[]⟩] W fun e w' => e = .returned (.string ⟨#[]⟩) ∧ Below W.heap.size W w' := by
      refine CallsIn.inRound lp (callsIn_wide.2 ?_)
      refine (Add_any ⟨#[]⟩ ⟨#[]⟩ W (by decide) (by decide) htW).mono ?_
      rintro e w' ⟨he, hb⟩
      refine ⟨?_, hb⟩
      have e0 : txt (val (⟨#[]⟩ : ByteArray).data.toList + val (⟨#[]⟩ : ByteArray).data.toList) = [] := txt_zero
      rw [he, e0]
    have HA := Lib.hid hadd
    clear hadd b1' b2 hF0 hB0 n0 n1 m0 m1
    gi_wp2_with (refine ⟨trivial, fun h => (by cases h), ?_⟩; refine HA.out.mono ?_; rintro e W3 ⟨rfl, hb3⟩)
    refine ⟨(keeps_of_below hb3).from _, ⟨hb3.block _ ?_, hb3.block _ ?_⟩, hF.below hb3⟩
    · have := hF.sz; omega
    · have := hF.sz; omega
  case done =>
    rintro D ys W hD hys hF hK
    have c0 := hF.ho.cell
    clear b1' b2 hF0 hB0 n0 n1 m0 m1
    gi_wp2
    refine ⟨by simp, .inl ⟨_, _, rfl, run_takeDeferred hK, ?_⟩⟩
    refine ⟨.tuple #[.slice none 0 0, .int .i64 0], ?_, rfl, hF.bel.trans (belowK_b (w := w) (Nat.le_refl _) W D _ _ (by omega) hK rfl rfl)⟩
    simp [results, Tryz.f154, go_sem]
  case stop =>
    rintro D pre W hD hpre hF hK
    exact hF.elim
theorem chkI_nil : chkI [] = 0 := by
  have : can [] = [] := txt_zero
  rw [chkI, if_pos this]
def PutPost (l : List UInt8) (w : World) (e : Ending) (w' : World) : Prop := e = .returned (.tuple #[.slice none 0 0, .int .i64 (if curB l then 0 else 23)]) ∧ Below w.heap.size w w'
set_option maxRecDepth 100000 in
theorem Put_any (l : List UInt8) (w : World) (hl : l.length ≤ maxLen) (ht : Tab w) : Calls Tryz.prog 116 #[.slice none 0 0, .agg #[.string ⟨l.toArray⟩, .string ⟨#[]⟩]] w (PutPost l w) := by
  have h1 := fun W => isCode_any ⟨l.toArray⟩ W hl
  have e1 : (⟨l.toArray⟩ : ByteArray).data.toList = l := rfl
  rw [e1] at h1
  have h2 := fun W => Check_any ⟨#[]⟩ W (by decide)
  have e2 : chkI (⟨#[]⟩ : ByteArray).data.toList = 0 := chkI_nil
  rw [e2] at h2
  unfold IntPost at h2
  have H1 := Lib.hid h1
  have H2 := Lib.hid h2
  have hq := Lib.hid (show PutPost l w = fun e w' => e = .returned (.tuple #[.slice none 0 0, .int .i64 (if curB l then 0 else 23)]) ∧ Below w.heap.size w w' from rfl)
  clear h1 h2 e1 e2
  have hbx : Below w.heap.size w (w.alloc (.cells #[.string ⟨l.toArray⟩, .string ⟨#[]⟩] 150)) := (Below.refl _ w).alloc (Nat.le_refl _) _
  have x0 : (w.alloc (.cells #[.string ⟨l.toArray⟩, .string ⟨#[]⟩] 150)).cell? ⟨w.heap.size, 0, none⟩ = some (.string ⟨l.toArray⟩) := by go_simp
  have x1 : (w.alloc (.cells #[.string ⟨l.toArray⟩, .string ⟨#[]⟩] 150)).cell? ⟨w.heap.size, 1, none⟩ = some (.string ⟨#[]⟩) := by go_simp
  cases hc : curB l
  · have H1' := Lib.hid (by have := H1.out; rw [hc] at this; exact this)
    go_enter Tryz.func116, Tryz.ntmps116
    go_wp2_with fail
    refine (MCheck_nil _).mono ?_
    rintro e w1 ⟨rfl, rfl⟩
    go_wp2_with fail
    refine (H1'.out _).mono ?_
    rintro e w1 ⟨rfl, rfl⟩
    go_wp2_with fail
    go_ret2
    rw [hq.out]
    exact ⟨by rw [hc]; rfl, hbx⟩
  · have H1' := Lib.hid (by have := H1.out; rw [hc] at this; exact this)
    go_enter Tryz.func116, Tryz.ntmps116
    go_wp2_with fail
    refine (MCheck_nil _).mono ?_
    rintro e w1 ⟨rfl, rfl⟩
    go_wp2_with fail
    refine (H1'.out _).mono ?_
    rintro e w1 ⟨rfl, rfl⟩
    go_wp2_with fail
    refine (H2.out _).mono ?_
    rintro e w1 ⟨rfl, hb1⟩
    have x0' := (hb1.cell (p := ⟨w.heap.size, 0, none⟩) (by simp)).trans x0
    have x1' := (hb1.cell (p := ⟨w.heap.size, 1, none⟩) (by simp)).trans x1
    have B1 := Lib.hid (hbx.trans (hb1.mono (by simp)))
    clear x0 x1 hb1
    go_wp2_with fail
    have hal : Below w1.heap.size w1 (w1.alloc (.cells #[.string ⟨l.toArray⟩, .string ⟨#[]⟩] 150)) := (Below.refl _ _).alloc (Nat.le_refl _) _
    have B2 := Lib.hid (B1.out.trans (hal.mono B1.out.size))
    have hs := (callsIn_wide (n := 5)).1 (sum_one 5 (by omega) w1.heap.size l (w1.alloc (.cells #[.string ⟨l.toArray⟩, .string ⟨#[]⟩] 150)) (by go_simp) (by go_simp) (ht.below B2.out))
    refine hs.mono ?_
    rintro e w2 ⟨rfl, hb2⟩
    have B3 := Lib.hid (B2.out.trans (hb2.mono B2.out.size))
    clear hs hal hb2
    go_wp2_with fail
    go_ret2
    rw [hq.out]
    exact ⟨by rw [hc]; rfl, B3.out⟩
end Go.Proofs.YtejaehmoplohdaaGreatDoor

/- The contract of the iterator over two bags, of which the first one is empty and the second one has one money of any amount. -/
namespace Go.Proofs.YtejaehmoplohdaaGreatDoor
open Go.RowKit Go.Shelf
attribute [local go_sem] Oper.semAt_some

set_option maxRecDepth 100000 in
set_option maxHeartbeats 4000000 in
theorem both2_stops (d ba bb bm : Nat) (l m : List UInt8) (w : World) (ha : Boxed w ba 146 (.slice none 0 0)) (hb : Boxed w bb 146 (.slice (some ⟨bm, 0, none⟩) 1 1))
    (m0 : w.cell? ⟨bm, 0, none⟩ = some (.string ⟨l.toArray⟩)) (m1 : w.cell? ⟨bm, 1, none⟩ = some (.string ⟨m.toArray⟩)) (hab : ba ≠ bb) (hbm : bm ≠ bb) (lm : bm < w.heap.size) :
    SeqBoxC ba Fence.wide d Tryz.prog 193 #[.pointer (some ⟨ba, 0, none⟩), .pointer (some ⟨bb, 0, none⟩)] (fun _ : Unit => #[.string ⟨l.toArray⟩, (.agg #[.string ⟨#[]⟩, .string ⟨m.toArray⟩])]) bb (fun xs => xs = [()]) (fun _ => True) 1 w := by
  intro lp J Jx W hW hJ hJx hY h0
  have la := ha.lt
  have lb := hb.lt
  have haW : Boxed W ba 146 (.slice none 0 0) := (hW.block ba la).trans ha
  have hbW : Boxed W bb 146 (.slice (some ⟨bm, 0, none⟩) 1 1) := (hW.block bb lb).trans hb
  have m0W : W.cell? ⟨bm, 0, none⟩ = some (.string ⟨l.toArray⟩) := (hW.cell (p := ⟨bm, 0, none⟩) lm).trans m0
  have m1W : W.cell? ⟨bm, 1, none⟩ = some (.string ⟨m.toArray⟩) := (hW.cell (p := ⟨bm, 1, none⟩) lm).trans m1
  refine callsIn_of_wp Tryz.func193 rfl trivial ?_ rfl
  simp only [Tryz.ntmps193, List.size_toArray, List.length_cons, List.length_nil, Nat.reduceAdd, Nat.reduceSub, Array.replicate_succ, Array.replicate_zero, List.push_toArray, List.append_toArray, List.nil_append, List.cons_append]
  gi_wp2
  gi_loopw [4, 5] (fun _ _ wr => (Boxed wr bb 146 (.slice (some ⟨bm, 0, none⟩) 1 1) ∧ Boxed wr ba 146 (.slice none 0 0) ∧ wr.cell? ⟨bm, 0, none⟩ = some (.string ⟨l.toArray⟩) ∧ wr.cell? ⟨bm, 1, none⟩ = some (.string ⟨m.toArray⟩) ∧ J [] wr) ∨ (Boxed wr bb 146 (.slice (some ⟨bm, 0, none⟩) 0 0) ∧ Boxed wr ba 146 (.slice none 0 0) ∧ J [()] wr)) (fun _ _ wr => bagLen bb wr)
  case atStart => exact .inl ⟨hbW, haW, m0W, m1W, h0⟩
  case round =>
    rcases hrel with ⟨hbx, hax, c0, c1, hj⟩ | ⟨hbx, hax, hj⟩
    · have cb := hbx.cell
      have fb := hbx.frozen
      have ca := hax.cell
      have HY := Lib.hid hY
      have HJ := Lib.hid hJ
      have HX := Lib.hid hJx
      clear hY hJ hJx
      have hlt := hbx.lt
      have hbx2 := hbx.alloc (.cells #[.string ⟨#[]⟩, .string ⟨#[]⟩] 217)
      have hax2 := hax.alloc (.cells #[.string ⟨#[]⟩, .string ⟨#[]⟩] 217)
      have hal : Below wr.heap.size wr (wr.alloc (.cells #[.string ⟨#[]⟩, .string ⟨#[]⟩] 217)) := (Below.refl _ _).alloc (Nat.le_refl _) _
      have e0 := (hal.cell (p := ⟨bm, 0, none⟩) (block_lt_of_cell c0)).trans c0
      have e1 := (hal.cell (p := ⟨bm, 1, none⟩) (block_lt_of_cell c1)).trans c1
      have n1 : (wr.alloc (.cells #[.string ⟨#[]⟩, .string ⟨#[]⟩] 217)).cell? ⟨wr.heap.size, 1, none⟩ = some (.string ⟨#[]⟩) := by go_simp
      have n0 : (wr.alloc (.cells #[.string ⟨#[]⟩, .string ⟨#[]⟩] 217)).cell? ⟨wr.heap.size, 0, none⟩ = some (.string ⟨#[]⟩) := by go_simp
      have k1 : (wr.alloc (.cells #[.string ⟨#[]⟩, .string ⟨#[]⟩] 217)).frozen? ⟨wr.heap.size, 1, none⟩ = false := by go_simp
      have hnb := heap_alloc_new wr (.cells #[.string ⟨#[]⟩, .string ⟨#[]⟩] 217)
      have cb2 := hbx2.cell
      have fb2 := hbx2.frozen
      have ca2 := hax2.cell
      have HB2 := Lib.hid hbx2
      have HA2 := Lib.hid hax2
      have HN := Lib.hid hnb
      have HG := Lib.hid (fun n x y => grown_both wr (.cells #[.string ⟨#[]⟩, .string ⟨#[]⟩] 217) n bb x y)
      have HAL := Lib.hid hal
      have hne1 : wr.heap.size ≠ bb := by omega
      have hne2 : bb ≠ wr.heap.size := by omega
      clear hnb hbx2 hax2 hal c0 c1 fb
      gi_wp2
      clear ca cb
      generalize wr.alloc (.cells #[.string ⟨#[]⟩, .string ⟨#[]⟩] 217) = W2 at *
      gi_quiet (fail)
      gi_wp2
      gi_region
      have hgr := HG.out (nq + 1) (.string ⟨m.toArray⟩) (.slice (some ⟨bm, 0, none⟩) 0 0)
      have hbY : Boxed (((W2.drewN (nq + 1)).setCell ⟨wr.heap.size, 1, none⟩ (.string ⟨m.toArray⟩)).setCell ⟨bb, 0, none⟩ (.slice (some ⟨bm, 0, none⟩) 0 0)) bb 146 (.slice (some ⟨bm, 0, none⟩) 0 0) :=
        Boxed.set _ (Boxed.kept (W := W2.drewN (nq + 1)) HB2.out (grown_set _ wr.heap.size 1 _) (fun e => hne2 (by cases e; rfl)))
      have haY : Boxed (((W2.drewN (nq + 1)).setCell ⟨wr.heap.size, 1, none⟩ (.string ⟨m.toArray⟩)).setCell ⟨bb, 0, none⟩ (.slice (some ⟨bm, 0, none⟩) 0 0)) ba 146 (.slice none 0 0) :=
        (Boxed.kept (W := W2.drewN (nq + 1)) HA2.out (grown_set _ wr.heap.size 1 _) (fun e => by have := hax.lt; cases e; omega)).kept (grown_set _ bb 0 _) (fun e => hab (by cases e; rfl))
      have hjY := HJ.out _ _ _ hj hgr
      have y0 : (((W2.drewN (nq + 1)).setCell ⟨wr.heap.size, 1, none⟩ (.string ⟨m.toArray⟩)).setCell ⟨bb, 0, none⟩ (.slice (some ⟨bm, 0, none⟩) 0 0)).cell? ⟨wr.heap.size, 0, none⟩ = some (.string ⟨#[]⟩) := by
        rw [World.cell?_setCell_other _ _ _ _ (by simp), World.cell?_setCell_other _ _ _ _ (by simp)]; exact n0
      have y1 : (((W2.drewN (nq + 1)).setCell ⟨wr.heap.size, 1, none⟩ (.string ⟨m.toArray⟩)).setCell ⟨bb, 0, none⟩ (.slice (some ⟨bm, 0, none⟩) 0 0)).cell? ⟨wr.heap.size, 1, none⟩ = some (.string ⟨m.toArray⟩) := by
        rw [World.cell?_setCell_other _ _ _ _ (by simp)]; exact World.cell?_setCell_same (W2.drewN (nq + 1)) _ _ n1
      generalize ((W2.drewN (nq + 1)).setCell ⟨wr.heap.size, 1, none⟩ (.string ⟨m.toArray⟩)).setCell ⟨bb, 0, none⟩ (.slice (some ⟨bm, 0, none⟩) 0 0) = WY at *
      obtain ⟨fn, tmps, assign, body, hy, hR⟩ := HY.out [] () WY hjY (by simp)
      have HBY := Lib.hid hbY
      have HAY := Lib.hid haY
      clear hbY haY cb2 fb2 ca2 e0 e1 n0 n1 k1
      gi_wp2
      refine ⟨fun h => (by cases h), ?_⟩
      refine hR.mono ?_
      clear hR
      rintro e W5 (⟨rfl, h1, h2⟩ | ⟨rfl, h1⟩)
      · have hb5 : Boxed W5 bb 146 (.slice (some ⟨bm, 0, none⟩) 0 0) := h2.1.trans HBY.out
        have ha5 : Boxed W5 ba 146 (.slice none 0 0) := h2.2.trans HAY.out
        have hbl := Lib.hid hbx.cell
        gi_wp2
        go_roundw
        case rel => exact .inr ⟨hb5, ha5, h1⟩
        case measure => rw [bagLen, bagLen, hb5.cell, hbl.out]; exact Nat.zero_lt_one
      · gi_wp2
        refine bodyPost_ret (results_none rfl _ _ _) rfl ?_
        exact ⟨⟨_, rfl⟩, .inr ⟨_, trivial, h1⟩⟩
    · have cb := hbx.cell
      have ca := hax.cell
      clear hY hJ hJx
      gi_wp2
      go_end0
      exact ⟨⟨_, rfl⟩, .inl ⟨_, rfl, hj⟩⟩
end Go.Proofs.YtejaehmoplohdaaGreatDoor

/- Lines and entries in memory; contracts of isCause, checkHead, checkLine. -/
namespace Go.Proofs.YtejaehmoplohdaaGreatDoor
open Go.RowKit Num

/-- a byte of a cause -/
def causeC (c : UInt8) : Bool := decide (97 ≤ c.toNat ∧ c.toNat ≤ 122 ∨ 48 ≤ c.toNat ∧ c.toNat ≤ 57 ∨ c.toNat = 95 ∨ c.toNat = 45 ∨ c.toNat = 32)
def causeB (l : List UInt8) : Bool := l.all causeC && (decide (1 ≤ l.length) && decide (l.length ≤ 48))
theorem zones11 (z : Nat) : (z < 32) ∨ (z = 32) ∨ (33 ≤ z ∧ z ≤ 44) ∨ (z = 45) ∨ (46 ≤ z ∧ z ≤ 47) ∨ (48 ≤ z ∧ z ≤ 57) ∨ (58 ≤ z ∧ z ≤ 94) ∨ (z = 95) ∨ (z = 96) ∨ (97 ≤ z ∧ z ≤ 122) ∨ (122 < z) := by omega
/-- 0, 13: the day, 23: the cause -/
def headI (d : Int) (c : List UInt8) : Int := if d < -25567 ∨ 84005 < d then 13 else if causeB c then 0 else 23
/-- a line's value -/
def lnV (x : Ln) : Array Value := #[.string ⟨x.1.toArray⟩, .string ⟨x.2.1.toArray⟩, .string ⟨x.2.2.toArray⟩]
/-- 0; 3: the account, 12: the currency, 1: the amount -/
def lineI (x : Ln) : Int := if codeB x.1 then if curB x.2.1 then chkI x.2.2 else 12 else 3
/-- strings of a bounded size -/
def Sml (x : Ln) : Prop := x.1.length ≤ 1000 ∧ x.2.1.length ≤ 1000 ∧ x.2.2.length ≤ 100
end Go.Proofs.YtejaehmoplohdaaGreatDoor

/- Contracts of cmp.Compare at strings and days, cmp.Or, place, key.compare, compareLines. -/
namespace Go.Proofs.YtejaehmoplohdaaGreatDoor
open Go.RowKit Num

theorem nanS_any (l : List UInt8) (w : World) : Calls Tryz.prog 181 #[.string ⟨l.toArray⟩] w fun e w' => e = .returned (.bool false) ∧ w = w' := by
  go_enter Tryz.func181, Tryz.ntmps181
  go_wp2_with fail
  go_ret
  exact ⟨rfl, rfl⟩
theorem less_lt (a b : List UInt8) : Op.bytesLess a b = decide (a < b) := by
  induction a generalizing b with
  | nil => cases b <;> simp [Op.bytesLess]
  | cons x r ih =>
    cases b with
    | nil => simp [Op.bytesLess]
    | cons y t =>
      rw [Op.bytesLess, ih t, Bool.eq_iff_iff]
      simp [List.cons_lt_cons_iff]
theorem cmpS_any (a b : List UInt8) (w : World) : Calls Tryz.prog 158 #[.string ⟨a.toArray⟩, .string ⟨b.toArray⟩] w fun e w' => e = .returned (.int .i64 (cmpS a b)) ∧ w = w' := by
  have hc := Lib.hid (show cmpS a b = if a < b then -1 else if b < a then 1 else 0 from rfl)
  have hl := less_lt a b
  generalize cmpS a b = c at *
  by_cases h : a < b
  · have t1 : Op.bytesLess a b = true := by rw [hl]; exact decide_eq_true h
    have hv := Lib.hid (show c = -1 by rw [hc.out, if_pos h])
    clear h hl
    go_enter Tryz.func158, Tryz.ntmps158
    go_wp2_with (go_at_call 181; refine (nanS_any _ _).mono ?_; rintro e w' ⟨rfl, rfl⟩)
    go_ret
    exact ⟨by rw [hv.out]; rfl, rfl⟩
  · have t1 : Op.bytesLess a b = false := by rw [hl]; exact decide_eq_false h
    by_cases h2 : b < a
    · have t2 : (a == b) = false := beq_eq_false_iff_ne.2 (fun e => by subst e; exact List.lt_irrefl _ h2)
      have hv := Lib.hid (show c = 1 by rw [hc.out, if_neg h, if_pos h2])
      clear h h2 hl
      go_enter Tryz.func158, Tryz.ntmps158
      go_wp2_with (go_at_call 181; refine (nanS_any _ _).mono ?_; rintro e w' ⟨rfl, rfl⟩)
      go_ret
      exact ⟨by rw [hv.out]; rfl, rfl⟩
    · have he : a = b := lt_tri a b h h2
      subst he
      have hv := Lib.hid (show c = 0 by rw [hc.out, if_neg h, if_neg h2])
      clear h h2 hl
      go_enter Tryz.func158, Tryz.ntmps158
      go_wp2_with (go_at_call 181; refine (nanS_any _ _).mono ?_; rintro e w' ⟨rfl, rfl⟩)
      go_ret
      exact ⟨by rw [hv.out]; rfl, rfl⟩
/-- the first one that is not 0 -/
def orI : List Int → Int
  | [] => 0
  | x :: r => if x ≠ 0 then x else orI r
/-- the slice reads as the numbers -/
structure Ints (w : World) (A : Option Addr) (n c : Nat) (l : List Int) : Prop where
  len : l.length = n
  top : n ≤ 1000
  at_ : 0 < n → ∃ b o, A = some ⟨b, o, none⟩ ∧ ∀ k, k < n → w.cell? ⟨b, o + k, none⟩ = some (.int .i64 (l.getD k 0))
theorem orI_drop (l : List Int) (k : Nat) (h : k < l.length) : orI (l.drop k) = if l.getD k 0 ≠ 0 then l.getD k 0 else orI (l.drop (k + 1)) := by
  rw [List.drop_eq_getElem_cons h, orI, List.getD_eq_getElem?_getD, List.getElem?_eq_getElem h]; rfl
set_option maxRecDepth 100000 in
theorem Or_any (A : Option Addr) (n c : Nat) (l : List Int) (w : World) (h : Ints w A n c l) : Calls Tryz.prog 157 #[.slice A n c] w fun e w' => e = .returned (.int .i64 (orI l)) ∧ w = w' := by
  have hn := h.top
  have hlen := Lib.hid h.len
  have HA := Lib.hid h.at_
  clear h
  go_enter Tryz.func157, Tryz.ntmps157
  go_wp2_with fail
  go_loop [8] (fun i => ∃ k : Nat, k ≤ n ∧ i = .int .i64 (k : Int) ∧ Hid (orI (l.drop k) = orI l)) (fun i => n - (intOf i).toNat)
  case atStart => exact ⟨0, by omega, rfl, rfl⟩
  case round =>
    obtain ⟨k, hk, rfl, hor⟩ := hrel
    by_cases hlt : k < n
    · obtain ⟨b, o, rfl, hc⟩ := HA.out (by omega)
      have c1 := hc k hlt
      have hs := Lib.hid (orI_drop l k (by rw [hlen.out]; exact hlt))
      have hki : (k : Int) < (n : Int) := by omega
      clear hc
      generalize l.getD k 0 = x at *
      by_cases hx : x = 0
      · subst hx
        go_wp2_with fail
        go_round
        case rel => exact ⟨k + 1, by omega, by go_num, by show _ = _; rw [← hor.out, hs.out]; rfl⟩
        case measure => simp [intOf]; omega
      · have t1 : (x != 0) = true := by rw [bne_iff_ne]; exact hx
        have hv := Lib.hid (show orI l = x by rw [← hor.out, hs.out, if_pos hx])
        go_wp2_with fail
        go_ret
        exact ⟨by rw [hv.out]; rfl, rfl⟩
    · have hv := Lib.hid (show orI l = 0 by rw [← hor.out, List.drop_of_length_le (by rw [hlen.out]; omega)]; rfl)
      have hki : decide ((k : Int) < (n : Int)) = false := by rw [decide_eq_false_iff_not]; omega
      go_wp2_with fail
      go_ret
      exact ⟨by rw [hv.out]; rfl, rfl⟩
def keyV (k : Ky) : Array Value := #[.string ⟨k.1.toArray⟩, .string ⟨k.2.toArray⟩]
end Go.Proofs.YtejaehmoplohdaaGreatDoor

/- Contracts of key.compare, compareLines, slices.CompareFunc, entry.Compare. -/
namespace Go.Proofs.YtejaehmoplohdaaGreatDoor
open Go.RowKit Num

theorem ints2 (w : World) (x y : Int) : Ints (w.alloc (.cells #[.int .i64 x, .int .i64 y] 3)) (some ⟨w.heap.size, 0, none⟩) 2 2 [x, y] :=
  ⟨rfl, by omega, fun _ => ⟨w.heap.size, 0, rfl, fun k hk => by
    rw [Nat.zero_add, cell_of_row _ _ _ _ _ _ (heap_alloc_new w _)]
    rcases k with _ | _ | k
    · rfl
    · rfl
    · omega⟩⟩
theorem ints2d (w : World) (x y : Int) : Ints (w.alloc (.cells #[.int .i64 x, .int .i64 y] 3)).drew (some ⟨w.heap.size, 0, none⟩) 2 2 [x, y] := ⟨rfl, by omega, (ints2 w x y).at_⟩
theorem orI2 (x y : Int) : orI [x, y] = if x ≠ 0 then x else y := by
  rw [orI, orI]
  split
  · rfl
  · split
    · rfl
    · rename_i h; have : y = 0 := by simpa using h
      rw [this]; rfl
theorem icmp3 (a b : List UInt8) (w : World) (ha : a.length ≤ 100) (hb : b.length ≤ 100) : Calls Tryz.prog 25 #[.string ⟨a.toArray⟩, .string ⟨b.toArray⟩] w fun e w' => e = .returned (.int .i64 (cmpV a b)) ∧ Below w.heap.size w w' := Compare_any ⟨a.toArray⟩ ⟨b.toArray⟩ w (show a.length ≤ _ by omega) (show b.length ≤ _ by omega)
theorem below_next {w0 W Wc w' : World} (h : Below w0.heap.size w0 W) (hb : Below Wc.heap.size Wc w') (e : Wc.heap = W.heap ∧ Wc.os = W.os ∧ Wc.tape = W.tape ∧ Wc.output = W.output) : Below w0.heap.size w0 w' := by
  obtain ⟨e1, e2, e3, e4⟩ := e
  have hs := h.size
  have hs' := hb.size
  rw [e1] at hs'
  refine ⟨hb.os.trans (e2.trans h.os), hb.tape.trans (e3.trans h.tape), hb.output.trans (e4.trans h.output), Nat.le_trans hs hs', fun k hk => ?_⟩
  rw [hb.block k (by rw [e1]; omega), e1]
  exact h.block k hk
end Go.Proofs.YtejaehmoplohdaaGreatDoor

/- Slices of lines in memory; contracts of slices.CompareFunc and entry.Compare. -/
namespace Go.Proofs.YtejaehmoplohdaaGreatDoor
open Go.RowKit Num

def ln0 : Ln := ([], [], [])
/-- The slice value '.slice A n c' reads as the lines l in w. -/
structure Lns (w : World) (A : Option Addr) (n c : Nat) (l : List Ln) : Prop where
  len : l.length = n
  cap : n ≤ c
  top : c ≤ maxLen
  small : n ≤ 1000
  sml : ∀ x ∈ l, Sml x
  at_ : 0 < n → ∃ b o, A = some ⟨b, o, none⟩ ∧ b < w.heap.size ∧ ∀ k, k < n → w.cell? ⟨b, o + k * 3, none⟩ = some (.string ⟨(l.getD k ln0).1.toArray⟩) ∧ w.cell? ⟨b, o + k * 3 + 1, none⟩ = some (.string ⟨(l.getD k ln0).2.1.toArray⟩) ∧ w.cell? ⟨b, o + k * 3 + 2, none⟩ = some (.string ⟨(l.getD k ln0).2.2.toArray⟩)
theorem Lns.below {w w' : World} {A : Option Addr} {n c : Nat} {l : List Ln} (h : Lns w A n c l) (hb : Below w.heap.size w w') : Lns w' A n c l :=
  ⟨h.len, h.cap, h.top, h.small, h.sml, fun h0 => by
    obtain ⟨b, o, e, hlt, hc⟩ := h.at_ h0
    exact ⟨b, o, e, Nat.lt_of_lt_of_le hlt hb.size, fun k hk => by
      rw [hb.cell (by simpa using hlt), hb.cell (by simpa using hlt), hb.cell (by simpa using hlt)]; exact hc k hk⟩⟩
theorem lnAt_mem (l : List Ln) (k : Nat) (h : k < l.length) : l.getD k ln0 ∈ l := by
  rw [List.getD_eq_getElem?_getD, List.getElem?_eq_getElem h]
  exact List.getElem_mem h
theorem cmpLs_drop (l m : List Ln) (k : Nat) (h : k < l.length) (h2 : k < m.length) : cmpLs cmpL (l.drop k) (m.drop k) = if cmpL (l.getD k ln0) (m.getD k ln0) ≠ 0 then cmpL (l.getD k ln0) (m.getD k ln0) else cmpLs cmpL (l.drop (k + 1)) (m.drop (k + 1)) := by
  rw [List.drop_eq_getElem_cons h, List.drop_eq_getElem_cons h2, cmpLs, List.getD_eq_getElem?_getD, List.getD_eq_getElem?_getD, List.getElem?_eq_getElem h, List.getElem?_eq_getElem h2]; rfl
theorem ints3 (w : World) (x y z : Int) : Ints (w.alloc (.cells #[.int .i64 x, .int .i64 y, .int .i64 z] 3)) (some ⟨w.heap.size, 0, none⟩) 3 3 [x, y, z] :=
  ⟨rfl, by omega, fun _ => ⟨w.heap.size, 0, rfl, fun k hk => by
    rw [Nat.zero_add, cell_of_row _ _ _ _ _ _ (heap_alloc_new w _)]
    rcases k with _ | _ | _ | k
    · rfl
    · rfl
    · rfl
    · omega⟩⟩
theorem orI3 (x y z : Int) : orI [x, y, z] = if x ≠ 0 then x else if y ≠ 0 then y else z := by
  rw [orI, orI2]
/-- an entry's value -/
def enV (d : Int) (c : List UInt8) (A : Option Addr) (n cp : Nat) : Array Value := #[.int .i64 d, .string ⟨c.toArray⟩, .slice A n cp]
end Go.Proofs.YtejaehmoplohdaaGreatDoor

/- A map from strings (or from what is told as strings) to numbers' strings, of the call's own. -/
namespace Go.Proofs.YtejaehmoplohdaaGreatDoor
open Go.RowKit Go.Maps Num

/-- block b is a map of at most n entries: at each key kl it reads as f kl ('' where it has none); its keys are ks -/
def MapS (kt : TypeId) (w : World) (b n : Nat) (f : List UInt8 → List UInt8) (ks : List (List UInt8)) : Prop :=
  ∃ D : DataW Nat, w.ownsMap Tryz.prog kt (plainElem Tryz.prog 25) b n D ∧ IsMap D ∧ (∀ k, D.atKey (.string k) (.lit (.string [])) = .lit (.string (f k))) ∧ (∀ k, has D (.string k) = true ↔ k ∈ ks)
theorem MapS.made (kt : TypeId) (w : World) : MapS kt (w.alloc (.map #[] 0)) w.heap.size 0 (fun _ => []) [] :=
  ⟨.map [], World.ownsMap_made w Tryz.prog kt _, isMap_empty, fun _ => rfl, fun k => by simp [has]⟩
theorem MapS.kept {kt : TypeId} {w w' : World} {b n : Nat} {f : List UInt8 → List UInt8} {ks : List (List UInt8)} {row : Option Nat} (h : MapS kt w b n f ks) (hg : w.grownBy w' row) (hne : some b ≠ row) : MapS kt w' b n f ks := by
  obtain ⟨D, ho, hm, h1, h2⟩ := h
  exact ⟨D, ho.kept hg hne, hm, h1, h2⟩
theorem grown_of_below {w w' : World} (h : Below w.heap.size w w') : w.grownBy w' none := ⟨h.os, h.tape, h.output, h.size, fun k hk _ => h.block k hk⟩
theorem MapS.below {kt : TypeId} {w w' : World} {b n : Nat} {f : List UInt8 → List UInt8} {ks : List (List UInt8)} (h : MapS kt w b n f ks) (hb : Below w.heap.size w w') : MapS kt w' b n f ks := h.kept (grown_of_below hb) (by simp)
theorem MapS.dr {kt : TypeId} {w : World} {b n : Nat} {f : List UInt8 → List UInt8} {ks : List (List UInt8)} (h : MapS kt w b n f ks) (k : Nat) : MapS kt (w.drewN k) b n f ks := h
theorem MapS.lt {kt : TypeId} {w : World} {b n : Nat} {f : List UInt8 → List UInt8} {ks : List (List UInt8)} (h : MapS kt w b n f ks) : b < w.heap.size := by
  obtain ⟨D, ho, _⟩ := h
  exact ho.lt
set_option maxRecDepth 100000 in
theorem plain_str {v : Value} {l : List UInt8} {ps : List MemPlace} (h : plainElem (H := Nat) Tryz.prog 25 v = some (.lit (.string l), ps)) : v = .string ⟨l.toArray⟩ := by
  unfold plainElem at h
  rw [Tryz.underlying25] at h
  cases v with
  | string s =>
    simp only at h
    split at h
    · have h2 := Option.some.inj h
      rw [Prod.mk.injEq, DataW.lit.injEq, Lit.string.injEq] at h2
      rw [← h2.1]
    · cases h
  | _ => simp at h
theorem zero40 (w : World) : (zeroValue 25).run Tryz.prog w = .ok (.string ⟨#[]⟩) w := by kernel_rfl
/-- m[k] -/
theorem MapS.look {kt T : TypeId} {w : World} {b n : Nat} {f : List UInt8 → List UInt8} {ks : List (List UInt8)} (h : MapS kt w b n f ks) (K : Keyed Tryz.prog kt) (ht : Tryz.prog.underlying T = some (.map kt 25)) {kv : Value} {kl : List UInt8} (hk : keyOf Tryz.prog kt kv = some (.string kl)) :
    (Instr.lookup T (.map (some b)) kv false).run Tryz.prog w = .ok (.string ⟨(f kl).toArray⟩) w := by
  obtain ⟨D, ho, _, h1, _⟩ := h
  obtain ⟨v, ps, hrun, hv⟩ := ho.lookup K ht (zero40 w) (zd := .lit (.string [])) (zp := []) (plainElem_string Tryz.underlying25 (by decide)) hk
  rw [h1 kl] at hv
  rw [hrun, plain_str hv]
/-- m[k] = v -/
theorem MapS.put {kt T : TypeId} {w : World} {b n : Nat} {f : List UInt8 → List UInt8} {ks : List (List UInt8)} (h : MapS kt w b n f ks) (K : Keyed Tryz.prog kt) (ht : Tryz.prog.underlying T = some (.map kt 25)) (hn : n < 100000) {kv : Value} {kl v : List UInt8} (hk : keyOf Tryz.prog kt kv = some (.string kl)) (hv : v.length ≤ 100000) :
    ∃ w', (Instr.mapUpdate T (.map (some b)) kv (.string ⟨v.toArray⟩)).run Tryz.prog w = .ok () w' ∧ MapS kt w' b (n + 1) (fun k => if k = kl then v else f k) (kl :: ks) ∧ w.grownBy w' (some b) := by
  obtain ⟨D, ho, hm, h1, h2⟩ := h
  obtain ⟨w', hrun, ho', hg⟩ := ho.update K ht (by unfold maxLen; omega) hk (plainElem_string (s := ⟨v.toArray⟩) Tryz.underlying25 (by unfold maxLen; show v.length ≤ _; omega))
  refine ⟨w', hrun, ⟨_, ho', hm.put _ _, fun k => ?_, fun k => ?_⟩, hg⟩
  · show _ = DataW.lit (Lit.string (if k = kl then v else f k))
    by_cases e : k = kl
    · subst e
      rw [atKey_put_same hm (show WideAt.IsKeyLit (.string k) from trivial), if_pos rfl]
    · rw [atKey_put_other (fun e' => e (by cases e'; rfl)), if_neg e, h1]
  · by_cases e : k = kl
    · subst e
      rw [has_put_same hm (show WideAt.IsKeyLit (.string k) from trivial)]; simp
    · rw [has_put_other (fun e' => e (by cases e'; rfl)), h2, List.mem_cons]
      exact ⟨.inr, fun h => h.resolve_left e⟩
theorem keyed9 : Keyed Tryz.prog 9 := string_keyed Tryz.underlying9
theorem key9 (l : List UInt8) (h : l.length ≤ 100000) : keyOf Tryz.prog 9 (.string ⟨l.toArray⟩) = some (.string l) := by
  have : (⟨l.toArray⟩ : ByteArray).size ≤ maxLen := by unfold maxLen; show l.length ≤ _; omega
  simp [keyOf, Tryz.underlying9, mapKey, this]
set_option maxRecDepth 100000 in
theorem plain_str_inv {v : Value} {z : DataW Nat × List MemPlace} (h : plainElem Tryz.prog 25 v = some z) : ∃ s : ByteArray, v = .string s ∧ z = (.lit (.string s.data.toList), []) ∧ s.size ≤ maxLen := by
  unfold plainElem at h
  rw [Tryz.underlying25] at h
  cases v <;> simp at h
  exact ⟨_, rfl, h.2.symm, h.1⟩
set_option maxRecDepth 100000 in
theorem key9_inv {v : Value} {kl : Lit} (h : keyOf Tryz.prog 9 v = some kl) : ∃ s : ByteArray, v = .string s ∧ kl = .string s.data.toList := by
  unfold keyOf at h
  rw [Tryz.underlying9] at h
  cases v <;> simp [mapKey] at h
  exact ⟨_, rfl, h.2.symm⟩
/-- next over an own map of strings to numbers' strings -/
theorem next_ss (w : World) {ops : Array Oper} {rest : List Oper} {o : Oper} {a : Act} {Q : Exit → Act → World → Prop}
    (hg : o.guard = none) (it : Operand) (hop : o.op = Op.next it false)
    (b r n : Nat) (D : DataW Nat) (left : Lit → Bool) (cnt : Nat) (hit : a.eval it = .pointer (some ⟨r, 0, none⟩)) (h : w.ranges Tryz.prog 9 (plainElem Tryz.prog 25) b r n D left cnt)
    (hDone : cnt = 0 → (∀ kl, left kl = false) → wpList Tryz.prog ops Q rest (a.put o.dst (.tuple #[.bool false])) w)
    (hMore : ∀ (x c : ByteArray) (w' : World) (cnt' : Nat), left (.string x.data.toList) = true → (∀ zd, D.atKey (.string x.data.toList) zd = .lit (.string c.data.toList)) → w'.ranges Tryz.prog 9 (plainElem Tryz.prog 25) b r n D (fun z => left z && !z.sameKey (.string x.data.toList)) cnt' → cnt' < cnt →
      w.grownBy w' (some r) → w'.heap.size = w.heap.size → (Instr.entry (.pointer (some ⟨r, 0, none⟩))).run Tryz.prog w' = .ok (.tuple #[.string x, .string c]) w' → wpList Tryz.prog ops Q rest (a.put o.dst (.tuple #[.bool true, .string x, .string c])) w') :
    wpList Tryz.prog ops Q (o :: rest) a w :=
  wpList_next_ranges w hg it hop 9 keyed9 (plainElem Tryz.prog 25) Value.string Value.string (fun key kl hkey => by obtain ⟨x, rfl, _⟩ := key9_inv hkey; exact ⟨x, rfl⟩) (fun v y hv => by obtain ⟨c, rfl, _⟩ := plain_str_inv hv; exact ⟨c, rfl⟩)
    b r n D left cnt hit h hDone (fun x c kl y w' cnt' hkey hlk hv hat hrg hlt hgr hsz hen => by
      obtain ⟨x', ex, rfl⟩ := key9_inv hkey
      cases ex
      obtain ⟨c', ec, rfl, hwc⟩ := plain_str_inv hv
      cases ec
      exact hMore x c w' cnt' hlk hat hrg hlt hgr hsz hen)
end Go.Proofs.YtejaehmoplohdaaGreatDoor

/- Contract of entry.balances. -/
namespace Go.Proofs.YtejaehmoplohdaaGreatDoor
open Go.RowKit Go.Maps Num

theorem val_bd (a : List UInt8) : (val a).natAbs < 10 ^ a.length := by
  have h1 := digV_lt (dgs a) (dgs_all a)
  have h2 : 10 ^ (dgs a).length ≤ 10 ^ a.length := Nat.pow_le_pow_right (by omega) (dgs_len a)
  unfold val; split <;> omega
theorem txt_bd {v : Int} {k : Nat} (h : v.natAbs < 10 ^ k) : (txt v).length ≤ k + 1 := by
  unfold txt; split
  · have := dig_len h; simp; omega
  · have := dig_len h; omega
def big : Nat := 10 ^ 100
theorem sml_bd {x : Ln} (h : Sml x) : (val x.2.2).natAbs < big :=
  Nat.lt_of_lt_of_le (val_bd _) (Nat.pow_le_pow_right (by omega) h.2.2)
theorem curT_bd (l : List Ln) (h : ∀ x ∈ l, Sml x) (c : List UInt8) : (curT l c).natAbs ≤ l.length * big := by
  induction l with
  | nil => simp [curT]
  | cons x r ih =>
    have h1 := sml_bd (h x (by simp))
    have h2 := ih fun y hy => h y (List.mem_cons_of_mem _ hy)
    rw [curT_cons, List.length_cons, Nat.add_mul]
    split <;> omega
theorem tot_bd (l : List Ln) (h : ∀ x ∈ l, Sml x) (k : Ky) : (tot l k).natAbs ≤ l.length * big := by
  induction l with
  | nil => simp [tot]
  | cons x r ih =>
    have h1 := sml_bd (h x (by simp))
    have h2 := ih fun y hy => h y (List.mem_cons_of_mem _ hy)
    rw [tot_cons, List.length_cons, Nat.add_mul]
    split <;> omega
theorem bd_txt {v : Int} {n : Nat} (h : v.natAbs ≤ n * big) (hn : n ≤ 1000) : (txt v).length ≤ 110 := by
  have h1 : n * big ≤ 1000 * big := Nat.mul_le_mul_right _ hn
  have h2 : 1000 * big < 10 ^ 109 := by decide
  have := txt_bd (k := 109) (show v.natAbs < 10 ^ 109 by omega)
  omega
theorem take_sml {l : List Ln} (h : ∀ x ∈ l, Sml x) (k : Nat) : ∀ x ∈ l.take k, Sml x := fun x hx => h x (List.mem_of_mem_take hx)
theorem take_ln (l : List Ln) (k : Nat) (h : k < l.length) : l.take (k + 1) = l.take k ++ [l.getD k ln0] := by
  rw [List.take_succ_eq_append_getElem h, List.getD_eq_getElem?_getD, List.getElem?_eq_getElem h]; rfl
theorem Add_l (a b : List UInt8) (w : World) (ha : a.length ≤ 120) (hb : b.length ≤ 120) (ht : Tab w) :
    Calls Tryz.prog 27 #[.string ⟨a.toArray⟩, .string ⟨b.toArray⟩] w (StrPost (txt (val a + val b)) w) := Add_any ⟨a.toArray⟩ ⟨b.toArray⟩ w ha hb ht
theorem below_grown {B r : Nat} {w W U : World} (h : Below B w W) (hB : B ≤ w.heap.size) (hg : W.grownBy U (some r)) (hr : B ≤ r) : Below B w U := by
  have hs := h.size
  refine ⟨hg.os.trans h.os, hg.tape.trans h.tape, hg.output.trans h.output, Nat.le_trans hs hg.size, fun k hk => ?_⟩
  rw [hg.block k (by omega) (fun e => by have := Option.some.inj e; omega), h.block k hk]
/-- the map of the sums by currency, after k lines -/
def BalR (w : World) (l : List Ln) (k : Nat) (W : World) : Prop := (∃ ks, MapS 9 W w.heap.size k (fun c => txt (curT (l.take k) c)) ks ∧ ∀ c, c ∈ ks ↔ ∃ x ∈ l.take k, x.2.1 = c) ∧ Below w.heap.size w W
theorem balR_zero (l : List Ln) (w : World) : BalR w l 0 (w.alloc (.map #[] 0)) := by
  have h := MapS.made 9 w
  have e : (fun _ => []) = fun c => txt (curT (l.take 0) c) := funext fun c => by
    rw [List.take_zero]; exact txt_zero.symm
  rw [e] at h
  exact ⟨⟨[], h, fun c => by simp⟩, (Below.refl _ _).alloc (Nat.le_refl _) _⟩
theorem balR_step {l : List Ln} {k : Nat} {w U : World} {a cu m : List UInt8} {ks : List (List UInt8)} (htk : l.take (k + 1) = l.take k ++ [(a, cu, m)])
    (hm : MapS 9 U w.heap.size (k + 1) (fun k' => if k' = cu then txt (val (txt (curT (l.take k) cu)) + val m) else txt (curT (l.take k) k')) (cu :: ks))
    (hks : ∀ c, c ∈ ks ↔ ∃ x ∈ l.take k, x.2.1 = c) (hb : Below w.heap.size w U) : BalR w l (k + 1) U := by
  refine ⟨⟨cu :: ks, ?_, fun c => ?_⟩, hb⟩
  · have e : (fun k' => if k' = cu then txt (val (txt (curT (l.take k) cu)) + val m) else txt (curT (l.take k) k')) = fun c => txt (curT (l.take (k + 1)) c) := funext fun c => by
      rw [htk, curT_snoc, val_txt]
      by_cases h : c = cu
      · subst h; simp
      · have h' : ¬ cu = c := fun e => h e.symm
        simp [h, h']
    rwa [e] at hm
  · rw [List.mem_cons, hks, htk]
    constructor
    · rintro (rfl | ⟨x, hx, rfl⟩)
      · exact ⟨_, List.mem_append_right _ (List.mem_singleton.2 rfl), rfl⟩
      · exact ⟨x, List.mem_append_left _ hx, rfl⟩
    · rintro ⟨x, hx, rfl⟩
      rcases List.mem_append.1 hx with h | h
      · exact .inr ⟨x, h, rfl⟩
      · rw [List.mem_singleton.1 h]; exact .inl rfl
theorem txt_nil_iff (v : Int) : txt v = [] ↔ v = 0 := ⟨fun h => by have e := val_txt v; rw [h] at e; exact e.symm, fun h => by subst h; exact txt_zero⟩
theorem balB_true {l : List Ln} (h : ∀ x ∈ l, txt (curT l x.2.1) = []) : balB l = true := by
  unfold balB
  rw [List.all_eq_true]
  exact fun x hx => decide_eq_true ((txt_nil_iff _).1 (h x hx))
theorem balB_false {l : List Ln} {x : Ln} (hx : x ∈ l) (h : txt (curT l x.2.1) ≠ []) : balB l = false := by
  cases e : balB l with
  | false => rfl
  | true =>
    unfold balB at e
    rw [List.all_eq_true] at e
    exact absurd ((txt_nil_iff _).2 (of_decide_eq_true (e x hx))) h
end Go.Proofs.YtejaehmoplohdaaGreatDoor

/- Contracts of integer.Of and entry.Amount. -/
namespace Go.Proofs.YtejaehmoplohdaaGreatDoor
open Go.RowKit Go.Maps Num

theorem dec_dig (n : Nat) (h : n ≠ 0) : Lib.decDigits n = dig n := by
  induction n using Nat.strongRecOn with
  | _ n ih =>
    rw [Lib.decDigits, dig_pos h]
    split
    · rename_i h1
      have e : n / 10 = 0 := by omega
      have e2 : n % 10 = n := by omega
      rw [e, dig_zero, e2]; rfl
    · rw [ih (n / 10) (by omega) (by omega)]
theorem itoa_zero : Lib.itoa 0 = [48] := by
  unfold Lib.itoa; rw [if_neg (by omega), show (0 : Int).toNat = 0 from rfl, Lib.decDigits, dif_pos (by omega)]; rfl
theorem itoa_txt (n : Int) (h : n ≠ 0) : Lib.itoa n = txt n := by
  unfold Lib.itoa txt
  by_cases hn : n < 0
  · rw [if_pos hn, if_pos hn, dec_dig _ (by omega)]
  · rw [if_neg hn, if_neg hn, dec_dig _ (by omega), show n.toNat = n.natAbs by omega]
theorem val_itoa (n : Int) : val (Lib.itoa n) = n := by
  by_cases h0 : n = 0
  · subst h0; rw [itoa_zero]; rfl
  · rw [itoa_txt n h0, val_txt]
theorem itoa_len (n : Int) (h0 : -9223372036854775808 ≤ n) (h1 : n ≤ 9223372036854775807) : (Lib.itoa n).length ≤ 1000 := by
  by_cases h : n = 0
  · subst h; rw [itoa_zero]; decide
  · rw [itoa_txt n h]
    have := txt_bd (v := n) (k := 20) (by omega)
    omega
end Go.Proofs.YtejaehmoplohdaaGreatDoor

/- Contract of entry.Amount. -/
namespace Go.Proofs.YtejaehmoplohdaaGreatDoor
open Go.RowKit Go.Maps Num

def AmtR (w : World) (l : List Ln) (ky : Ky) (k : Nat) (W : World) (v : Value) : Prop := v = .string ⟨(txt (tot (l.take k) ky)).toArray⟩ ∧ Below w.heap.size w W
end Go.Proofs.YtejaehmoplohdaaGreatDoor

/- Contract of entry.Check. -/
namespace Go.Proofs.YtejaehmoplohdaaGreatDoor
open Go.RowKit Go.Maps Num

/-- not in order behind p -/
def ordB (p : Option Ky) (q : Ky) : Bool := match p with | none => false | some p => decide (0 ≤ cmpKy p q)
/-- what is wrong with lines: their fields, an amount of 0, their order; p: the place of the line ahead -/
def chkLs : Option Ky → List Ln → Int
  | _, [] => 0
  | p, x :: r => if lineI x ≠ 0 then lineI x else if x.2.2 = [] then 2 else if ordB p (key x) then 8 else chkLs (some (key x)) r
theorem chkLs_cons (p : Option Ky) (x : Ln) (r : List Ln) : chkLs p (x :: r) = if lineI x ≠ 0 then lineI x else if x.2.2 = [] then 2 else if ordB p (key x) then 8 else chkLs (some (key x)) r := rfl
/-- what is wrong with an entry -/
def chkE (d : Int) (c : List UInt8) (l : List Ln) : Int :=
  if headI d c ≠ 0 then headI d c else if l.length = 0 then 11 else if 64 < l.length then 4 else if chkLs none l ≠ 0 then chkLs none l else if balB l then 0 else 14
def prevAt (l : List Ln) : Nat → Option Ky
  | 0 => none
  | k + 1 => some (key (l.getD k ln0))
theorem drop_ln (l : List Ln) (k : Nat) (h : k < l.length) : l.drop k = l.getD k ln0 :: l.drop (k + 1) := by
  rw [List.drop_eq_getElem_cons h, List.getD_eq_getElem?_getD, List.getElem?_eq_getElem h]; rfl
def ChkR (w : World) (l : List Ln) (k : Nat) (W : World) : Prop := chkLs none l = chkLs (prevAt l k) (l.drop k) ∧ Below w.heap.size w W
end Go.Proofs.YtejaehmoplohdaaGreatDoor

/- Slices of lines of the call's own. -/
namespace Go.Proofs.YtejaehmoplohdaaGreatDoor
open Go.RowKit Go.Maps Num

def LV (x : Ln) : List Value := [.string ⟨x.1.toArray⟩, .string ⟨x.2.1.toArray⟩, .string ⟨x.2.2.toArray⟩]
def LVs (l : List Ln) : List Value := l.flatMap LV
theorem LVs_cons (x : Ln) (l : List Ln) : LVs (x :: l) = LV x ++ LVs l := rfl
theorem LVs_append (a b : List Ln) : LVs (a ++ b) = LVs a ++ LVs b := List.flatMap_append
theorem LVs_len (l : List Ln) : (LVs l).length = l.length * 3 := by
  induction l with
  | nil => rfl
  | cons x r ih => rw [LVs_cons, List.length_append, ih, List.length_cons]; simp [LV]; omega
theorem LVs_at (l : List Ln) (k j : Nat) (hk : k < l.length) (hj : j < 3) : (LVs l)[k * 3 + j]? = (LV (l.getD k ln0))[j]? := by
  induction l generalizing k with
  | nil => cases hk
  | cons x r ih =>
    rw [LVs_cons]
    cases k with
    | zero => rw [List.getElem?_append_left (by simp [LV]; omega)]; simp
    | succ k =>
      rw [List.getElem?_append_right (by simp [LV]; omega), show (k + 1) * 3 + j - (LV x).length = k * 3 + j by simp [LV]; omega, ih k (by simpa using hk)]
      simp
theorem LVs_one (l : List Ln) : ∀ u ∈ LVs l, u.oneCell' = true := by
  intro u hu
  obtain ⟨x, _, hx⟩ := List.mem_flatMap.1 hu
  simp only [LV, List.mem_cons, List.not_mem_nil, or_false] at hx
  rcases hx with rfl | rfl | rfl <;> rfl
theorem grown_setCell (w : World) (a : Addr) (u : Value) : w.grownBy (w.setCell a u) (some a.block) :=
  ⟨rfl, rfl, rfl, by simp, fun k _ hk => Below.heap_setCell w a u k (fun e => hk (by rw [e]))⟩
end Go.Proofs.YtejaehmoplohdaaGreatDoor

/- Contract of entry.Reverse. -/
namespace Go.Proofs.YtejaehmoplohdaaGreatDoor
open Go.RowKit Go.Maps Num

def negL (x : Ln) : Ln := (x.1, x.2.1, txt (- val x.2.2))
theorem negL_sml {x : Ln} (h : Sml x) (hl : x.2.2.length ≤ 60) : Sml (negL x) := by
  refine ⟨h.1, h.2.1, ?_⟩
  have h1 := val_bd x.2.2
  have h2 : 10 ^ x.2.2.length ≤ 10 ^ 60 := Nat.pow_le_pow_right (by omega) hl
  have := txt_bd (v := - val x.2.2) (k := 60) (by omega)
  show (txt _).length ≤ 100
  omega
def RevPost (d : Int) (cz : List UInt8) (l : List Ln) (w : World) (e : Ending) (w' : World) : Prop :=
  Below w.heap.size w w' ∧ if chkE d cz l = 0 then ∃ A c, e = .returned (.tuple #[.agg (enV d cz A l.length c), .int .i64 0]) ∧ Lns w' A l.length c (l.map negL)
  else e = .returned (.tuple #[.agg (enV 0 [] none 0 0), .int .i64 1])
theorem cells3 {W : World} {b : Nat} {x y z : Value} {t : TypeId} (h : W.heap[b]? = some (.cells #[x, y, z] t)) : (W.cell? ⟨b, 0, none⟩ = some x ∧ W.cell? ⟨b, 1, none⟩ = some y ∧ W.cell? ⟨b, 2, none⟩ = some z) ∧ (W.frozen? ⟨b, 0, none⟩ = false ∧ W.frozen? ⟨b, 1, none⟩ = false ∧ W.frozen? ⟨b, 2, none⟩ = false) :=
  ⟨⟨cell_of_row _ _ _ _ _ _ h, cell_of_row _ _ _ _ _ _ h, cell_of_row _ _ _ _ _ _ h⟩, frozen_of_row _ _ _ _ _ h, frozen_of_row _ _ _ _ _ h, frozen_of_row _ _ _ _ _ h⟩
theorem set2 {W : World} {b : Nat} {x y z : Value} {t : TypeId} (h : W.heap[b]? = some (.cells #[x, y, z] t)) (u : Value) : (W.setCell ⟨b, 2, none⟩ u).heap[b]? = some (.cells #[x, y, u] t) := by
  unfold World.setCell
  simp [Array.getElem?_modify, h]
theorem set3 {W : World} {b : Nat} {x y z : Value} {t : TypeId} (h : W.heap[b]? = some (.cells #[x, y, z] t)) (p q u : Value) : (((W.setCell ⟨b, 0, none⟩ p).setCell ⟨b, 1, none⟩ q).setCell ⟨b, 2, none⟩ u).heap[b]? = some (.cells #[p, q, u] t) := by
  unfold World.setCell
  simp [Array.getElem?_modify, h]
theorem below_own {B : Nat} {w W U : World} {row : Option Nat} (h : Below B w W) (hB : B ≤ w.heap.size) (hg : W.grownBy U row) (hr : ∀ k, row = some k → B ≤ k) : Below B w U := by
  have hs := h.size
  refine ⟨hg.os.trans h.os, hg.tape.trans h.tape, hg.output.trans h.output, Nat.le_trans hs hg.size, fun k hk => ?_⟩
  rw [hg.block k (by omega) (fun e => by have := hr k e.symm; omega), h.block k hk]
theorem below_set3 {w W : World} (h : Below w.heap.size w W) {b : Nat} (hb : w.heap.size ≤ b) (p q u : Value) : Below w.heap.size w (((W.setCell ⟨b, 0, none⟩ p).setCell ⟨b, 1, none⟩ q).setCell ⟨b, 2, none⟩ u) :=
  below_grown (below_grown (below_grown h (Nat.le_refl _) (grown_setCell _ _ _) hb) (Nat.le_refl _) (grown_setCell _ _ _) hb) (Nat.le_refl _) (grown_setCell _ _ _) hb
end Go.Proofs.YtejaehmoplohdaaGreatDoor

/- Slices of the call's own, and slices that are read, whatever their elements. -/
namespace Go.Proofs.YtejaehmoplohdaaGreatDoor
open Go.RowKit Go.Maps Num

theorem grown_tr {w w1 w2 : World} {row : Option Nat} (h : w.grownBy w1 row) (h2 : w1.grownBy w2 row) : w.grownBy w2 row :=
  ⟨h2.os.trans h.os, h2.tape.trans h.tape, h2.output.trans h.output, Nat.le_trans h.size h2.size, fun k hk hr => (h2.block k (Nat.lt_of_lt_of_le hk h.size) hr).trans (h.block k hk hr)⟩
theorem grown_refl (w : World) (row : Option Nat) : w.grownBy w row := ⟨rfl, rfl, rfl, Nat.le_refl _, fun _ _ _ => rfl⟩
theorem grown_below {w w1 w2 : World} {row : Option Nat} (h : w.grownBy w1 row) (hb : Below w1.heap.size w1 w2) : w.grownBy w2 row :=
  grown_tr h ⟨hb.os, hb.tape, hb.output, hb.size, fun k hk _ => hb.block k hk⟩
/-- how elements lie in a slice: the slice's type, the element's, its zero value, its cells, its bytes -/
structure Row (α : Type) where
  S : TypeId
  E : TypeId
  z : Value
  k : Nat
  by_ : Nat
  enc : α → List Value
structure Row.Ok {α : Type} (R : Row α) : Prop where
  hS : Tryz.prog.underlying R.S = some (.slice R.E)
  info : (Tryz.prog.info? R.E).map (fun i => (i.zero, i.size, i.bytes)) = some (some R.z, R.k, R.by_)
  zc : R.z.cells.size = R.k
  k0 : 0 < R.k
  b1 : R.by_ ≤ 64
  hk : ∀ x, (R.enc x).length = R.k
  h1 : ∀ x, ∀ v ∈ R.enc x, v.oneCell' = true
namespace Row
variable {α : Type} {R : Row α}
def vs (R : Row α) (l : List α) : List Value := l.flatMap R.enc
theorem vs_nil : R.vs [] = [] := rfl
theorem vs_cons (x : α) (l : List α) : R.vs (x :: l) = R.enc x ++ R.vs l := rfl
theorem vs_append (a b : List α) : R.vs (a ++ b) = R.vs a ++ R.vs b := List.flatMap_append
theorem vs_len (ok : R.Ok) (l : List α) : (R.vs l).length = l.length * R.k := by
  induction l with
  | nil => simp [vs]
  | cons x r ih => rw [vs_cons, List.length_append, ih, ok.hk, List.length_cons, Nat.add_mul]; omega
theorem vs_at (ok : R.Ok) (x0 : α) (l : List α) (i j : Nat) (hi : i < l.length) (hj : j < R.k) : (R.vs l)[i * R.k + j]? = (R.enc (l.getD i x0))[j]? := by
  induction l generalizing i with
  | nil => cases hi
  | cons x r ih =>
    rw [vs_cons]
    cases i with
    | zero => rw [List.getElem?_append_left (by rw [ok.hk]; omega)]; simp
    | succ i =>
      rw [List.getElem?_append_right (by rw [ok.hk, Nat.add_mul]; omega), ok.hk, show (i + 1) * R.k + j - R.k = i * R.k + j by rw [Nat.add_mul]; omega, ih i (by simpa using hi)]
      simp
theorem vs_one (ok : R.Ok) (l : List α) : ∀ u ∈ R.vs l, u.oneCell' = true := by
  intro u hu
  obtain ⟨x, _, hx⟩ := List.mem_flatMap.1 hu
  exact ok.h1 x u hx
/-- the slice '.slice A n c' reads as l -/
structure Rds (R : Row α) (w : World) (A : Option Addr) (n c : Nat) (l : List α) : Prop where
  len : l.length = n
  cap : n ≤ c
  top : c ≤ maxLen
  at_ : 0 < n → ∃ b o, A = some ⟨b, o, none⟩ ∧ b < w.heap.size ∧ ∀ (j : Nat) (u : Value), (R.vs l)[j]? = some u → w.cell? ⟨b, o + j, none⟩ = some u
theorem Rds.below {w w' : World} {A : Option Addr} {n c : Nat} {l : List α} (h : R.Rds w A n c l) (hb : Below w.heap.size w w') : R.Rds w' A n c l :=
  ⟨h.len, h.cap, h.top, fun h0 => by
    obtain ⟨b, o, e, hlt, hc⟩ := h.at_ h0
    exact ⟨b, o, e, Nat.lt_of_lt_of_le hlt hb.size, fun j u hu => (hb.cell (p := ⟨b, o + j, none⟩) hlt).trans (hc j u hu)⟩⟩
/-- a slice of the call's own, from block B on -/
def Own (R : Row α) (B : Nat) (w : World) (v : Value) (l : List α) : Prop := w.ownsRow B R.E R.k v l.length (R.vs l)
namespace Own
variable {B : Nat} {w w' : World} {v : Value} {l : List α}
theorem nil (B : Nat) (w : World) : R.Own B w (.slice none 0 0) [] := World.ownsRow_nil w B R.E R.k
theorem slice (h : R.Own B w v l) : ∃ A c, v = .slice A l.length c := by
  rcases h.2 with ⟨rfl, h0⟩ | ⟨g, cap, cur, rfl, _⟩
  · exact ⟨_, _, by rw [h0]⟩
  · exact ⟨_, _, rfl⟩
theorem rds (h : R.Own B w v l) : ∃ A c, v = .slice A l.length c ∧ R.Rds w A l.length c l := by
  rcases h.2 with ⟨rfl, h0⟩ | ⟨g, cap, cur, rfl, _, hg, hc, hm, hsz, htake⟩
  · exact ⟨none, 0, by rw [h0], rfl, by omega, by omega, fun hh => by omega⟩
  · refine ⟨_, _, rfl, rfl, hc, hm, fun _ => ⟨g, 0, rfl, ?_, fun j u hu => ?_⟩⟩
    · rcases Nat.lt_or_ge g w.heap.size with h' | h'
      · exact h'
      · rw [Array.getElem?_eq_none h'] at hg; cases hg
    · have hj := (List.getElem?_eq_some_iff.1 hu).1
      rw [← htake, List.getElem?_take] at hu
      split at hu
      · rw [Nat.zero_add, cell_of_row _ _ _ _ _ _ hg, ← hu, Array.getElem?_toList]
      · cases hu
theorem kept {row : Option Nat} (h : R.Own B w v l) (hg : w.grownBy w' row) (hr : ∀ k, row = some k → k < B) : R.Own B w' v l :=
  World.ownsRow.kept h hg (by
    cases hv : v.ownBlock with
    | none => exact .inl rfl
    | some g =>
      refine .inr fun e => ?_
      have := hr g e.symm
      have := (World.ownsRow.lt h g hv).1
      omega)
theorem kept' {row : Option Nat} (h : R.Own B w v l) (hg : w.grownBy w' row) (hr : v.ownBlock = none ∨ v.ownBlock ≠ row) : R.Own B w' v l := World.ownsRow.kept h hg hr
theorem below (h : R.Own B w v l) (hb : Below w.heap.size w w') : R.Own B w' v l := h.kept (row := none) (grown_of_below hb) (fun _ e => by cases e)
theorem own (h : R.Own B w v l) : ∀ k, v.ownBlock = some k → B ≤ k ∧ k < w.heap.size := fun k hk => World.ownsRow.lt h k hk
theorem mono {B' : Nat} (h : R.Own B w v l) (hb : B' ≤ B) : R.Own B' w v l := by
  rcases h.2 with ⟨rfl, h0⟩ | ⟨g, cap, cur, rfl, hB, hr⟩
  · exact ⟨h.1, .inl ⟨rfl, h0⟩⟩
  · exact ⟨h.1, .inr ⟨g, cap, cur, rfl, Nat.le_trans hb hB, hr⟩⟩
theorem alloc (h : R.Own B w v l) (o : Obj) : R.Own B (w.alloc o) v l := World.ownsRow.alloc h o
theorem dr (h : R.Own B w v l) (k : Nat) : R.Own B (w.drewN k) v l := h
/-- what was set up anew from the heap's size on, and kept, is the call's own of any lower block -/
theorem pos (h : R.Own B w v l) (hne : 0 < l.length) : ∃ g cap, v = .slice (some ⟨g, 0, none⟩) l.length cap ∧ B ≤ g ∧ g < w.heap.size ∧ l.length ≤ cap ∧ cap ≤ maxLen ∧ ∀ j, j < cap * R.k → (w.cell? ⟨g, j, none⟩).isSome = true ∧ w.frozen? ⟨g, j, none⟩ = false := by
  rcases h.2 with ⟨_, h0⟩ | ⟨g, cap, cur, hv, hB, hg, hc, hm, hsz, htake⟩
  · omega
  · refine ⟨g, cap, hv, hB, ?_, hc, hm, fun j hj => ⟨?_, frozen_of_row _ _ _ _ _ hg⟩⟩
    · rcases Nat.lt_or_ge g w.heap.size with h' | h'
      · exact h'
      · rw [Array.getElem?_eq_none h'] at hg; cases hg
    · rw [cell_of_row _ _ _ _ _ _ hg, Array.getElem?_eq_getElem (by omega)]; rfl
end Own
theorem run_append_none (ok : R.Ok) (w : World) (B : Nat) (ty : TypeId) (v : Value) (n : Nat) (xs : List Value) (hown : w.ownsRow B R.E R.k v n xs) (c : Nat) : (Builtin.append_ #[R.S, R.S] ty #[v, .slice none 0 c]).run Tryz.prog w = .ok v w := by
  obtain ⟨i0, hi, hz0, hz1, hz2⟩ := info_parts ok.info
  rcases hown.2 with ⟨rfl, rfl⟩ | ⟨g, cap, cur, rfl, _, _, hnc, _⟩
  · simp [Builtin.append_, run_underlying ok.hS, sizeOf, typeInfo, hi, Builtin.lenOf, Builtin.firstCells]
  · simp [Builtin.append_, run_underlying ok.hS, sizeOf, typeInfo, hi, Builtin.lenOf, Builtin.firstCells, hnc, storeCells]
/-- append(s, t...) -/
theorem run_append (ok : R.Ok) (B : Nat) (ty : TypeId) (v : Value) (ns : List α) (w : World) (A : Option Addr) (m c : Nat) (zs : List α) (hown : R.Own B w v ns) (hz : R.Rds w A m c zs) (hB : B ≤ w.heap.size) (hn : ns.length + m ≤ 1000000) :
    ∃ v' w', (Builtin.append_ #[R.S, R.S] ty #[v, .slice A m c]).run Tryz.prog w = .ok v' w' ∧ R.Own B w' v' (ns ++ zs) ∧ w.grownBy w' v.ownBlock ∧ (v'.ownBlock = v.ownBlock ∨ v'.ownBlock = some w.heap.size) := by
  obtain ⟨i0, hi, hz0, hz1, hz2⟩ := info_parts ok.info
  by_cases hA : ∃ ad, A = some ad
  · obtain ⟨ad, rfl⟩ := hA
    have hb := ok.b1
    obtain ⟨v', w', hr, h2, h3, _, h5⟩ := run_append_own_at (P := Tryz.prog) w B R.S ty R.E i0 _ R.k R.by_ ok.hS hi hz0 hz1 hz2 ok.zc ok.k0 v ns.length (R.vs ns) hown ad m c (R.vs zs) (by rw [vs_len ok, hz.len]) (fun j u hu => by
        have hj := (List.getElem?_eq_some_iff.1 hu).1
        rw [vs_len ok, hz.len] at hj
        obtain ⟨b, off, e, _, hc⟩ := hz.at_ (by
          rcases Nat.eq_zero_or_pos m with h0 | h0
          · rw [h0] at hj; omega
          · exact h0)
        cases e
        have hadd : (⟨b, off, none⟩ : Addr).add j = ⟨b, off + j, none⟩ := by unfold Addr.add; split <;> simp_all
        rw [hadd]
        exact hc j u hu) (vs_one ok zs) (by simp only [maxLen]; omega) (by
        have h64 : (ns.length + m) * R.by_ ≤ 1000000 * 64 := Nat.mul_le_mul hn hb
        omega) hB
    refine ⟨v', w', hr, ?_, h3, h5⟩
    unfold Own
    rw [List.length_append, hz.len, vs_append]
    exact h2
  · have hA2 : A = none := by
      cases A with
      | none => rfl
      | some ad => exact absurd ⟨ad, rfl⟩ hA
    subst hA2
    have hm : m = 0 := by
      rcases Nat.eq_zero_or_pos m with h0 | h0
      · exact h0
      · obtain ⟨b, off, e, _⟩ := hz.at_ h0
        cases e
    subst hm
    have : zs = [] := List.eq_nil_of_length_eq_zero hz.len
    subst this
    exact ⟨v, w, run_append_none ok w B ty v _ _ hown c, by rw [List.append_nil]; exact hown, ⟨rfl, rfl, rfl, Nat.le_refl _, fun _ _ _ => rfl⟩, .inl rfl⟩
theorem op_append (ok : R.Ok) {o : Oper} {a : Act} {K : Act → World → Prop} {Q : Exit → Act → World → Prop} (s x : Operand)
    (ho : o.op = .call { callee := .builtin .append, args := #[s, x], argTypes := #[R.S, R.S] })
    (B : Nat) (v : Value) (ns : List α) (w : World) (A : Option Addr) (m c : Nat) (zs : List α) (hs : a.eval s = v) (hown : R.Own B w v ns) (hx : a.eval x = .slice A m c) (hz : R.Rds w A m c zs)
    (hB : B ≤ w.heap.size) (hn : ns.length + m ≤ 1000000)
    (h : ∀ v' w', R.Own B w' v' (ns ++ zs) → w.grownBy w' v.ownBlock → (v'.ownBlock = v.ownBlock ∨ v'.ownBlock = some w.heap.size) → K (a.put o.dst v') w') : o.wp Tryz.prog a w K Q := by
  obtain ⟨v', w', hr, h2, h3, h5⟩ := run_append ok B o.type v ns w A m c zs hown hz hB hn
  unfold Oper.wp execOp
  simp only [ho, resolve, invoke, builtin, Sem.run_bind, Sem.run_pure, Result.andThen_ok, List.map_toArray, List.map_cons, List.map_nil, hs, hx, hr]
  exact h v' w' h2 h3 h5
theorem wp_append (ok : R.Ok) {ops : Array Oper} {rest : List Oper} {o : Oper} {a : Act} {Q : Exit → Act → World → Prop} (hgd : o.guard = none) (s x : Operand)
    (ho : o.op = .call { callee := .builtin .append, args := #[s, x], argTypes := #[R.S, R.S] })
    (B : Nat) (v : Value) (ns : List α) (w : World) (A : Option Addr) (m c : Nat) (zs : List α) (hs : a.eval s = v) (hown : R.Own B w v ns) (hx : a.eval x = .slice A m c) (hz : R.Rds w A m c zs)
    (hB : B ≤ w.heap.size) (hn : ns.length + m ≤ 1000000)
    (h : ∀ v' w', R.Own B w' v' (ns ++ zs) → w.grownBy w' v.ownBlock → (v'.ownBlock = v.ownBlock ∨ v'.ownBlock = some w.heap.size) → wpList Tryz.prog ops Q rest (a.put o.dst v') w') : wpList Tryz.prog ops Q (o :: rest) a w :=
  wpList_plain hgd fun _ hK => op_append ok s x ho B v ns w A m c zs hs hown hx hz hB hn fun v' w' h2 h3 h5 => hK _ _ (h v' w' h2 h3 h5)
theorem step_append (ok : R.Ok) {ops : Array Oper} {o : Oper} {a : Act} {K : Act → World → Prop} {Q : Exit → Act → World → Prop} {E : Prop} (hgd : o.guard = none) (s x : Operand)
    (ho : o.op = .call { callee := .builtin .append, args := #[s, x], argTypes := #[R.S, R.S] })
    (B : Nat) (v : Value) (ns : List α) (w : World) (A : Option Addr) (m c : Nat) (zs : List α) (hs : a.eval s = v) (hown : R.Own B w v ns) (hx : a.eval x = .slice A m c) (hz : R.Rds w A m c zs)
    (hB : B ≤ w.heap.size) (hn : ns.length + m ≤ 1000000)
    (h : ∀ v' w', R.Own B w' v' (ns ++ zs) → w.grownBy w' v.ownBlock → (v'.ownBlock = v.ownBlock ∨ v'.ownBlock = some w.heap.size) → K (a.put o.dst v') w') :
    if Region.wanted o (yielded ops a.tmps) = true then Oper.wp Tryz.prog o a w K Q else E := by
  have hw : Region.wanted o (yielded ops a.tmps) = true := by simp [Region.wanted, hgd]
  rw [if_pos hw]
  exact op_append ok s x ho B v ns w A m c zs hs hown hx hz hB hn h
/-- one element in a block of its own -/
theorem rds_one (_ok : R.Ok) (w : World) (x : α) (t : TypeId) : R.Rds (w.alloc (.cells (R.enc x).toArray t)) (some ⟨w.heap.size, 0, none⟩) 1 1 [x] :=
  ⟨rfl, Nat.le_refl _, by unfold maxLen; omega, fun _ => ⟨w.heap.size, 0, rfl, by simp, fun j u hu => by
    rw [Nat.zero_add, cell_of_row _ _ _ _ _ _ (heap_alloc_new w _)]
    rw [vs_cons, vs_nil, List.append_nil] at hu
    simpa using hu⟩⟩
/-- append(s, x): x lies in a block of its own -/
theorem op_append1 (ok : R.Ok) {o : Oper} {a : Act} {K : Act → World → Prop} {Q : Exit → Act → World → Prop} (s t : Operand)
    (ho : o.op = .call { callee := .builtin .append, args := #[s, t], argTypes := #[R.S, R.S] })
    (B : Nat) (v : Value) (ns : List α) (w : World) (x : α) (cs : Array Value) (E' : TypeId) (hcs : cs = (R.enc x).toArray) (hE : E' = R.E) (hs : a.eval s = v) (hown : R.Own B w v ns) (hx : a.eval t = .slice (some ⟨w.heap.size, 0, none⟩) 1 1)
    (hB : B ≤ w.heap.size) (hn : ns.length + 1 ≤ 1000000)
    (h : ∀ v' w', R.Own B w' v' (ns ++ [x]) → w.grownBy w' v.ownBlock → (v'.ownBlock = v.ownBlock ∨ ∃ g, v'.ownBlock = some g ∧ w.heap.size ≤ g) → K (a.put o.dst v') w') : o.wp Tryz.prog a (w.alloc (.cells cs E')) K Q := by
  subst hcs hE
  refine op_append ok s t ho B v ns (w.alloc (.cells (R.enc x).toArray R.E)) _ 1 1 [x] hs (hown.alloc _) hx (rds_one ok w x R.E) (by simp; omega) hn fun v' w' h1 h2 h3 => h v' w' h1 (grown_tr (World.grownBy_alloc w _ _) h2) ?_
  rcases h3 with h3 | h3
  · exact .inl h3
  · exact .inr ⟨_, h3, by simp⟩
theorem wp_append1 (ok : R.Ok) {ops : Array Oper} {rest : List Oper} {o : Oper} {a : Act} {Q : Exit → Act → World → Prop} (hgd : o.guard = none) (s t : Operand)
    (ho : o.op = .call { callee := .builtin .append, args := #[s, t], argTypes := #[R.S, R.S] })
    (B : Nat) (v : Value) (ns : List α) (w : World) (x : α) (cs : Array Value) (E' : TypeId) (hcs : cs = (R.enc x).toArray) (hE : E' = R.E) (hs : a.eval s = v) (hown : R.Own B w v ns) (hx : a.eval t = .slice (some ⟨w.heap.size, 0, none⟩) 1 1)
    (hB : B ≤ w.heap.size) (hn : ns.length + 1 ≤ 1000000)
    (h : ∀ v' w', R.Own B w' v' (ns ++ [x]) → w.grownBy w' v.ownBlock → (v'.ownBlock = v.ownBlock ∨ ∃ g, v'.ownBlock = some g ∧ w.heap.size ≤ g) → wpList Tryz.prog ops Q rest (a.put o.dst v') w') : wpList Tryz.prog ops Q (o :: rest) a (w.alloc (.cells cs E')) :=
  wpList_plain hgd fun _ hK => op_append1 ok s t ho B v ns w x cs E' hcs hE hs hown hx hB hn fun v' w' h2 h3 h5 => hK _ _ (h v' w' h2 h3 h5)
theorem step_append1 (ok : R.Ok) {ops : Array Oper} {o : Oper} {a : Act} {K : Act → World → Prop} {Q : Exit → Act → World → Prop} {E : Prop} (hgd : o.guard = none) (s t : Operand)
    (ho : o.op = .call { callee := .builtin .append, args := #[s, t], argTypes := #[R.S, R.S] })
    (B : Nat) (v : Value) (ns : List α) (w : World) (x : α) (cs : Array Value) (E' : TypeId) (hcs : cs = (R.enc x).toArray) (hE : E' = R.E) (hs : a.eval s = v) (hown : R.Own B w v ns) (hx : a.eval t = .slice (some ⟨w.heap.size, 0, none⟩) 1 1)
    (hB : B ≤ w.heap.size) (hn : ns.length + 1 ≤ 1000000)
    (h : ∀ v' w', R.Own B w' v' (ns ++ [x]) → w.grownBy w' v.ownBlock → (v'.ownBlock = v.ownBlock ∨ ∃ g, v'.ownBlock = some g ∧ w.heap.size ≤ g) → K (a.put o.dst v') w') :
    if Region.wanted o (yielded ops a.tmps) = true then Oper.wp Tryz.prog o a (w.alloc (.cells cs E')) K Q else E := by
  have hw : Region.wanted o (yielded ops a.tmps) = true := by simp [Region.wanted, hgd]
  rw [if_pos hw]
  exact op_append1 ok s t ho B v ns w x cs E' hcs hE hs hown hx hB hn h
theorem step_append1d (ok : R.Ok) {ops : Array Oper} {o : Oper} {a : Act} {K : Act → World → Prop} {Q : Exit → Act → World → Prop} {E : Prop} (hgd : o.guard = none) (s t : Operand)
    (ho : o.op = .call { callee := .builtin .append, args := #[s, t], argTypes := #[R.S, R.S] })
    (B : Nat) (v : Value) (ns : List α) (w : World) (x : α) (cs : Array Value) (E' : TypeId) (hcs : cs = (R.enc x).toArray) (hE : E' = R.E) (hs : a.eval s = v) (hown : R.Own B w v ns) (hx : a.eval t = .slice (some ⟨w.heap.size, 0, none⟩) 1 1)
    (hB : B ≤ w.heap.size) (hn : ns.length + 1 ≤ 1000000)
    (h : ∀ v' w', R.Own B w' v' (ns ++ [x]) → w.grownBy w' v.ownBlock → (v'.ownBlock = v.ownBlock ∨ ∃ g, v'.ownBlock = some g ∧ w.heap.size ≤ g) → K (a.put o.dst v') w') :
    if Region.wanted o (yielded ops a.tmps) = true then Oper.wp Tryz.prog o a (w.alloc (.cells cs E')).drew K Q else E := by
  have hw : Region.wanted o (yielded ops a.tmps) = true := by simp [Region.wanted, hgd]
  rw [if_pos hw]
  subst hcs hE
  have hr := rds_one ok w x R.E
  refine op_append ok s t ho B v ns (w.alloc (.cells (R.enc x).toArray R.E)).drew _ 1 1 [x] hs (hown.alloc _) hx ⟨hr.len, hr.cap, hr.top, hr.at_⟩ (by show B ≤ (w.alloc (.cells (R.enc x).toArray R.E)).heap.size; simp; omega) hn fun v' w' h1 h2 h3 => h v' w' h1 (grown_tr (World.grownBy_alloc w (.cells (R.enc x).toArray R.E) _) ⟨h2.os, h2.tape, h2.output, h2.size, h2.block⟩) ?_
  rcases h3 with h3 | h3
  · exact .inl h3
  · exact .inr ⟨_, h3, by show w.heap.size ≤ (w.alloc (.cells (R.enc x).toArray R.E)).heap.size; simp⟩
/-- a part of a slice that is read -/
theorem Rds.drop (ok : R.Ok) {w : World} {b o n c : Nat} {l : List α} (h : R.Rds w (some ⟨b, o, none⟩) n c l) (i : Nat) (hi : i ≤ n) : R.Rds w (some ⟨b, o + i * R.k, none⟩) (n - i) (c - i) (l.drop i) := by
  have hl := h.len
  have hcap := h.cap
  have htop := h.top
  refine ⟨by rw [List.length_drop, hl], by omega, by omega, fun h0 => ?_⟩
  obtain ⟨b', o', e, hlt, hc⟩ := h.at_ (by omega)
  cases e
  refine ⟨b, _, rfl, hlt, fun j u hu => ?_⟩
  have e1 : R.vs l = R.vs (l.take i) ++ R.vs (l.drop i) := by rw [← vs_append, List.take_append_drop]
  have e2 : (R.vs (l.take i)).length = i * R.k := by rw [vs_len ok, List.length_take, hl, Nat.min_eq_left hi]
  have := hc (i * R.k + j) u (by rw [e1, List.getElem?_append_right (by rw [e2]; omega), e2, Nat.add_sub_cancel_left]; exact hu)
  rw [show o + i * R.k + j = o + (i * R.k + j) by omega]
  exact this
theorem Rds.take (_ok : R.Ok) {w : World} {A : Option Addr} {n c : Nat} {l : List α} (h : R.Rds w A n c l) (i : Nat) (hi : i ≤ n) : R.Rds w A i c (l.take i) := by
  have hl := h.len
  have hcap := h.cap
  have htop := h.top
  refine ⟨by rw [List.length_take, hl]; omega, by omega, by omega, fun h0 => ?_⟩
  obtain ⟨b, o, e, hlt, hc⟩ := h.at_ (by omega)
  refine ⟨b, o, e, hlt, fun j u hu => hc j u ?_⟩
  have e1 : R.vs l = R.vs (l.take i) ++ R.vs (l.drop i) := by rw [← vs_append, List.take_append_drop]
  rw [e1, List.getElem?_append_left (List.getElem?_eq_some_iff.1 hu).1]
  exact hu
/-- one element that is read -/
theorem Rds.cell (ok : R.Ok) (x0 : α) {w : World} {b o n c : Nat} {l : List α} (h : R.Rds w (some ⟨b, o, none⟩) n c l) (i j : Nat) (u : Value) (hi : i < n) (hu : (R.enc (l.getD i x0))[j]? = some u) : w.cell? ⟨b, o + i * R.k + j, none⟩ = some u := by
  obtain ⟨b', o', e, _, hc⟩ := h.at_ (by omega)
  cases e
  have hj : j < R.k := by rw [← ok.hk (l.getD i x0)]; exact (List.getElem?_eq_some_iff.1 hu).1
  have := hc (i * R.k + j) u (by rw [vs_at ok x0 l i j (by rw [h.len]; exact hi) hj]; exact hu)
  rw [show o + i * R.k + j = o + (i * R.k + j) by omega]
  exact this
theorem Rds.nil (w : World) (A : Option Addr) (c : Nat) (hc : c ≤ maxLen) : R.Rds w A 0 c [] := ⟨rfl, Nat.zero_le _, hc, fun h => by omega⟩
theorem size_run (ok : R.Ok) (W : World) : (sizeOf R.E).run Tryz.prog W = .ok R.k W := by
  obtain ⟨i0, hi, hz0, hz1, hz2⟩ := info_parts ok.info
  simp [sizeOf, typeInfo, hi, hz1]
theorem elem_of (ok : R.Ok) : Tryz.prog.elem R.S = R.E := by simp [Program.elem, ok.hS]
/-- s[i:] -/
theorem run_from (ok : R.Ok) {w : World} {A : Option Addr} {n c : Nat} {l : List α} (h : R.Rds w A n c l) (i : Nat) (hi : i ≤ n) :
    ∃ A', (∀ W, (Instr.sliceAt R.S (.slice A n c) (some (.int .i64 (i : Int))) none none).run Tryz.prog W = .ok (.slice A' (n - i) (c - i)) W) ∧ R.Rds w A' (n - i) (c - i) (l.drop i) := by
  have hcap := h.cap
  refine ⟨if c = i then A else A.map (·.add (i * R.k)), fun W => ?_, ?_⟩
  · rw [run_sliceAt_slice W R.S _ _ _ _ (by rw [elem_of ok]; exact ok.hS), run_slice_l W R.S A n c (by rw [elem_of ok]; exact ok.hS) .i64 (i : Int) (by omega) (by omega), elem_of ok, size_run ok W]
    simp [Result.andThen, sliced]
  · by_cases h0 : n - i = 0
    · have hl : l.drop i = [] := List.drop_of_length_le (by rw [h.len]; omega)
      rw [hl, h0]
      exact Rds.nil w _ _ (by have := h.top; omega)
    · rw [if_neg (by omega)]
      obtain ⟨b, o, rfl, _⟩ := h.at_ (by omega)
      have hadd : (⟨b, o, none⟩ : Addr).add (i * R.k) = ⟨b, o + i * R.k, none⟩ := by unfold Addr.add; split <;> simp_all
      rw [Option.map_some, hadd]
      exact h.drop ok i hi
/-- s[:i] -/
theorem run_upto (ok : R.Ok) {w : World} {A : Option Addr} {n c : Nat} {l : List α} (h : R.Rds w A n c l) (i : Nat) (hi : i ≤ n) :
    ∃ A', (∀ W, (Instr.sliceAt R.S (.slice A n c) none (some (.int .i64 (i : Int))) none).run Tryz.prog W = .ok (.slice A' i c) W) ∧ R.Rds w A' i c (l.take i) := by
  have hcap := h.cap
  refine ⟨if c = 0 then A else A.map (·.add (0 * R.k)), fun W => ?_, ?_⟩
  · rw [run_sliceAt_slice W R.S _ _ _ _ (by rw [elem_of ok]; exact ok.hS), run_slice_h W R.S A n c (by rw [elem_of ok]; exact ok.hS) .i64 (i : Int) (by omega) (by omega), elem_of ok, size_run ok W]
    simp [Result.andThen, sliced]
  · by_cases h0 : n = 0
    · have hi0 : i = 0 := by omega
      subst hi0
      rw [List.take_zero]
      exact Rds.nil w _ _ h.top
    · rw [if_neg (by omega)]
      obtain ⟨b, o, rfl, _⟩ := h.at_ (by omega)
      have hadd : (⟨b, o, none⟩ : Addr).add (0 * R.k) = ⟨b, o, none⟩ := by unfold Addr.add; split <;> simp_all
      rw [Option.map_some, hadd]
      exact h.take ok i hi
theorem vs_set3 (hk : ∀ x : α, (R.enc x).length = 3) (l : List α) (i : Nat) (x : α) (a b c : Value) (hi : i < l.length) (hx : R.enc x = [a, b, c]) : (((R.vs l).set (i * 3) a).set (i * 3 + 1) b).set (i * 3 + 2) c = R.vs (l.set i x) := by
  induction l generalizing i with
  | nil => cases hi
  | cons y r ih =>
    obtain ⟨y0, y1, y2, hy⟩ : ∃ y0 y1 y2, R.enc y = [y0, y1, y2] := by
      have h := hk y
      match he : R.enc y, h with
      | [p, q, s], _ => exact ⟨p, q, s, rfl⟩
    rw [vs_cons, hy]
    cases i with
    | zero => rw [List.set_cons_zero, vs_cons, hx]; rfl
    | succ i =>
      rw [List.set_cons_succ, vs_cons, hy, ← ih i (by simpa using hi), show (i + 1) * 3 = i * 3 + 3 by omega]
      rfl
/-- an element of a slice of the call's own is written -/
theorem Own.set3 (hk : ∀ x : α, (R.enc x).length = 3) (_h3 : R.k = 3) {B : Nat} {w : World} {g n cap : Nat} {l : List α} (h : R.Own B w (.slice (some ⟨g, 0, none⟩) n cap) l) (i : Nat) (x : α) (a b c : Value) (hi : i < l.length) (hx : R.enc x = [a, b, c]) :
    R.Own B (((w.setCell ⟨g, i * 3, none⟩ a).setCell ⟨g, i * 3 + 1, none⟩ b).setCell ⟨g, i * 3 + 2, none⟩ c) (.slice (some ⟨g, 0, none⟩) n cap) (l.set i x) ∧ w.grownBy (((w.setCell ⟨g, i * 3, none⟩ a).setCell ⟨g, i * 3 + 1, none⟩ b).setCell ⟨g, i * 3 + 2, none⟩ c) (some g) := by
  have hn : n = l.length := by
    rcases h.2 with ⟨e, _⟩ | ⟨g', cap', cur, e, _⟩
    · cases e
    · injection e
  subst hn
  have h' : w.ownsRow B R.E R.k (.slice (some ⟨g, 0, none⟩) l.length cap) l.length (R.vs l) := h
  obtain ⟨s1, t1⟩ := h'.stored (i * 3) a
  obtain ⟨s2, t2⟩ := s1.stored (i * 3 + 1) b
  obtain ⟨s3, t3⟩ := s2.stored (i * 3 + 2) c
  rw [vs_set3 hk l i x a b c hi hx] at s3
  refine ⟨?_, grown_tr (grown_tr t1 t2) t3⟩
  unfold Own
  rw [List.length_set]
  exact s3
theorem Own.frz {B : Nat} {w : World} {g n cap : Nat} {l : List α} (h : R.Own B w (.slice (some ⟨g, 0, none⟩) n cap) l) (j : Nat) : w.frozen? ⟨g, j, none⟩ = false := by
  have hn : n = l.length := by
    rcases h.2 with ⟨e, _⟩ | ⟨g', cap', cur, e, _⟩
    · cases e
    · injection e
  subst hn
  exact World.ownsRow.frozenAt h j
end Row
end Go.Proofs.YtejaehmoplohdaaGreatDoor

/- Lists of entries in memory. -/
namespace Go.Proofs.YtejaehmoplohdaaGreatDoor
open Go.RowKit Go.Maps Num

def BoolPost (b : Bool) (w : World) (e : Ending) (w' : World) : Prop := e = .returned (.bool b) ∧ Below w.heap.size w w'
abbrev En : Type := Int × List UInt8 × List Ln
set_option synthInstance.maxHeartbeats 200000 in
set_option synthInstance.maxSize 1000 in
instance decEn : DecidableEq En := inferInstanceAs (DecidableEq (Int × List UInt8 × List Ln))
instance decEns : DecidableEq (List En) := fun a b => @instDecidableEqList En decEn a b
def en0 : En := (0, [], [])
/-- The slice value '.slice A n c' reads as the entries l in w. -/
structure Ens (w : World) (A : Option Addr) (n c : Nat) (l : List En) : Prop where
  len : l.length = n
  cap : n ≤ c
  top : c ≤ maxLen
  small : n ≤ 1000
  at_ : 0 < n → ∃ b o, A = some ⟨b, o, none⟩ ∧ b < w.heap.size ∧ ∀ k, k < n → w.cell? ⟨b, o + k * 3, none⟩ = some (.int .i64 (l.getD k en0).1) ∧ w.cell? ⟨b, o + k * 3 + 1, none⟩ = some (.string ⟨(l.getD k en0).2.1.toArray⟩) ∧
    ∃ A' n' c', w.cell? ⟨b, o + k * 3 + 2, none⟩ = some (.slice A' n' c') ∧ Lns w A' n' c' (l.getD k en0).2.2
theorem Ens.below {w w' : World} {A : Option Addr} {n c : Nat} {l : List En} (h : Ens w A n c l) (hb : Below w.heap.size w w') : Ens w' A n c l :=
  ⟨h.len, h.cap, h.top, h.small, fun h0 => by
    obtain ⟨b, o, e, hlt, hc⟩ := h.at_ h0
    refine ⟨b, o, e, Nat.lt_of_lt_of_le hlt hb.size, fun k hk => ?_⟩
    obtain ⟨c0, c1, A', n', c', c2, hl⟩ := hc k hk
    exact ⟨(hb.cell (p := ⟨b, o + k * 3, none⟩) hlt).trans c0, (hb.cell (p := ⟨b, o + k * 3 + 1, none⟩) hlt).trans c1, A', n', c', (hb.cell (p := ⟨b, o + k * 3 + 2, none⟩) hlt).trans c2, hl.below hb⟩⟩
theorem take_en (l : List En) (k : Nat) (h : k < l.length) : l.take (k + 1) = l.take k ++ [l.getD k en0] := by
  rw [List.take_succ_eq_append_getElem h, List.getD_eq_getElem?_getD, List.getElem?_eq_getElem h]; rfl
end Go.Proofs.YtejaehmoplohdaaGreatDoor

/- Rows of lines, entries, keys. -/
namespace Go.Proofs.YtejaehmoplohdaaGreatDoor
open Go.RowKit Go.Maps Num

/-- an entry as it lies, and as it reads -/
abbrev Raw := Int × List UInt8 × Option Addr × Nat × Nat
abbrev RE := Raw × En
def rawA (r : Raw) : Option Addr := r.2.2.1
def rawN (r : Raw) : Nat := r.2.2.2.1
def rawC (r : Raw) : Nat := r.2.2.2.2
def encE (p : RE) : List Value := [.int .i64 p.1.1, .string ⟨p.1.2.1.toArray⟩, .slice (rawA p.1) (rawN p.1) (rawC p.1)]
def encK (q : Ky) : List Value := [.string ⟨q.1.toArray⟩, .string ⟨q.2.toArray⟩]
abbrev rowK : Row Ky := ⟨152, 123, .agg #[.string ⟨#[]⟩, .string ⟨#[]⟩], 2, 32, encK⟩
theorem rowK_ok : rowK.Ok where
  hS := Tryz.underlying152
  info := by kernel_rfl
  zc := rfl
  k0 := by decide
  b1 := by decide
  hk _ := rfl
  h1 x v hv := by
    simp only [encK, List.mem_cons, List.not_mem_nil, or_false] at hv
    rcases hv with rfl | rfl <;> rfl
/-! entries -/
/-- what the entry reads as -/
def RdE (w : World) (p : RE) : Prop := p.1.1 = p.2.1 ∧ p.1.2.1 = p.2.2.1 ∧ Lns w (rawA p.1) (rawN p.1) (rawC p.1) p.2.2.2
theorem RdE.below {w w' : World} {p : RE} (h : RdE w p) (hb : Below w.heap.size w w') : RdE w' p := ⟨h.1, h.2.1, h.2.2.below hb⟩
def re0 : RE := ((0, [], none, 0, 0), en0)
end Go.Proofs.YtejaehmoplohdaaGreatDoor

/- Keys of Normal's map: accounts in currencies. -/
namespace Go.Proofs.YtejaehmoplohdaaGreatDoor
open Go.RowKit Go.Maps Num
theorem laidOut : laidOutB Tryz.prog = true := by kernel_rfl
theorem row75 : 123 < Tryz.prog.types.size := of_decide_eq_true (by kernel_rfl)
theorem wide75 : (match Tryz.prog.underlying 123 with | some (.array _ _) | some (.struct _) => true | _ => false) = true := by rw [Tryz.underlying123]
set_option maxRecDepth 100000 in
theorem keyed75 : Keyed Tryz.prog 123 := Keyed.of_law (deep_law_laid laidOut (m := 2) (by omega) row75 (by kernel_rfl) wide75)
theorem cells75 : Tryz.prog.cellsOf 123 = 2 := by kernel_rfl
theorem cells9 : Tryz.prog.cellsOf 9 = 1 := by kernel_rfl
theorem kt75 : Tryz.prog.keyType 123 = true := by kernel_rfl
set_option maxRecDepth 100000 in
theorem lits9 (d : Nat) (s : List UInt8) (hs : s.length ≤ 100000) : Tryz.prog.keyLits (d + 1) 9 [.string ⟨s.toArray⟩] = some [.string s] := by
  have : (⟨s.toArray⟩ : ByteArray).size ≤ maxLen := by unfold maxLen; show s.length ≤ _; omega
  unfold Program.keyLits
  rw [Tryz.underlying9]
  simp [this]
set_option maxRecDepth 100000 in
theorem lits75 (d : Nat) (a c : List UInt8) (ha : a.length ≤ 100000) (hc : c.length ≤ 100000) : Tryz.prog.keyLits (d + 2) 123 [.string ⟨a.toArray⟩, .string ⟨c.toArray⟩] = some [.string a, .string c] := by
  unfold Program.keyLits
  rw [Tryz.underlying123]
  simp [cells75, cells9, lits9, ha, hc]
/-- how the map tells a key -/
def kb (q : Ky) : List UInt8 := keyBytes [.string q.1, .string q.2]
set_option maxRecDepth 100000 in
theorem key75 (a c : List UInt8) (ha : a.length ≤ 100000) (hc : c.length ≤ 100000) : keyOf Tryz.prog 123 (.agg #[.string ⟨a.toArray⟩, .string ⟨c.toArray⟩]) = some (.string (kb (a, c))) := by
  obtain ⟨d, hd⟩ : ∃ d, Tryz.prog.types.size + 1 = d + 2 := ⟨Tryz.prog.types.size - 1, by have := row75; omega⟩
  have hf : (Value.agg #[.string ⟨a.toArray⟩, .string ⟨c.toArray⟩]).formed Tryz.prog 123 = true := by simp [Value.formed, Tryz.underlying123, cells75]
  have hc' : (Value.agg #[.string ⟨a.toArray⟩, .string ⟨c.toArray⟩]).cells.toList = [.string ⟨a.toArray⟩, .string ⟨c.toArray⟩] := by simp [Value.cells]
  unfold keyOf
  rw [Tryz.underlying123]
  simp only
  rw [kt75, hf, hc', hd, lits75 d a c ha hc]
  rfl
theorem kb_inj {a c a' c' : List UInt8} (h1 : a.length ≤ 100000) (h2 : c.length ≤ 100000) (h3 : a'.length ≤ 100000) (h4 : c'.length ≤ 100000) (h : kb (a, c) = kb (a', c')) : (a, c) = (a', c') := by
  have e := keyed75.inj (key75 a c h1 h2) (by rw [h]; exact key75 a' c' h3 h4)
  simpa using e
end Go.Proofs.YtejaehmoplohdaaGreatDoor

/- Contracts of maps.Keys at the map of sums, its iterator, slices.AppendSeq and Collect at keys. -/
namespace Go.Proofs.YtejaehmoplohdaaGreatDoor
open Go.RowKit Go.Maps Go.Shelf Num
attribute [local go_sem] Oper.semAt_some

theorem encK_inj {p q : Ky} (h : Value.agg (encK p).toArray = .agg (encK q).toArray) : p = q := by
  obtain ⟨p1, p2⟩ := p
  obtain ⟨q1, q2⟩ := q
  simp [encK] at h
  rw [h.1, h.2]
set_option maxRecDepth 100000 in
theorem lits9_inv {d : Nat} {x : Value} {z : List Lit} (h : Tryz.prog.keyLits (d + 1) 9 [x] = some z) : ∃ s : List UInt8, x = .string ⟨s.toArray⟩ ∧ z = [.string s] := by
  unfold Program.keyLits at h
  rw [Tryz.underlying9] at h
  cases x with
  | string s =>
    simp only at h
    split at h
    · exact ⟨s.data.toList, rfl, (Option.some.inj h).symm⟩
    · cases h
  | _ => simp at h
set_option maxRecDepth 100000 in
theorem key75_inv {v : Value} {kl : Lit} (h : keyOf Tryz.prog 123 v = some kl) : ∃ q : Ky, v = .agg (encK q).toArray ∧ kl = .string (kb q) := by
  obtain ⟨d, hd⟩ : ∃ d, Tryz.prog.types.size + 1 = d + 2 := ⟨Tryz.prog.types.size - 1, by have := row75; omega⟩
  unfold keyOf at h
  rw [Tryz.underlying123] at h
  simp only at h
  rw [kt75] at h
  split at h
  case isFalse => cases h
  rename_i hf
  rw [Bool.true_and] at hf
  cases v with
  | agg cs =>
    simp only [Value.formed, Tryz.underlying123, cells75, beq_iff_eq] at hf
    obtain ⟨x, y, e⟩ : ∃ x y, cs = #[x, y] := by
      match cs, hf with
      | ⟨[x, y]⟩, _ => exact ⟨x, y, rfl⟩
    subst e
    have hc : (Value.agg #[x, y]).cells.toList = [x, y] := by simp [Value.cells]
    rw [hd, hc] at h
    cases hl : Tryz.prog.keyLits (d + 2) 123 [x, y] with
    | none => rw [hl] at h; cases h
    | some ls =>
      rw [hl] at h
      unfold Program.keyLits at hl
      rw [Tryz.underlying123] at hl
      simp [cells75, cells9] at hl
      cases h1 : Tryz.prog.keyLits (d + 1) 9 [x] with
      | none => rw [h1] at hl; cases hl
      | some a =>
        cases h2 : Tryz.prog.keyLits (d + 1) 9 [y] with
        | none => rw [h1, h2] at hl; cases hl
        | some b =>
          rw [h1, h2] at hl
          obtain ⟨s1, rfl, rfl⟩ := lits9_inv h1
          obtain ⟨s2, rfl, rfl⟩ := lits9_inv h2
          have e1 := Option.some.inj hl
          have e2 := Option.some.inj h
          exact ⟨(s1, s2), rfl, by rw [← e2, ← e1]; rfl⟩
  | _ => simp [Value.formed, Tryz.underlying123] at hf
/-- the keys met so far: no one twice; a key is there just where the map has it and it is no longer to come -/
def ColK (D : DataW Nat) (left : Lit → Bool) (ss : List Ky) : Prop := (ss.map kb).Nodup ∧ (∀ k, k ∈ ss.map kb ↔ (has D (.string k) = true ∧ left (.string k) = false)) ∧ ∀ q ∈ ss, keyOf Tryz.prog 123 (.agg (encK q).toArray) = some (.string (kb q))
theorem ColK.start (D : DataW Nat) : ColK D (has D) [] := ⟨List.nodup_nil, fun k => by cases has D (.string k) <;> simp, fun q hq => by cases hq⟩
theorem ColK.step {D : DataW Nat} {left : Lit → Bool} {ss : List Ky} (h : ColK D left ss) {q : Ky} {y : DataW Nat} (hky : keyOf Tryz.prog 123 (.agg (encK q).toArray) = some (.string (kb q))) (hlk : left (.string (kb q)) = true) (hat : ∀ zd, D.atKey (.string (kb q)) zd = y) : ColK D (fun z => left z && !z.sameKey (.string (kb q))) (ss ++ [q]) := by
  have hhas : has D (.string (kb q)) = true := has_true_of_atKey hat
  have hnew : kb q ∉ ss.map kb := fun hx => by have := ((h.2.1 (kb q)).1 hx).2; rw [hlk] at this; cases this
  rw [ColK, List.map_append]
  refine ⟨List.nodup_append.2 ⟨h.1, by simp, fun a ha b hb => by simp at hb; subst hb; exact fun e => hnew (e ▸ ha)⟩, fun y => ?_, fun p hp => ?_⟩
  · by_cases hy : y = kb q
    · subst hy; simp [hhas, Lit.sameKey]
    · rw [List.mem_append, h.2.1 y]; simp [hy, Lit.sameKey]
  · rcases List.mem_append.1 hp with hp | hp
    · exact h.2.2 p hp
    · rw [List.mem_singleton.1 hp]; exact hky
/-- what the iterator gave: each key of the map once -/
def KeysD (D : DataW Nat) (ss : List Ky) : Prop := (ss.map kb).Nodup ∧ (∀ k, k ∈ ss.map kb ↔ has D (.string k) = true) ∧ ss.length ≤ Maps.size D ∧ ∀ q ∈ ss, keyOf Tryz.prog 123 (.agg (encK q).toArray) = some (.string (kb q))
set_option maxRecDepth 100000 in
set_option maxHeartbeats 2000000 in
theorem keys_in (d : Nat) (hd : 1 ≤ d) (l Bm b nn : Nat) (D : DataW Nat) (J Jx : List Ky → World → Prop)
    (hY : ∀ pre x W, J pre W → pre.length < Maps.size D → YieldAt Fence.wide (d - 1) Tryz.prog l #[.agg (encK x).toArray] W fun e W' =>
      (e = .returned (.bool true) ∧ J (pre ++ [x]) W' ∧ KeepsWalks W W') ∨ (e = .returned (.bool false) ∧ Jx (pre ++ [x]) W'))
    (W : World) (hJ : AbidesFrom W.heap.size J) (hm : W.cell? ⟨Bm, 0, none⟩ = some (.map (some b))) (hown : W.ownsMap Tryz.prog 123 (plainElem Tryz.prog 25) b nn D) (h0 : J [] W) :
    CallsIn Fence.wide d Tryz.prog 161 #[.func (.yield l) #[] #[], .pointer (some ⟨Bm, 0, none⟩)] W fun e W' => (∃ v, e = .returned v) ∧ ((∃ ss : List Ky, KeysD D ss ∧ J ss W') ∨ (∃ pre : List Ky, True ∧ Jx pre W')) := by
  refine callsIn_of_wp Tryz.func161 rfl trivial ?_ rfl
  simp only [Tryz.ntmps161, List.size_toArray, List.length_cons, List.length_nil, Nat.reduceAdd, Nat.reduceSub, Array.replicate_succ, Array.replicate_zero, List.push_toArray, List.append_toArray, List.nil_append, List.cons_append]
  gi_wp2_with (first
    | (gi_at_range; refine wpListIn_range_own _ rfl _ 120 rfl 123 25 keyed75 Tryz.underlying120 _ b nn _ rfl hown ?_; intro w0 hrg0 hg0 hs0)
    | gi_in)
  go_frame
  gi_loopw [3] (fun _ wr => ∃ (left : Lit → Bool) (cnt : Nat) (ss : List Ky), wr.ranges Tryz.prog 123 (plainElem Tryz.prog 25) b W.heap.size nn D left cnt ∧ ss.length + cnt ≤ Maps.size D ∧ ColK D left ss ∧ J ss wr ∧ W.heap.size < wr.heap.size)
    (fun _ wr => wr.rangeLeft b W.heap.size)
  case atStart =>
    exact ⟨_, _, [], hrg0, by simp, ColK.start D, hJ [] W w0 none h0 hg0 (fun r e => by cases e), by omega⟩
  case round =>
    obtain ⟨left, cnt, ss, hrg, hcs, hC, hJs, hlt0⟩ := hrel
    gi_wp2_with (first
      | (gi_at_next; refine wpListIn_next_ranges _ rfl _ rfl 123 keyed75 (plainElem Tryz.prog 25) (fun q : Ky => Value.agg (encK q).toArray) Value.string (fun key kl hk => by obtain ⟨q, hq, _⟩ := key75_inv hk; exact ⟨q, hq⟩) (fun v y hv => by obtain ⟨c, rfl, _⟩ := plain_str_inv hv; exact ⟨c, rfl⟩) b W.heap.size nn _ _ _ rfl hrg ?_ ?_)
      | gi_in)
    · intro hc0 hl0
      gi_wp2
      go_end0
      exact ⟨⟨_, rfl⟩, .inl ⟨ss, ⟨hC.1, fun k => by rw [hC.2.1 k, hl0]; simp, by omega, hC.2.2⟩, hJs⟩⟩
    · intro xa xc c kl yd yp w2 cnt2 hkey hlk hv hat hrg2 hlt hg2 hs2 hen
      obtain ⟨x, hx⟩ : ∃ x : Ky, x = (xa, xc) := ⟨_, rfl⟩
      rw [← hx] at hkey hen ⊢
      obtain ⟨x', ex, rfl⟩ := key75_inv hkey
      obtain rfl : x = x' := encK_inj ex
      have hJ2 : J ss w2 := hJ ss wr w2 (some W.heap.size) hJs hg2 (fun r e => by cases e; exact ⟨Nat.le_refl _, hrg.iter_walk⟩)
      have hJ3 : J ss (w2.alloc (.cells (encK x).toArray 123)) := hJ ss w2 _ none hJ2 (World.grownBy_alloc _ _ _) (fun r e => by cases e)
      obtain ⟨fn, tmps, assign, body, hy, hR⟩ := hY ss x (w2.alloc (.cells (encK x).toArray 123)) hJ3 (by omega)
      have hrg3 := hrg2.of_walks (KeepsWalks.alloc w2 (.cells (encK x).toArray 123))
      have hC2 := hC.step hkey hlk hat
      have hsz : W.heap.size < (w2.alloc (.cells (encK x).toArray 123)).heap.size := by simp; omega
      have hme := hrg.left_eq
      clear hs2 hC hJ2 hJ3 hkey
      subst hx
      simp only [encK] at *
      gi_wp2
      refine hR.mono ?_
      rintro e W3 (⟨rfl, hJ3, hk3⟩ | ⟨rfl, hJx3⟩)
      · gi_wp2
        have hrg4 := hrg3.of_walks hk3
        go_roundw
        case rel => exact ⟨_, cnt2, ss ++ [(xa, xc)], hrg4, by simp; omega, hC2, hJ3, Nat.lt_of_lt_of_le hsz hk3.size⟩
        case measure => rw [hrg4.left_eq, hme]; exact hlt
      · gi_wp2
        refine bodyPost_ret (results_none rfl _ _ _) rfl ?_
        exact ⟨⟨_, rfl⟩, .inr ⟨ss ++ [(xa, xc)], trivial, hJx3⟩⟩
theorem keys_stops (d : Nat) (hd : 1 ≤ d) (Bm b nn : Nat) (D : DataW Nat) (w : World) (hBm : Bm < w.heap.size) (hm : w.cell? ⟨Bm, 0, none⟩ = some (.map (some b))) (hown : w.ownsMap Tryz.prog 123 (plainElem Tryz.prog 25) b nn D) :
    SeqStopsK Fence.wide d Tryz.prog 161 #[.pointer (some ⟨Bm, 0, none⟩)] (fun q : Ky => #[Value.agg (encK q).toArray]) KeepsWalks (KeysD D) (fun _ => True) (Maps.size D) w := fun l J Jx W hW hJ _ hY h0 => by
  have hown' : W.ownsMap Tryz.prog 123 (plainElem Tryz.prog 25) b nn D := hown.kept (grown_of_below hW) (by simp)
  exact keys_in d hd l Bm b nn D J Jx hY W hJ ((hW.cell (p := ⟨Bm, 0, none⟩) hBm).trans hm) hown' h0
theorem Keys_any (b : Nat) (w : World) : Calls Tryz.prog 120 #[.map (some b)] w fun e w' => e = .returned (.func (.func 161) #[] #[.pointer (some ⟨w.heap.size, 0, none⟩)]) ∧ w' = w.alloc (.cells #[.map (some b)] 120) := by
  go_enter Tryz.func120, Tryz.ntmps120
  go_wp2
  go_ret
  exact ⟨rfl, rfl⟩
/-- what the collecting loop keeps: the slice in its box -/
structure CoI (w : World) (pre : List Ky) (W : World) : Prop where
  box : ∃ v, Boxed W w.heap.size 152 v ∧ rowK.Own w.heap.size W v pre
  bel : Below w.heap.size w W
theorem own_ne {α : Type} {R : Row α} {B : Nat} {W : World} {v : Value} {l : List α} (h : R.Own B W v l) {row : Option Nat} (hr : ∀ r, row = some r → ∃ o : Obj, W.heap[r]? = some o ∧ o.isCells = false) : v.ownBlock = none ∨ v.ownBlock ≠ row := by
  rcases h.2 with ⟨rfl, _⟩ | ⟨g, cap, cur, rfl, _, hg, _⟩
  · exact .inl rfl
  · refine .inr fun e => ?_
    obtain ⟨o, ho, hc⟩ := hr g e.symm
    rw [hg] at ho; cases ho; cases hc
theorem CoI.own (w : World) (B : Nat) (hB : w.heap.size < B) : OwnFrom B (CoI w) := fun s A C row hs hg hr => by
  obtain ⟨v, hb, ho⟩ := hs.box
  refine ⟨⟨v, hb.kept hg (fun e => ?_), ho.kept' hg (own_ne ho fun r e => (hr r e).2)⟩, hs.bel.grown hg hs.bel.size (fun k e => by have := (hr k e).1; omega)⟩
  obtain ⟨o, h1, h2⟩ := (hr _ e.symm).2
  have h3 : A.heap[w.heap.size]? = some (.cells #[v] 152 (0, 0)) := hb
  rw [h3] at h1; cases h1; cases h2
/-- the round's variable lies in a block of its own -/
def CoA (w : World) (tm : Value → Value → Array Value) (x : Ky) (a : Act) (W : World) : Prop :=
  ∃ b, w.heap.size < b ∧ W.heap[b]? = some (.cells (encK x).toArray 123 (0, 0)) ∧ a = { tmps := tm (.pointer (some ⟨b, 0, none⟩)) (.agg (encK x).toArray), defers := [] }
theorem CoA.own (w : World) (tm : Value → Value → Array Value) (x : Ky) (a : Act) (B : Nat) : OwnFrom B (fun (_ : Unit) W => CoA w tm x a W) := fun s A C row hs hg hr => by
  obtain ⟨b, h1, h2, h3⟩ := hs
  refine ⟨b, h1, ?_, h3⟩
  rw [hg.block b (Array.getElem?_eq_some_iff.1 h2).1 (fun e => ?_)]
  · exact h2
  · obtain ⟨o, h4, h5⟩ := (hr _ e.symm).2
    rw [h2] at h4; cases h4; cases h5
theorem boxed_setCell {W : World} {B : Nat} {t : TypeId} {v : Value} (h : Boxed W B t v) (v' : Value) : Boxed (W.setCell ⟨B, 0, none⟩ v') B t v' := h.set v'
theorem wpIn_append1 {α : Type} {R : Row α} (ok : R.Ok) {F : Fence} {nF : Nat} {ops : Array Oper} {rest : List Oper} {o : Oper} {a : Act} {Q : Exit → Act → World → Prop} (hgd : o.guard = none) (s t : Operand)
    (ho : o.op = .call { callee := .builtin .append, args := #[s, t], argTypes := #[R.S, R.S] })
    (B : Nat) (v : Value) (ns : List α) (w : World) (x : α) (cs : Array Value) (E' : TypeId) (hcs : cs = (R.enc x).toArray) (hE : E' = R.E) (hs : a.eval s = v) (hown : R.Own B w v ns) (hx : a.eval t = .slice (some ⟨w.heap.size, 0, none⟩) 1 1)
    (hB : B ≤ w.heap.size) (hn : ns.length + 1 ≤ 1000000)
    (h : ∀ v' w', R.Own B w' v' (ns ++ [x]) → (w.alloc (.cells cs E')).grownBy w' v.ownBlock → wpListIn F nF Tryz.prog ops Q rest (a.put o.dst v') w') : wpListIn F nF Tryz.prog ops Q (o :: rest) a (w.alloc (.cells cs E')) := by
  refine wpListIn_plain hgd fun K hK => ?_
  subst hcs hE
  obtain ⟨v', w', hr, h2, h3, h5⟩ := Row.run_append ok B o.type v ns (w.alloc (.cells (R.enc x).toArray R.E)) _ 1 1 [x] (hown.alloc _) (Row.rds_one ok w x R.E) (by simp; omega) hn
  unfold Oper.wpIn
  refine ⟨by simp [Oper.about, ho, resolve, Target.leads, Sem.run_pure], ?_⟩
  rw [Oper.semAt_plain F _ _ (by rw [ho]; intro c hc'; cases hc')]
  simp [execOp, ho, resolve, invoke, builtin, hs, hx, hr, Result.andThen]
  exact hK _ _ (h v' w' h2 h3)
set_option maxRecDepth 100000 in
set_option maxHeartbeats 4000000 in
theorem appSeq_in (d : Nat) (hd : 3 ≤ d) (gf : Nat) (lb : Array Value) (S : List Ky → Prop) (N : Nat) (hN : N ≤ 10000) (w : World) (eg : ∀ args w, (callFunc gf args).run Tryz.prog w = .ok (.enter gf args) w)
    (hseq : SeqStopsK Fence.wide (d - 1) Tryz.prog gf lb (fun q : Ky => #[Value.agg (encK q).toArray]) KeepsWalks S (fun _ => True) N w) (_hS : ∀ ss, S ss → ss.length ≤ N) :
    CallsIn Fence.wide d Tryz.prog 182 #[.slice none 0 0, .func (.func gf) #[] lb] w fun e w' => ∃ v ss, e = .returned v ∧ S ss ∧ rowK.Own w.heap.size w' v ss ∧ Below w.heap.size w w' := by
  refine callsIn_of_wp_marks Tryz.func182 rfl trivial ?_ rfl
  simp only [Tryz.ntmps182, List.size_toArray, List.length_cons, List.length_nil, Nat.reduceAdd, Nat.reduceSub, Array.replicate_succ, Array.replicate_zero, List.push_toArray, List.append_toArray, List.nil_append, List.cons_append]
  gi_wp2
  have hb0 : Below w.heap.size w (w.alloc (.cells #[.slice none 0 0] 152)) := (Below.refl _ w).alloc (Nat.le_refl _) _
  refine wpIn_rangeFunc_ownH rfl (by omega) (gf := gf) (lb := lb) rfl trivial eg hseq (fun h k => h.trans k) (fun W l o o' _ hl ho hw => KeepsWalks.putObj _ hl hw) hb0 (fun _ => rfl)
    (CoI w) (fun _ _ _ => False) (CoI.own w _ (by simp)) (fun _ _ _ _ _ hs _ _ => hs) ⟨⟨_, Boxed.new w 152 (.slice none 0 0), Row.Own.nil _ _⟩, hb0⟩
    (CoA w (fun p v => #[.slice none 0 0, .func (.func gf) #[] lb, .pointer (some ⟨w.heap.size, 0, none⟩), undef, .slice none 0 0, p, .func (.func gf) #[] lb, v, undef, undef, undef, undef, undef])) (fun x a' => CoA.own w _ x a' _) ?assign ?body ?done ?stop
  case assign =>
    intro l pre x W K hI hK
    obtain ⟨xa, xc⟩ := x
    simp only [encK] at *
    gi_wp2
    obtain ⟨v, hv, ho⟩ := hI.box
    have hlt := hv.lt
    have hB := hI.bel
    exact hK _ _ ((KeepsOthers.alloc _ _).from _) (KeepsWalks.alloc _ _) ⟨⟨v, hv.alloc _, ho.alloc _⟩, hB.alloc hB.size _⟩ ⟨W.heap.size, hlt, World.alloc_heap_new W _, rfl⟩
  case body =>
    rintro l pre x a' W hl ⟨r, hr⟩ hI ⟨bx, hbx1, hbx2, rfl⟩ hlen
    obtain ⟨v, hv, ho⟩ := hI.box
    have HB := Lib.hid hI.bel
    have HO := Lib.hid ho
    have HV := Lib.hid hv
    have hc := hv.cell
    have hf := hv.frozen
    have hlt := hv.lt
    obtain ⟨xa, xc⟩ := x
    simp only [encK] at *
    have c0 : W.cell? ⟨bx, 0, none⟩ = some (.string ⟨xa.toArray⟩) := by rw [cell_of_row _ _ _ _ _ _ hbx2]; rfl
    have c1 : W.cell? ⟨bx, 1, none⟩ = some (.string ⟨xc.toArray⟩) := by rw [cell_of_row _ _ _ _ _ _ hbx2]; rfl
    clear hI hv ho hbx2
    gi_wp2_with (first
      | (gi_at_builtin; refine wpIn_append1 rowK_ok rfl (.tmp 8) (.tmp 10) rfl w.heap.size _ pre W (xa, xc) _ _ rfl rfl rfl HO.out rfl HB.out.size (by omega) ?_; intro v1 w5 ho5 hg5; obtain ⟨A5, c5, rfl⟩ := ho5.slice; obtain ⟨k1, k2, k3, k4, k5⟩ := HV.out.appended (by decide) HO.out HB.out.size (Nat.le_refl _) ho5 hg5; have hc5 := k1.cell; have hf5 := k1.frozen)
      | gi_in)
    have e : (pre ++ [(xa, xc)]).length = pre.length + 1 := by simp
    rw [e] at k2 k3 k4 k5
    have o3 : rowK.Own w.heap.size (w5.setCell ⟨w.heap.size, 0, none⟩ (.slice A5 (pre.length + 1) c5)) (.slice A5 (pre.length + 1) c5) (pre ++ [(xa, xc)]) := by unfold Row.Own; rw [e]; exact k3
    exact ⟨k4.from _, ⟨k4.size, fun k o hk ho => k4.same k o hk (by cases o <;> first | rfl | cases ho)⟩, ⟨⟨_, k2, o3⟩, HB.out.trans k5⟩⟩
  case done =>
    rintro D ys W hD hys hI hK
    obtain ⟨v, hv, ho⟩ := hI.box
    have hB := Lib.hid hI.bel
    have c0 := hv.cell
    have hD2 : w.heap.size < D := by simp at hD; omega
    have HO := Lib.hid (ho.kept' (grownBy_putObj' W D (.deferred none)) (own_ne ho fun r e => by cases e; exact ⟨_, hK, rfl⟩))
    clear hv ho hI
    gi_wp2
    refine ⟨by simp, .inl ⟨_, _, rfl, run_takeDeferred hK, ?_⟩⟩
    exact ⟨_, results_tmp rfl _ _ _, v, ys, rfl, hys, HO.out, hB.out.trans (belowK_b (w := w) (Nat.le_refl _) W D _ _ (by omega) hK rfl rfl)⟩
  case stop =>
    rintro D c pre W _ _ h _
    exact h.elim
set_option maxRecDepth 100000 in
theorem collect_in (d : Nat) (hd : 4 ≤ d) (gf : Nat) (lb : Array Value) (S : List Ky → Prop) (N : Nat) (hN : N ≤ 10000) (w : World) (eg : ∀ args w, (callFunc gf args).run Tryz.prog w = .ok (.enter gf args) w)
    (hseq : SeqStopsK Fence.wide (d - 1 - 1) Tryz.prog gf lb (fun q : Ky => #[Value.agg (encK q).toArray]) KeepsWalks S (fun _ => True) N w) (hS : ∀ ss, S ss → ss.length ≤ N) :
    CallsIn Fence.wide d Tryz.prog 159 #[.func (.func gf) #[] lb] w fun e w' => ∃ v ss, e = .returned v ∧ S ss ∧ rowK.Own w.heap.size w' v ss ∧ Below w.heap.size w w' := by
  have HA := Lib.hid (appSeq_in (d - 1) (by omega) gf lb S N hN w eg hseq hS)
  clear hseq
  refine callsIn_of_wp Tryz.func159 rfl trivial ?_ rfl
  simp only [Tryz.ntmps159, List.size_toArray, List.length_cons, List.length_nil, Nat.reduceAdd, Nat.reduceSub, Array.replicate_succ, Array.replicate_zero, List.push_toArray, List.append_toArray, List.nil_append, List.cons_append]
  gi_wp2_with (refine ⟨trivial, fun h => (by cases h), ?_⟩; refine HA.out.mono ?_; rintro e w' ⟨v, ss, rfl, hs, ho, hb⟩; have HO := Lib.hid ho; have HB := Lib.hid hb; clear ho hb)
  go_ret
  exact ⟨v, ss, rfl, hs, HO.out, HB.out⟩
end Go.Proofs.YtejaehmoplohdaaGreatDoor
