/- Contracts of segments, formed (with Name), Check. -/
import Derived.Test.YtklmgogppljolaaDoorIter
namespace Go.Proofs.YtklmgogppljolaaDoor
open Go.RowKit Go.Shelf
attribute [local go_sem] Oper.semAt_some

theorem segments_any (s : ByteArray) (w : World) : Calls Tryd.prog 20 #[.string s] w fun e w' => e = .returned (.func (.func 29) #[] #[.pointer (some ⟨w.heap.size, 0, none⟩)]) ∧ w' = w.alloc (.cells #[.string s] 9) := by
  go_enter Tryd.func20, Tryd.ntmps20
  go_wp2_with fail
  go_ret
  exact ⟨rfl, rfl⟩
/-- what the loop in formed keeps in memory -/
structure FI (w : World) (cv : Value) (k : Int) (W : World) : Prop where
  hc : Boxed W w.heap.size 22 cv
  hr : Boxed W (w.heap.size + 1) 4 (.bool false)
  hn : Boxed W (w.heap.size + 1 + 1) 3 (.int .i64 k)
  bel : Below w.heap.size w W
  sz : w.heap.size + 4 ≤ W.heap.size
theorem FI.grown {w W W' : World} {cv : Value} {k : Int} {row : Option Nat} (h : FI w cv k W) (hg : W.grownBy W' row) (hrow : ∀ r, row = some r → w.heap.size + 2 < r) : FI w cv k W' :=
  ⟨h.hc.kept hg (fun e => by have := hrow _ e.symm; omega), h.hr.kept hg (fun e => by have := hrow _ e.symm; omega), h.hn.kept hg (fun e => by have := hrow _ e.symm; omega), h.bel.grown hg h.bel.size (fun k e => by have := hrow k e; omega), Nat.le_trans h.sz hg.size⟩
theorem FI.below {w W W' : World} {cv : Value} {k : Int} (h : FI w cv k W) (hb : Below W.heap.size W W') : FI w cv k W' :=
  ⟨(hb.block _ h.hc.lt).trans h.hc, (hb.block _ h.hr.lt).trans h.hr, (hb.block _ h.hn.lt).trans h.hn, h.bel.trans (hb.mono h.bel.size), Nat.le_trans h.sz hb.size⟩
theorem FI.count {w W : World} {cv : Value} {k : Int} (h : FI w cv k W) (k' : Int) : FI w cv k' (W.setCell ⟨w.heap.size + 1 + 1, 0, none⟩ (.int .i64 k')) :=
  ⟨h.hc.other (by omega) _, h.hr.other (by omega) _, h.hn.set _, h.bel.setCell (p := ⟨w.heap.size + 1 + 1, 0, none⟩) (by simp; omega) _, by have := h.sz; simpa using this⟩
theorem keeps_of_below {W W' : World} (h : Below W.heap.size W W') : KeepsOthers W W' := ⟨h.size, fun k _ hk _ => (h.block k (Array.getElem?_eq_some_iff.1 hk).1).trans hk⟩
theorem two_of_below {bs : Nat} {W W' : World} (h : Below W.heap.size W W') (h1 : bs < W.heap.size) : Two bs W W' := ⟨h.block _ h1, h.block _ (by omega)⟩
theorem two_of_set {bs b : Nat} (W : World) (v : Value) (h1 : bs ≠ b) (h0 : b ≠ 0) : Two bs W (W.setCell ⟨b, 0, none⟩ v) := ⟨Below.heap_setCell _ _ _ _ h1, Below.heap_setCell _ _ _ _ (fun e => h0 e.symm)⟩

def codeB (l : List UInt8) : Bool := decide ((segs l).length ≤ 6) && (segs l).all nameB
set_option maxRecDepth 100000 in
set_option maxHeartbeats 2000000 in
theorem formed_name (d : Nat) (hd : 1 ≤ d) (s : ByteArray) (w : World) (hs : s.size < 4294967281) (hm : ML w) :
    CallsIn Fence.wide d Tryd.prog 18 #[.string s, .func (.func 5) #[] #[]] w fun e w' => e = .returned (.bool (codeB s.data.toList)) ∧ Below w.heap.size w w' := by
  refine callsIn_of_wp_marks Tryd.func18 rfl trivial ?_ rfl
  simp only [Tryd.ntmps18, List.size_toArray, List.length_cons, List.length_nil, Nat.reduceAdd, Nat.reduceSub, Array.replicate_succ, Array.replicate_zero, List.push_toArray, List.append_toArray, List.nil_append, List.cons_append]
  gi_wp2_with (refine ⟨trivial, ?_⟩; refine (callsIn_wide.2 (segments_any _ _)).mono ?_; rintro e w' ⟨rfl, rfl⟩)
  obtain ⟨l, hl⟩ : ∃ l, l = s.data.toList := ⟨_, rfl⟩
  have hsl : s = ⟨l.toArray⟩ := by rw [hl]
  have HL := Lib.hid hl
  have hlen : l.length < 4294967281 := by rw [hl]; exact hs
  have b0 := Boxed.new w 22 (.func (.func 5) #[] #[])
  have b1 := Boxed.new (w.alloc (.cells #[.func (.func 5) #[] #[]] 22)) 4 (.bool false)
  have b2 := Boxed.new ((w.alloc (.cells #[.func (.func 5) #[] #[]] 22)).alloc (.cells #[.bool false] 4)) 3 (.int .i64 0)
  have b3 := Boxed.new (((w.alloc (.cells #[.func (.func 5) #[] #[]] 22)).alloc (.cells #[.bool false] 4)).alloc (.cells #[.int .i64 0] 3)) 9 (.string s)
  simp only [World.size_alloc] at b1 b2 b3
  have hB0 : Below w.heap.size w ((((w.alloc (.cells #[.func (.func 5) #[] #[]] 22)).alloc (.cells #[.bool false] 4)).alloc (.cells #[.int .i64 0] 3)).alloc (.cells #[.string s] 9)) := ((((Below.refl _ w).alloc (Nat.le_refl _) _).alloc (by simp) _).alloc (by simp; omega) _).alloc (by simp; omega) _
  have hF0 : FI w (.func (.func 5) #[] #[]) 0 ((((w.alloc (.cells #[.func (.func 5) #[] #[]] 22)).alloc (.cells #[.bool false] 4)).alloc (.cells #[.int .i64 0] 3)).alloc (.cells #[.string s] 9)) := ⟨((b0.alloc _).alloc _).alloc _, (b1.alloc _).alloc _, b2.alloc _, hB0, by simp⟩
  have hsz : ((((w.alloc (.cells #[.func (.func 5) #[] #[]] 22)).alloc (.cells #[.bool false] 4)).alloc (.cells #[.int .i64 0] 3)).alloc (.cells #[.string s] 9)).heap.size = w.heap.size + 4 := by simp
  generalize ((((w.alloc (.cells #[.func (.func 5) #[] #[]] 22)).alloc (.cells #[.bool false] 4)).alloc (.cells #[.int .i64 0] 3)).alloc (.cells #[.string s] 9)) = W0 at *
  rw [hsl] at b3
  have HSL := Lib.hid hsl
  have HSZ := Lib.hid hsz
  have hW0 : w.heap.size + 4 ≤ W0.heap.size := by omega
  clear hl hsl hsz
  have hml := hm.below hB0
  have hwp := hm.lt
  refine range_box rfl hd (gf := 29) (lb := #[.pointer (some ⟨w.heap.size + 1 + 1 + 1, 0, none⟩)]) rfl trivial (enters_of Tryd.func29 (by kernel_rfl) rfl) (w.heap.size + 1 + 1 + 1) (by omega)
    (seg_stops (d - 1) (w.heap.size + 1 + 1 + 1) l W0 b3 hlen hml (by omega) (by omega)) (fun _ => rfl)
    (fun pre W => (pre.length ≤ 6 ∧ (pre.map (·.1)).all nameB = true) ∧ FI w (.func (.func 5) #[] #[]) pre.length W)
    (fun pre W => (6 < pre.length ∨ (pre.map (·.1)).all nameB = false) ∧ ∃ k, FI w (.func (.func 5) #[] #[]) k W)
    (fun s A B row hs hg hr => ⟨hs.1, hs.2.grown hg (fun r e => by have := (hr r e).1; omega)⟩)
    (fun s A B row hs hg hr => ⟨hs.1, hs.2.imp fun k hk => hk.grown hg (fun r e => by have := (hr r e).1; omega)⟩)
    (fun s A B hs hg => ⟨hs.1, hs.2.grown hg (fun r e => by cases e; omega)⟩)
    (fun s A B hs hg => ⟨hs.1, hs.2.imp fun k hk => hk.grown hg (fun r e => by cases e; omega)⟩)
    ⟨⟨by simp, rfl⟩, hF0⟩
    (fun x => { tmps := #[.string s, .func (.func 5) #[] #[], undef, .pointer (some ⟨w.heap.size, 0, none⟩), .pointer (some ⟨w.heap.size + 1, 0, none⟩), .pointer (some ⟨w.heap.size + 1 + 1, 0, none⟩), .string ⟨x.1.toArray⟩, .string s, .func (.func 29) #[] #[.pointer (some ⟨w.heap.size + 1 + 1 + 1, 0, none⟩)], .string ⟨x.1.toArray⟩, undef, undef, undef, undef, undef, undef, undef, undef, undef, undef], defers := [] }) ?assign ?body ?done ?stop
  case assign =>
    intro l x W K hK
    gi_wp2
    exact hK
  case body =>
    rintro lp pre x W ⟨⟨hp6, hpa⟩, hF⟩ _
    have c0 := hF.hc.cell
    have c2 := hF.hn.cell
    have f2 := hF.hn.frozen
    have c1 := hF.hr.cell
    have f1 := hF.hr.frozen
    have hF2 := hF.count ((pre.length : Int) + 1)
    have HPA := Lib.hid hpa
    have hw := hF.hn.lt
    have hsz4 := hF.sz
    have hall : ((pre ++ [x]).map (·.1)).all nameB = nameB x.1 := by rw [List.map_append, List.all_append, hpa]; simp
    have HALL := Lib.hid hall
    clear hpa hall b0 b1 b2 b3 hF0 hB0
    by_cases h6 : 6 < (pre.length : Int) + 1
    · gi_wp2
      refine ⟨fun _ h => (by cases h), ?_⟩
      gi_wp2
      refine ⟨((KeepsOthers.setCell _ _ _).trans (KeepsOthers.setCell _ _ _)).from _, .inl (by simp; omega), (pre.length : Int) + 1, ?_⟩
      exact ⟨hF2.hc.other (by omega) _, hF2.hr.set _, hF2.hn.other (by omega) _, hF2.bel.setCell (p := ⟨w.heap.size + 1, 0, none⟩) (by simp) _, by have := hF2.sz; simpa using this⟩
    · have hname : ∀ W, CallsIn (Fence.wide.inRound lp) (d - 1 - 1 - 1) Tryd.prog 5 #[.string ⟨x.1.toArray⟩] W fun e w' => e = .returned (.bool (nameB x.1)) ∧ Below W.heap.size W w' := fun W =>
        CallsIn.inRound lp (callsIn_wide.2 (name_any ⟨x.1.toArray⟩ W (by have := x.2; unfold maxLen; show x.1.length ≤ _; omega)))
      have HN := Lib.hid hname
      clear hname
      cases hnx : nameB x.1
      · gi_wp2_with (refine ⟨trivial, fun h => (by cases h), ?_⟩; refine (HN.out _).mono ?_; rintro e W3 ⟨rfl, hb3⟩; rw [hnx]; have hF3 := hF2.below hb3; have hb3c := hF3.hr.cell; have hb3f := hF3.hr.frozen)
        refine ⟨(((KeepsOthers.setCell _ _ _).trans (keeps_of_below hb3)).trans (KeepsOthers.setCell _ _ _)).from _, .inr (by rw [HALL.out, hnx]), (pre.length : Int) + 1, ?_⟩
        exact ⟨hF3.hc.other (by omega) _, hF3.hr.set _, hF3.hn.other (by omega) _, hF3.bel.setCell (p := ⟨w.heap.size + 1, 0, none⟩) (by simp) _, by have := hF3.sz; simpa using this⟩
      · gi_wp2_with (refine ⟨trivial, fun h => (by cases h), ?_⟩; refine (HN.out _).mono ?_; rintro e W3 ⟨rfl, hb3⟩; rw [hnx])
        have hF3 := hF2.below hb3
        refine ⟨((KeepsOthers.setCell _ _ _).trans (keeps_of_below hb3)).from _, (two_of_set W _ (by omega) (by omega)).trans (two_of_below hb3 (by have := hF2.sz; omega)), ⟨by simp; omega, by rw [HALL.out, hnx]⟩, ?_⟩
        have e : ((pre ++ [x]).length : Int) = (pre.length : Int) + 1 := by simp
        rw [e]
        exact hF3
  case done =>
    rintro D ys W hD hys ⟨⟨h6, hall⟩, hF⟩ hK
    have hcode := Lib.hid (show codeB s.data.toList = true by
      rw [← HL.out, codeB, ← hys, hall, List.length_map, decide_eq_true h6]; rfl)
    have c1 := hF.hr.cell
    have f1 := hF.hr.frozen
    clear b0 b1 b2 b3 hF0 hB0 hys hall
    gi_wp2
    have hK' := (KeepsOthers.setCell W ⟨w.heap.size + 1, 0, none⟩ (.bool true)).same D _ hK rfl
    refine ⟨by simp, .inl ⟨_, _, rfl, run_takeDeferred hK', ?_⟩⟩
    have hc5 := cell_kept (World.cell?_setCell_same' W ⟨w.heap.size + 1, 0, none⟩ (.bool true) (by rw [c1]; rfl)) (grownBy_putObj' _ D (.deferred none)) (fun r e => by cases e; exact ⟨_, hK', rfl⟩)
    refine ⟨.bool true, ?_, by rw [hcode.out], (hF.bel.setCell (p := ⟨w.heap.size + 1, 0, none⟩) (by simp) _).trans (belowK_b (w := w) (Nat.le_refl _) _ D _ _ (by omega) hK' rfl rfl)⟩
    simp [results, Tryd.f18, go_sem, hc5]
  case stop =>
    rintro D pre W hD hpre ⟨hbad, k, hF⟩ hK
    have hcode := Lib.hid (show codeB s.data.toList = false by
      obtain ⟨r, hr⟩ := hpre
      rw [← HL.out, codeB, ← hr]
      rcases hbad with h | h
      · rw [decide_eq_false (by rw [List.length_append, List.length_map]; omega)]; rfl
      · rw [List.all_append, h]; simp)
    have c1 := hF.hr.cell
    clear b0 b1 b2 b3 hF0 hB0 hpre
    gi_wp2
    refine ⟨by simp, .inl ⟨_, _, rfl, run_takeDeferred hK, ?_⟩⟩
    have hc5 := cell_kept c1 (grownBy_putObj' _ D (.deferred none)) (fun r e => by cases e; exact ⟨_, hK, rfl⟩)
    refine ⟨.bool false, ?_, by rw [hcode.out], hF.bel.trans (belowK_b (w := w) (Nat.le_refl _) W D _ _ (by omega) hK rfl rfl)⟩
    simp [results, Tryd.f18, go_sem, hc5]
theorem formed_any (s : ByteArray) (w : World) (hs : s.size < 4294967281) (hm : ML w) :
    Calls Tryd.prog 18 #[.string s, .func (.func 5) #[] #[]] w fun e w' => e = .returned (.bool (codeB s.data.toList)) ∧ Below w.heap.size w w' := (callsIn_wide (n := 3)).1 (formed_name 3 (by omega) s w hs hm)
def chk (l : List UInt8) : Int := if codeB l then 0 else 3
theorem Check_any (s : ByteArray) (w : World) (hs : s.size < 4294967281) (hm : ML w) : Calls Tryd.prog 8 #[.string s] w fun e w' => e = .returned (.int .i64 (chk s.data.toList)) ∧ Below w.heap.size w w' := by
  have hc := Lib.hid (show chk s.data.toList = if codeB s.data.toList then 0 else 3 from rfl)
  have hf := Lib.hid (formed_any s w hs hm)
  generalize chk s.data.toList = c at *
  cases hb : codeB s.data.toList
  · go_enter Tryd.func8, Tryd.ntmps8
    go_wp2_with fail
    refine hf.out.mono ?_
    rintro e w1 ⟨rfl, hb1⟩
    rw [hb]
    go_wp2_with fail
    go_ret
    exact ⟨by rw [hc.out, hb]; rfl, hb1⟩
  · go_enter Tryd.func8, Tryd.ntmps8
    go_wp2_with fail
    refine hf.out.mono ?_
    rintro e w1 ⟨rfl, hb1⟩
    rw [hb]
    go_wp2_with fail
    go_ret
    exact ⟨by rw [hc.out, hb]; rfl, hb1⟩
end Go.Proofs.YtklmgogppljolaaDoor
