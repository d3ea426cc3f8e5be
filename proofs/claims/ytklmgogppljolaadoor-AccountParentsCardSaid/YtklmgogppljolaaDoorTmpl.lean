/- Contracts of names, its closure, and formed with the condition of a template. -/
import Derived.Test.YtklmgogppljolaaDoorForm
namespace Go.Proofs.YtklmgogppljolaaDoor
open Go.RowKit Go.Shelf
attribute [local go_sem] Oper.semAt_some

/-- a segment of a template -/
def tc (x : List UInt8) : Bool := decide (x = [42]) || decide (x = [43]) || nameB x
def codeT (l : List UInt8) : Bool := decide ((segs l).length ≤ 6) && (segs l).all tc
/-- what stands for a segment -/
def rep (one two x : List UInt8) : List UInt8 := if x = [42] then one else if x = [43] then two else x
def sgn (x : List UInt8) : Bool := decide (x = [42]) || decide (x = [43])
theorem names1_any (x : List UInt8) (one two : ByteArray) (b1 b2 : Nat) (w : World) (h1 : w.cell? ⟨b1, 0, none⟩ = some (.string one)) (h2 : w.cell? ⟨b2, 0, none⟩ = some (.string two)) :
    Calls Tryd.prog 28 #[.string ⟨x.toArray⟩, .pointer (some ⟨b1, 0, none⟩), .pointer (some ⟨b2, 0, none⟩)] w fun e w' => e = .returned (.tuple #[.string ⟨(rep one.data.toList two.data.toList x).toArray⟩, .bool (sgn x)]) ∧ w = w' := by
  by_cases e1 : x = [42]
  · subst e1
    go_enter Tryd.func28, Tryd.ntmps28
    go_wp2_with fail
    go_ret2
    exact ⟨rfl, rfl⟩
  · by_cases e2 : x = [43]
    · subst e2
      go_enter Tryd.func28, Tryd.ntmps28
      go_wp2_with fail
      go_ret2
      exact ⟨rfl, rfl⟩
    · have hr := Lib.hid (show rep one.data.toList two.data.toList x = x ∧ sgn x = false by simp [rep, sgn, e1, e2])
      have d1 : (x == [42]) = false := by simp [e1]
      have d2 : (x == [43]) = false := by simp [e2]
      clear e1 e2
      go_enter Tryd.func28, Tryd.ntmps28
      go_wp2_with fail
      go_ret2
      exact ⟨by rw [hr.out.1, hr.out.2]; rfl, rfl⟩
theorem names_any (one two : ByteArray) (w : World) : Calls Tryd.prog 17 #[.string one, .string two] w fun e w' => e = .returned (.func (.func 28) #[] #[.pointer (some ⟨w.heap.size, 0, none⟩), .pointer (some ⟨w.heap.size + 1, 0, none⟩)]) ∧ w' = (w.alloc (.cells #[.string one] 9)).alloc (.cells #[.string two] 9) := by
  go_enter Tryd.func17, Tryd.ntmps17
  go_wp2_with fail
  go_ret
  exact ⟨rfl, rfl⟩
theorem tc_any (x : Seg) (one two : ByteArray) (rb b1 b2 : Nat) (w : World) (h0 : w.cell? ⟨rb, 0, none⟩ = some (.func (.func 28) #[] #[.pointer (some ⟨b1, 0, none⟩), .pointer (some ⟨b2, 0, none⟩)]))
    (h1 : w.cell? ⟨b1, 0, none⟩ = some (.string one)) (h2 : w.cell? ⟨b2, 0, none⟩ = some (.string two)) :
    Calls Tryd.prog 19 #[.string ⟨x.1.toArray⟩, .pointer (some ⟨rb, 0, none⟩)] w fun e w' => e = .returned (.bool (tc x.1)) ∧ Below w.heap.size w w' := by
  have hx : (⟨x.1.toArray⟩ : ByteArray).size ≤ maxLen := by have := x.2; unfold maxLen; show x.1.length ≤ _; omega
  have x1 := fun w' (e : w = w') => names1_any x.1 one two b1 b2 w' (by rw [← e]; exact h1) (by rw [← e]; exact h2)
  have x2 := fun w' => name_any ⟨x.1.toArray⟩ w' hx
  have ht := Lib.hid (show tc x.1 = (sgn x.1 || nameB x.1) from rfl)
  generalize rep one.data.toList two.data.toList x.1 = R at *
  generalize tc x.1 = T at *
  have X := Lib.hid (And.intro x1 x2)
  clear x1 x2 h1 h2 hx
  cases hs : sgn x.1
  · go_enter Tryd.func19, Tryd.ntmps19
    go_wp2_with fail
    refine (X.out.1 _ rfl).mono ?_
    rintro e w1 ⟨rfl, rfl⟩
    rw [hs]
    go_wp2_with fail
    refine (X.out.2 _).mono ?_
    rintro e w2 ⟨rfl, hb2⟩
    go_wp2_with fail
    go_ret
    exact ⟨by rw [ht.out, hs]; rfl, hb2⟩
  · go_enter Tryd.func19, Tryd.ntmps19
    go_wp2_with fail
    refine (X.out.1 _ rfl).mono ?_
    rintro e w1 ⟨rfl, rfl⟩
    rw [hs]
    go_wp2_with fail
    go_ret
    exact ⟨by rw [ht.out, hs]; rfl, Below.refl _ _⟩
set_option maxRecDepth 100000 in
set_option maxHeartbeats 2000000 in
theorem formed_tc (d : Nat) (hd : 1 ≤ d) (rb : Nat) (s : ByteArray) (w : World) (hs : s.size < 4294967281) (hm : ML w)
    (hcond : ∀ (x : Seg) (W : World), Below w.heap.size w W → Calls Tryd.prog 19 #[.string ⟨x.1.toArray⟩, .pointer (some ⟨rb, 0, none⟩)] W fun e w' => e = .returned (.bool (tc x.1)) ∧ Below W.heap.size W w') :
    CallsIn Fence.wide d Tryd.prog 18 #[.string s, .func (.func 19) #[] #[.pointer (some ⟨rb, 0, none⟩)]] w fun e w' => e = .returned (.bool (codeT s.data.toList)) ∧ Below w.heap.size w w' := by
  have HCO := Lib.hid hcond
  clear hcond
  refine callsIn_of_wp_marks Tryd.func18 rfl trivial ?_ rfl
  simp only [Tryd.ntmps18, List.size_toArray, List.length_cons, List.length_nil, Nat.reduceAdd, Nat.reduceSub, Array.replicate_succ, Array.replicate_zero, List.push_toArray, List.append_toArray, List.nil_append, List.cons_append]
  gi_wp2_with (refine ⟨trivial, ?_⟩; refine (callsIn_wide.2 (segments_any _ _)).mono ?_; rintro e w' ⟨rfl, rfl⟩)
  obtain ⟨l, hl⟩ : ∃ l, l = s.data.toList := ⟨_, rfl⟩
  have hsl : s = ⟨l.toArray⟩ := by rw [hl]
  have HL := Lib.hid hl
  have hlen : l.length < 4294967281 := by rw [hl]; exact hs
  have b0 := Boxed.new w 22 (.func (.func 19) #[] #[.pointer (some ⟨rb, 0, none⟩)])
  have b1 := Boxed.new (w.alloc (.cells #[.func (.func 19) #[] #[.pointer (some ⟨rb, 0, none⟩)]] 22)) 4 (.bool false)
  have b2 := Boxed.new ((w.alloc (.cells #[.func (.func 19) #[] #[.pointer (some ⟨rb, 0, none⟩)]] 22)).alloc (.cells #[.bool false] 4)) 3 (.int .i64 0)
  have b3 := Boxed.new (((w.alloc (.cells #[.func (.func 19) #[] #[.pointer (some ⟨rb, 0, none⟩)]] 22)).alloc (.cells #[.bool false] 4)).alloc (.cells #[.int .i64 0] 3)) 9 (.string s)
  simp only [World.size_alloc] at b1 b2 b3
  have hB0 : Below w.heap.size w ((((w.alloc (.cells #[.func (.func 19) #[] #[.pointer (some ⟨rb, 0, none⟩)]] 22)).alloc (.cells #[.bool false] 4)).alloc (.cells #[.int .i64 0] 3)).alloc (.cells #[.string s] 9)) := ((((Below.refl _ w).alloc (Nat.le_refl _) _).alloc (by simp) _).alloc (by simp; omega) _).alloc (by simp; omega) _
  have hF0 : FI w (.func (.func 19) #[] #[.pointer (some ⟨rb, 0, none⟩)]) 0 ((((w.alloc (.cells #[.func (.func 19) #[] #[.pointer (some ⟨rb, 0, none⟩)]] 22)).alloc (.cells #[.bool false] 4)).alloc (.cells #[.int .i64 0] 3)).alloc (.cells #[.string s] 9)) := ⟨((b0.alloc _).alloc _).alloc _, (b1.alloc _).alloc _, b2.alloc _, hB0, by simp⟩
  have hsz : ((((w.alloc (.cells #[.func (.func 19) #[] #[.pointer (some ⟨rb, 0, none⟩)]] 22)).alloc (.cells #[.bool false] 4)).alloc (.cells #[.int .i64 0] 3)).alloc (.cells #[.string s] 9)).heap.size = w.heap.size + 4 := by simp
  generalize ((((w.alloc (.cells #[.func (.func 19) #[] #[.pointer (some ⟨rb, 0, none⟩)]] 22)).alloc (.cells #[.bool false] 4)).alloc (.cells #[.int .i64 0] 3)).alloc (.cells #[.string s] 9)) = W0 at *
  rw [hsl] at b3
  have HSL := Lib.hid hsl
  have HSZ := Lib.hid hsz
  have hW0 : w.heap.size + 4 ≤ W0.heap.size := by omega
  clear hl hsl hsz
  have hml := hm.below hB0
  have hwp := hm.lt
  refine range_box rfl hd (gf := 29) (lb := #[.pointer (some ⟨w.heap.size + 1 + 1 + 1, 0, none⟩)]) rfl trivial (enters_of Tryd.func29 (by kernel_rfl) rfl) (w.heap.size + 1 + 1 + 1) (by omega)
    (seg_stops (d - 1) (w.heap.size + 1 + 1 + 1) l W0 b3 hlen hml (by omega) (by omega)) (fun _ => rfl)
    (fun pre W => (pre.length ≤ 6 ∧ (pre.map (·.1)).all tc = true) ∧ FI w (.func (.func 19) #[] #[.pointer (some ⟨rb, 0, none⟩)]) pre.length W)
    (fun pre W => (6 < pre.length ∨ (pre.map (·.1)).all tc = false) ∧ ∃ k, FI w (.func (.func 19) #[] #[.pointer (some ⟨rb, 0, none⟩)]) k W)
    (fun s A B row hs hg hr => ⟨hs.1, hs.2.grown hg (fun r e => by have := (hr r e).1; omega)⟩)
    (fun s A B row hs hg hr => ⟨hs.1, hs.2.imp fun k hk => hk.grown hg (fun r e => by have := (hr r e).1; omega)⟩)
    (fun s A B hs hg => ⟨hs.1, hs.2.grown hg (fun r e => by cases e; omega)⟩)
    (fun s A B hs hg => ⟨hs.1, hs.2.imp fun k hk => hk.grown hg (fun r e => by cases e; omega)⟩)
    ⟨⟨by simp, rfl⟩, hF0⟩
    (fun x => { tmps := #[.string s, .func (.func 19) #[] #[.pointer (some ⟨rb, 0, none⟩)], undef, .pointer (some ⟨w.heap.size, 0, none⟩), .pointer (some ⟨w.heap.size + 1, 0, none⟩), .pointer (some ⟨w.heap.size + 1 + 1, 0, none⟩), .string ⟨x.1.toArray⟩, .string s, .func (.func 29) #[] #[.pointer (some ⟨w.heap.size + 1 + 1 + 1, 0, none⟩)], .string ⟨x.1.toArray⟩, undef, undef, undef, undef, undef, undef, undef, undef, undef, undef], defers := [] }) ?assign ?body ?done ?stop
  case assign =>
    intro l x W K hK
    gi_wp2
    exact hK
  case body =>
    rintro lp pre x W ⟨⟨hp6, hpa⟩, hF⟩ _
    have c0 := hF.hc.cell
    have c2 := hF.hn.cell
    have f2 := hF.hn.frozen
    have c1 := hF.hr.cell
    have f1 := hF.hr.frozen
    have hF2 := hF.count ((pre.length : Int) + 1)
    have HPA := Lib.hid hpa
    have hw := hF.hn.lt
    have hsz4 := hF.sz
    have hall : ((pre ++ [x]).map (·.1)).all tc = tc x.1 := by rw [List.map_append, List.all_append, hpa]; simp
    have HALL := Lib.hid hall
    clear hpa hall b0 b1 b2 b3 hF0 hB0
    by_cases h6 : 6 < (pre.length : Int) + 1
    · gi_wp2
      refine ⟨fun _ h => (by cases h), ?_⟩
      gi_wp2
      refine ⟨((KeepsOthers.setCell _ _ _).trans (KeepsOthers.setCell _ _ _)).from _, .inl (by simp; omega), (pre.length : Int) + 1, ?_⟩
      exact ⟨hF2.hc.other (by omega) _, hF2.hr.set _, hF2.hn.other (by omega) _, hF2.bel.setCell (p := ⟨w.heap.size + 1, 0, none⟩) (by simp) _, by have := hF2.sz; simpa using this⟩
    · have hname : ∀ W', Below w.heap.size w W' → CallsIn (Fence.wide.inRound lp) (d - 1 - 1 - 1) Tryd.prog 19 #[.string ⟨x.1.toArray⟩, .pointer (some ⟨rb, 0, none⟩)] W' fun e w' => e = .returned (.bool (tc x.1)) ∧ Below W'.heap.size W' w' := fun W' hb =>
        CallsIn.inRound lp (callsIn_wide.2 (HCO.out x W' hb))
      have HN := Lib.hid hname
      clear hname
      cases hnx : tc x.1
      · gi_wp2_with (refine ⟨trivial, fun h => (by cases h), ?_⟩; refine (HN.out _ hF2.bel).mono ?_; rintro e W3 ⟨rfl, hb3⟩; rw [hnx]; have hF3 := hF2.below hb3; have hb3c := hF3.hr.cell; have hb3f := hF3.hr.frozen)
        refine ⟨(((KeepsOthers.setCell _ _ _).trans (keeps_of_below hb3)).trans (KeepsOthers.setCell _ _ _)).from _, .inr (by rw [HALL.out, hnx]), (pre.length : Int) + 1, ?_⟩
        exact ⟨hF3.hc.other (by omega) _, hF3.hr.set _, hF3.hn.other (by omega) _, hF3.bel.setCell (p := ⟨w.heap.size + 1, 0, none⟩) (by simp) _, by have := hF3.sz; simpa using this⟩
      · gi_wp2_with (refine ⟨trivial, fun h => (by cases h), ?_⟩; refine (HN.out _ hF2.bel).mono ?_; rintro e W3 ⟨rfl, hb3⟩; rw [hnx])
        have hF3 := hF2.below hb3
        refine ⟨((KeepsOthers.setCell _ _ _).trans (keeps_of_below hb3)).from _, (two_of_set W _ (by omega) (by omega)).trans (two_of_below hb3 (by have := hF2.sz; omega)), ⟨by simp; omega, by rw [HALL.out, hnx]⟩, ?_⟩
        have e : ((pre ++ [x]).length : Int) = (pre.length : Int) + 1 := by simp
        rw [e]
        exact hF3
  case done =>
    rintro D ys W hD hys ⟨⟨h6, hall⟩, hF⟩ hK
    have hcode := Lib.hid (show codeT s.data.toList = true by
      rw [← HL.out, codeT, ← hys, hall, List.length_map, decide_eq_true h6]; rfl)
    have c1 := hF.hr.cell
    have f1 := hF.hr.frozen
    clear b0 b1 b2 b3 hF0 hB0 hys hall
    gi_wp2
    have hK' := (KeepsOthers.setCell W ⟨w.heap.size + 1, 0, none⟩ (.bool true)).same D _ hK rfl
    refine ⟨by simp, .inl ⟨_, _, rfl, run_takeDeferred hK', ?_⟩⟩
    have hc5 := cell_kept (World.cell?_setCell_same' W ⟨w.heap.size + 1, 0, none⟩ (.bool true) (by rw [c1]; rfl)) (grownBy_putObj' _ D (.deferred none)) (fun r e => by cases e; exact ⟨_, hK', rfl⟩)
    refine ⟨.bool true, ?_, by rw [hcode.out], (hF.bel.setCell (p := ⟨w.heap.size + 1, 0, none⟩) (by simp) _).trans (belowK_b (w := w) (Nat.le_refl _) _ D _ _ (by omega) hK' rfl rfl)⟩
    simp [results, Tryd.f18, go_sem, hc5]
  case stop =>
    rintro D pre W hD hpre ⟨hbad, k, hF⟩ hK
    have hcode := Lib.hid (show codeT s.data.toList = false by
      obtain ⟨r, hr⟩ := hpre
      rw [← HL.out, codeT, ← hr]
      rcases hbad with h | h
      · rw [decide_eq_false (by rw [List.length_append, List.length_map]; omega)]; rfl
      · rw [List.all_append, h]; simp)
    have c1 := hF.hr.cell
    clear b0 b1 b2 b3 hF0 hB0 hpre
    gi_wp2
    refine ⟨by simp, .inl ⟨_, _, rfl, run_takeDeferred hK, ?_⟩⟩
    have hc5 := cell_kept c1 (grownBy_putObj' _ D (.deferred none)) (fun r e => by cases e; exact ⟨_, hK, rfl⟩)
    refine ⟨.bool false, ?_, by rw [hcode.out], hF.bel.trans (belowK_b (w := w) (Nat.le_refl _) W D _ _ (by omega) hK rfl rfl)⟩
    simp [results, Tryd.f18, go_sem, hc5]
end Go.Proofs.YtklmgogppljolaaDoor
