/- The contract of Expand. -/
import Derived.Test.YtklmgogppljolaaDoorTmpl
import Derived.Laws.EntriesVeiled
namespace Go.Proofs.YtklmgogppljolaaDoor
open Go.RowKit Go.Shelf
attribute [local go_sem] Oper.semAt_some

theorem formed_calls (rb : Nat) (s : ByteArray) (w : World) (hs : s.size < 4294967281) (hm : ML w)
    (hcond : ∀ (x : Seg) (W : World), Below w.heap.size w W → Calls Tryd.prog 19 #[.string ⟨x.1.toArray⟩, .pointer (some ⟨rb, 0, none⟩)] W fun e w' => e = .returned (.bool (tc x.1)) ∧ Below W.heap.size W w') :
    Calls Tryd.prog 18 #[.string s, .func (.func 19) #[] #[.pointer (some ⟨rb, 0, none⟩)]] w fun e w' => e = .returned (.bool (codeT s.data.toList)) ∧ Below w.heap.size w w' := (callsIn_wide (n := 3)).1 (formed_tc 3 (by omega) rb s w hs hm hcond)
/-- the world behind Expand's first steps -/
def W5 (w : World) (one two : ByteArray) : World :=
  ((((w.alloc (.cells #[.string ⟨#[]⟩] 9)).alloc (.cells #[.int .i64 0] 24)).alloc (.cells #[.string one] 9)).alloc (.cells #[.string two] 9)).alloc (.cells #[.func (.func 28) #[] #[.pointer (some ⟨w.heap.size + 1 + 1, 0, none⟩), .pointer (some ⟨w.heap.size + 1 + 1 + 1, 0, none⟩)]] 32)
structure E5 (w : World) (one two : ByteArray) (W : World) : Prop where
  r6 : Boxed W w.heap.size 9 (.string ⟨#[]⟩)
  r7 : Boxed W (w.heap.size + 1) 24 (.int .i64 0)
  n1 : Boxed W (w.heap.size + 1 + 1) 9 (.string one)
  n2 : Boxed W (w.heap.size + 1 + 1 + 1) 9 (.string two)
  rp : Boxed W (w.heap.size + 1 + 1 + 1 + 1) 32 (.func (.func 28) #[] #[.pointer (some ⟨w.heap.size + 1 + 1, 0, none⟩), .pointer (some ⟨w.heap.size + 1 + 1 + 1, 0, none⟩)])
  bel : Below w.heap.size w W
theorem E5.start (w : World) (one two : ByteArray) : E5 w one two (W5 w one two) := by
  have b0 := Boxed.new w 9 (.string ⟨#[]⟩)
  have b1 := Boxed.new (w.alloc (.cells #[.string ⟨#[]⟩] 9)) 24 (.int .i64 0)
  have b2 := Boxed.new ((w.alloc (.cells #[.string ⟨#[]⟩] 9)).alloc (.cells #[.int .i64 0] 24)) 9 (.string one)
  have b3 := Boxed.new (((w.alloc (.cells #[.string ⟨#[]⟩] 9)).alloc (.cells #[.int .i64 0] 24)).alloc (.cells #[.string one] 9)) 9 (.string two)
  have b4 := Boxed.new ((((w.alloc (.cells #[.string ⟨#[]⟩] 9)).alloc (.cells #[.int .i64 0] 24)).alloc (.cells #[.string one] 9)).alloc (.cells #[.string two] 9)) 32 (.func (.func 28) #[] #[.pointer (some ⟨w.heap.size + 1 + 1, 0, none⟩), .pointer (some ⟨w.heap.size + 1 + 1 + 1, 0, none⟩)])
  simp only [World.size_alloc] at b1 b2 b3 b4
  exact ⟨(((b0.alloc _).alloc _).alloc _).alloc _, ((b1.alloc _).alloc _).alloc _, (b2.alloc _).alloc _, b3.alloc _, b4, (((((Below.refl _ w).alloc (Nat.le_refl _) _).alloc (by simp) _).alloc (by simp; omega) _).alloc (by simp; omega) _).alloc (by simp; omega) _⟩
theorem E5.later {w W W' : World} {one two : ByteArray} (h : E5 w one two W) (k : Nat) (hk : w.heap.size + 4 < k) (hkW : k ≤ W.heap.size) (hb : Below k W W') : E5 w one two W' :=
  ⟨(hb.block _ (by omega)).trans h.r6, (hb.block _ (by omega)).trans h.r7, (hb.block _ (by omega)).trans h.n1, (hb.block _ (by omega)).trans h.n2, (hb.block _ (by omega)).trans h.rp, h.bel.trans (hb.mono (by omega))⟩
/-- both results stored -/
theorem E5.put {w W : World} {one two : ByteArray} (h : E5 w one two W) (x : ByteArray) (n : Int) :
    ((W.setCell ⟨w.heap.size, 0, none⟩ (.string x)).setCell ⟨w.heap.size + 1, 0, none⟩ (.int .i64 n)).cell? ⟨w.heap.size, 0, none⟩ = some (.string x) ∧
    ((W.setCell ⟨w.heap.size, 0, none⟩ (.string x)).setCell ⟨w.heap.size + 1, 0, none⟩ (.int .i64 n)).cell? ⟨w.heap.size + 1, 0, none⟩ = some (.int .i64 n) ∧
    Below w.heap.size w ((W.setCell ⟨w.heap.size, 0, none⟩ (.string x)).setCell ⟨w.heap.size + 1, 0, none⟩ (.int .i64 n)) :=
  ⟨((h.r6.set (.string x)).other (by omega) _).cell, ((h.r7.other (by omega) (.string x)).set _).cell, (h.bel.setCell (p := ⟨w.heap.size, 0, none⟩) (by simp) _).setCell (p := ⟨w.heap.size + 1, 0, none⟩) (by simp) _⟩
theorem size5 (w : World) (one two : ByteArray) : (W5 w one two).heap.size = w.heap.size + 5 := by simp [W5]
def RetSE (s : List UInt8) (n : Int) (w : World) (e : Ending) (w' : World) : Prop := e = .returned (.tuple #[.string ⟨s.toArray⟩, .int .i64 n]) ∧ Below w.heap.size w w'
theorem formed5 (t one two : ByteArray) (w : World) (ht : t.size < 4294967281) (hm : ML w) :
    Calls Tryd.prog 18 #[.string t, .func (.func 19) #[] #[.pointer (some ⟨w.heap.size + 1 + 1 + 1 + 1, 0, none⟩)]] (W5 w one two) fun e w' => e = .returned (.bool (codeT t.data.toList)) ∧ E5 w one two w' ∧ w.heap.size + 5 ≤ w'.heap.size ∧ Below (w.heap.size + 5) (W5 w one two) w' := by
  have h5 := E5.start w one two
  refine (formed_calls _ t (W5 w one two) ht (hm.below h5.bel) (fun x W hb => ?_)).mono ?_
  · have h := h5.later _ (by omega) (Nat.le_of_eq (size5 w one two).symm) (by rw [size5] at hb; exact hb)
    exact tc_any x one two _ _ _ W h.rp.cell h.n1.cell h.n2.cell
  · rintro e w' ⟨he, hb⟩
    rw [size5] at hb
    have := hb.size
    rw [size5] at this
    exact ⟨he, h5.later _ (by omega) (Nat.le_of_eq (size5 w one two).symm) hb, this, hb⟩
set_option maxRecDepth 100000 in
set_option maxHeartbeats 2000000 in
theorem expand_syntax (t one two : ByteArray) (w : World) (ht : t.size < 4294967281) (hm : ML w) (hc : codeT t.data.toList = false) : Calls Tryd.prog 7 #[.string t, .string one, .string two] w (RetSE [] 3 w) := by
  have hf := Lib.hid (formed5 t one two w ht hm)
  go_enter Tryd.func7, Tryd.ntmps7
  go_wp2_with fail
  refine (names_any _ _ _).mono ?_
  rintro e w1 ⟨rfl, rfl⟩
  go_wp2_with fail
  refine hf.out.mono ?_
  rintro e w2 ⟨rfl, h5, hz, -⟩
  rw [hc]
  have c6 := h5.r6.cell
  have c7 := h5.r7.cell
  have f6 := h5.r6.frozen
  have f7 := h5.r7.frozen
  go_wp2_with fail
  obtain ⟨p6, p7, pb⟩ := h5.put ⟨#[]⟩ 3
  exact bodyPost_ret (v := .tuple #[.string ⟨#[]⟩, .int .i64 3]) (by simp [results, Tryd.results7, go_sem, p6, p7]) rfl ⟨rfl, pb⟩
/-- which of the two names are wrong -/
def badN (l : List UInt8) : Bool := !l.isEmpty && !nameB l
set_option maxRecDepth 100000 in
set_option maxHeartbeats 4000000 in
theorem expand_name (t : ByteArray) (one two : List UInt8) (w : World) (ht : t.size < 4294967281) (h1 : one.length ≤ maxLen) (h2 : two.length ≤ maxLen) (hm : ML w) (hc : codeT t.data.toList = true) (hbad : (badN one || badN two) = true) : Calls Tryd.prog 7 #[.string t, .string ⟨one.toArray⟩, .string ⟨two.toArray⟩] w (RetSE [] 23 w) := by
  have hf := Lib.hid (formed5 t ⟨one.toArray⟩ ⟨two.toArray⟩ w ht hm)
  have x1 := fun w => name_any ⟨one.toArray⟩ w h1
  have x2 := fun w => name_any ⟨two.toArray⟩ w h2
  have X := Lib.hid (And.intro x1 x2)
  clear x1 x2
  have hb := Lib.hid hbad
  clear hbad
  cases e1 : one.isEmpty
  · have q1 : ¬ one = [] := by intro h; rw [h] at e1; cases e1
    have r1 : (one == []) = false := by simp [q1]
    cases n1 : nameB one
    · go_enter Tryd.func7, Tryd.ntmps7
      go_wp2_with fail
      refine (names_any _ _ _).mono ?_
      rintro e w1 ⟨rfl, rfl⟩
      go_wp2_with fail
      refine hf.out.mono ?_
      rintro e w2 ⟨rfl, h5, hz, -⟩
      rw [hc]
      have hz5 : w.heap.size + 4 < w2.heap.size := by omega
      go_wp2_with fail
      refine (X.out.1 _).mono ?_
      rintro e w3 ⟨rfl, hb3⟩
      rw [show nameB (ByteArray.mk one.toArray).data.toList = nameB one from rfl, n1]
      replace h5 := h5.later _ hz5 (Nat.le_refl _) hb3
      replace hz5 := Nat.lt_of_lt_of_le hz5 hb3.size
      clear hb3
      have c6 := h5.r6.cell
      have c7 := h5.r7.cell
      have f6 := h5.r6.frozen
      have f7 := h5.r7.frozen
      go_wp2_with fail
      obtain ⟨p6, p7, pb⟩ := h5.put ⟨#[]⟩ 23
      exact bodyPost_ret (v := .tuple #[.string ⟨#[]⟩, .int .i64 23]) (by simp [results, Tryd.results7, go_sem, p6, p7]) rfl ⟨rfl, pb⟩
    · cases e2 : two.isEmpty
      · have q2 : ¬ two = [] := by intro h; rw [h] at e2; cases e2
        have r2 : (two == []) = false := by simp [q2]
        cases n2 : nameB two
        · go_enter Tryd.func7, Tryd.ntmps7
          go_wp2_with fail
          refine (names_any _ _ _).mono ?_
          rintro e w1 ⟨rfl, rfl⟩
          go_wp2_with fail
          refine hf.out.mono ?_
          rintro e w2 ⟨rfl, h5, hz, -⟩
          rw [hc]
          have hz5 : w.heap.size + 4 < w2.heap.size := by omega
          go_wp2_with fail
          refine (X.out.1 _).mono ?_
          rintro e w3 ⟨rfl, hb3⟩
          rw [show nameB (ByteArray.mk one.toArray).data.toList = nameB one from rfl, n1]
          replace h5 := h5.later _ hz5 (Nat.le_refl _) hb3
          replace hz5 := Nat.lt_of_lt_of_le hz5 hb3.size
          clear hb3
          go_wp2_with fail
          refine (X.out.2 _).mono ?_
          rintro e w3 ⟨rfl, hb3⟩
          rw [show nameB (ByteArray.mk two.toArray).data.toList = nameB two from rfl, n2]
          replace h5 := h5.later _ hz5 (Nat.le_refl _) hb3
          replace hz5 := Nat.lt_of_lt_of_le hz5 hb3.size
          clear hb3
          have c6 := h5.r6.cell
          have c7 := h5.r7.cell
          have f6 := h5.r6.frozen
          have f7 := h5.r7.frozen
          go_wp2_with fail
          obtain ⟨p6, p7, pb⟩ := h5.put ⟨#[]⟩ 23
          exact bodyPost_ret (v := .tuple #[.string ⟨#[]⟩, .int .i64 23]) (by simp [results, Tryd.results7, go_sem, p6, p7]) rfl ⟨rfl, pb⟩
        · have := hb.out
          simp [badN, n1, n2] at this
      · have := hb.out
        simp [badN, n1, e2] at this
  · obtain rfl : one = [] := by simpa using e1
    cases e2 : two.isEmpty
    · have q2 : ¬ two = [] := by intro h; rw [h] at e2; cases e2
      have r2 : (two == []) = false := by simp [q2]
      cases n2 : nameB two
      · go_enter Tryd.func7, Tryd.ntmps7
        go_wp2_with fail
        refine (names_any _ _ _).mono ?_
        rintro e w1 ⟨rfl, rfl⟩
        go_wp2_with fail
        refine hf.out.mono ?_
        rintro e w2 ⟨rfl, h5, hz, -⟩
        rw [hc]
        have hz5 : w.heap.size + 4 < w2.heap.size := by omega
        go_wp2_with fail
        refine (X.out.2 _).mono ?_
        rintro e w3 ⟨rfl, hb3⟩
        rw [show nameB (ByteArray.mk two.toArray).data.toList = nameB two from rfl, n2]
        replace h5 := h5.later _ hz5 (Nat.le_refl _) hb3
        replace hz5 := Nat.lt_of_lt_of_le hz5 hb3.size
        clear hb3
        have c6 := h5.r6.cell
        have c7 := h5.r7.cell
        have f6 := h5.r6.frozen
        have f7 := h5.r7.frozen
        go_wp2_with fail
        obtain ⟨p6, p7, pb⟩ := h5.put ⟨#[]⟩ 23
        exact bodyPost_ret (v := .tuple #[.string ⟨#[]⟩, .int .i64 23]) (by simp [results, Tryd.results7, go_sem, p6, p7]) rfl ⟨rfl, pb⟩
      · have := hb.out
        simp [badN, n2] at this
    · have := hb.out
      simp [badN, e2] at this
end Go.Proofs.YtklmgogppljolaaDoor
