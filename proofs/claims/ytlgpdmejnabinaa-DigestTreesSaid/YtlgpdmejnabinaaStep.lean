/- The walk of digest.step. -/
import Derived.Test.YtlgpdmejnabinaaChecked
import Derived.Test.YtlgpdmejnabinaaSpec
import Derived.WalkKit
import Derived.Lib.Hide
import Derived.Deep.OwnRows
import Derived.StillTailTactics
import Derived.Deep.QuietTactic
import Derived.BigQuiet
namespace Go.Proofs.Ytlgpdmejnabinaa
open Go.RowKit

def W32 (l : List Int) : Nat → Value := fun j => .int .u32 (l.getD j 0)
structure SR (w : World) (st ks W : List Int) (wr : World) : Prop where
  bel : Below w.heap.size w wr
  size : wr.heap.size = w.heap.size + 4
  a : wr.rowIs w.heap.size 56 8 (W32 st)
  k : wr.rowIs (w.heap.size + 1) 58 64 (W32 ks)
  r : wr.rowIs (w.heap.size + 1 + 1) 56 8 (fun _ => .int .u32 0)
  v : wr.rowIs (w.heap.size + 1 + 1 + 1) 58 64 (W32 W)

theorem list8 (l : List Int) (h : l.length = 8) : ∃ a b c d e f g i, l = [a, b, c, d, e, f, g, i] := by
  match l, h with
  | [a, b, c, d, e, f, g, i], _ => exact ⟨a, b, c, d, e, f, g, i, rfl⟩
theorem SR.drew {w wr : World} {st ks W : List Int} (h : SR w st ks W wr) : SR w st ks W wr.drew := ⟨h.bel.drew, h.size, h.a, h.k, h.r, h.v⟩
theorem SR.drewN {w wr : World} {st ks W : List Int} (h : SR w st ks W wr) (n : Nat) : SR w st ks W (wr.drewN n) := ⟨⟨h.bel.os, h.bel.tape, h.bel.output, h.bel.size, h.bel.block⟩, h.size, h.a, h.k, h.r, h.v⟩
theorem SR.put {w wr : World} {st ks W : List Int} (h : SR w st ks W wr) (t : Nat) (x : Int) (hl : W.length = 64) (ht : t < 64) :
    SR w st ks (W.set t x) (wr.setCell ⟨w.heap.size + 1 + 1 + 1, t, none⟩ (.int .u32 x)) :=
  ⟨h.bel.setCell (by simp; omega) _, by simp [World.setCell, h.size], h.a.setOther (by simp; omega) _, h.k.setOther (by simp) _, h.r.setOther (by simp) _,
    (h.v.set t _).congr fun j _ => by
      simp only [W32, set_getD W t j x (by omega)]
      split <;> rfl⟩
theorem set_set_same (l : List Int) (t : Nat) (x y : Int) : (l.set t x).set t y = l.set t y := by simp
theorem SR.start (w : World) (st ks : List Int) (h1 : st.length = 8) (h3 : ks.length = 64) (c56 c58 : Array Value) (e56 : c56 = (List.replicate 8 (Value.int .u32 0)).toArray) (e58 : c58 = (List.replicate 64 (Value.int .u32 0)).toArray) :
    SR w st ks (List.replicate 64 0) ((((w.alloc (.cells ⟨st.map (Value.int .u32)⟩ 56)).alloc (.cells ⟨ks.map (Value.int .u32)⟩ 58)).alloc (.cells c56 56)).alloc (.cells c58 58)) := by
  subst e56 e58
  refine ⟨?_, by simp, ?_, ?_, ?_, ?_⟩
  · exact ((((Below.refl _ _).alloc (Nat.le_refl _) _).alloc (by simp) _).alloc (by simp; omega) _).alloc (by simp; omega) _
  · have := World.rowIs_alloc w ⟨st.map (Value.int .u32)⟩ 56 (W32 st) (fun i hi => by simp at hi ⊢; simp [W32, hi])
    simp only [List.size_toArray, List.length_map, h1] at this
    exact ((this.alloc _).alloc _).alloc _
  · have := World.rowIs_alloc (w.alloc (.cells ⟨st.map (Value.int .u32)⟩ 56)) ⟨ks.map (Value.int .u32)⟩ 58 (W32 ks) (fun i hi => by simp at hi ⊢; simp [W32, hi])
    simp only [List.size_toArray, List.length_map, h3] at this
    have := (this.alloc (.cells (List.replicate 8 (Value.int .u32 0)).toArray 56)).alloc (.cells (List.replicate 64 (Value.int .u32 0)).toArray 58)
    simpa using this
  · have := World.rowIs_alloc ((w.alloc (.cells ⟨st.map (Value.int .u32)⟩ 56)).alloc (.cells ⟨ks.map (Value.int .u32)⟩ 58)) (List.replicate 8 (Value.int .u32 0)).toArray 56 (fun _ => .int .u32 0) (fun i hi => rep_get 8 i _ (by simpa using hi))
    have := this.alloc (.cells (List.replicate 64 (Value.int .u32 0)).toArray 58)
    simpa using this
  · have := World.rowIs_alloc (((w.alloc (.cells ⟨st.map (Value.int .u32)⟩ 56)).alloc (.cells ⟨ks.map (Value.int .u32)⟩ 58)).alloc (.cells (List.replicate 8 (Value.int .u32 0)).toArray 56)) (List.replicate 64 (Value.int .u32 0)).toArray 58 (W32 (List.replicate 64 0)) (fun i hi => by rw [rep_get 64 i _ (by simpa using hi), W32, rep_getD 64 i (by simpa using hi)])
    simpa using this

structure SR2 (w : World) (st ks W S : List Int) (wr : World) : Prop where
  bel : Below w.heap.size w wr
  a : wr.rowIs w.heap.size 56 8 (W32 st)
  k : wr.rowIs (w.heap.size + 1) 58 64 (W32 ks)
  r : wr.rowIs (w.heap.size + 1 + 1) 56 8 (fun _ => .int .u32 0)
  v : wr.rowIs (w.heap.size + 1 + 1 + 1) 58 64 (W32 W)
  s : wr.rowIs (w.heap.size + 4) 56 8 (W32 S)
theorem SR2.drewN {w wr : World} {st ks W S : List Int} (h : SR2 w st ks W S wr) (n : Nat) : SR2 w st ks W S (wr.drewN n) := ⟨⟨h.bel.os, h.bel.tape, h.bel.output, h.bel.size, h.bel.block⟩, h.a, h.k, h.r, h.v, h.s⟩
theorem SR2.put {w wr : World} {st ks W S : List Int} (h : SR2 w st ks W S wr) (t : Nat) (x : Int) (hl : S.length = 8) (ht : t < 8) :
    SR2 w st ks W (S.set t x) (wr.setCell ⟨w.heap.size + 4, t, none⟩ (.int .u32 x)) :=
  ⟨h.bel.setCell (by simp) _, h.a.setOther (by simp) _, h.k.setOther (by simp) _, h.r.setOther (by simp) _, h.v.setOther (by simp) _,
    (h.s.set t _).congr fun j _ => by
      simp only [W32, set_getD S t j x (by omega)]
      split <;> rfl⟩
theorem SR.two {w wr : World} {st ks W : List Int} (h : SR w st ks W wr) (S : List Int) (c : Array Value) (hc : c = ⟨S.map (Value.int .u32)⟩) (hl : S.length = 8) : SR2 w st ks W S (wr.alloc (.cells c 56)) := by
  subst hc
  have := World.rowIs_alloc wr ⟨S.map (Value.int .u32)⟩ 56 (W32 S) (fun i hi => by simp at hi ⊢; simp [W32, hi])
  simp only [List.size_toArray, List.length_map, hl, h.size] at this
  exact ⟨h.bel.alloc (by rw [h.size]; omega) _, h.a.alloc _, h.k.alloc _, h.r.alloc _, h.v.alloc _, this⟩
theorem u64_in (n : Int) (h : 0 ≤ n) (h' : n ≤ 64) : IntKind.u64.wrap n = n := by
  simp [IntKind.wrap, IntKind.bits, IntKind.signed]; omega
theorem quietAdd {P : Program} {f : FuncId} {args : Array Value} {w : World} {a n : Nat} {v : Value}
    (h : Calls P f args (w.drewN (a + n)) fun e w' => e = .returned v ∧ w' = w.drewN (a + n)) :
    Calls P f args (w.drewN (a + n)) fun e w'' => e = .returned v ∧ ∃ m, w'' = w.drewN (a + m) :=
  h.mono fun _ _ ⟨he, hm⟩ => ⟨he, n, hm⟩
theorem region_st {P : Program} {id : Nat} {Q : Exit → Act → World → Prop} {a : Act} {w : World} {l : List Oper} (n : Nat) (hm : P.follows .mixedOrders = true) (hB : Region.lexTailB .any l.toArray n = true)
    (h : wpStill P l.toArray w.drew (fun a' => wpList P l.toArray Q (l.drop n) a' w.drew) (l.take n) a) : (Code.region id l.toArray true).wp P Q a w := wp_region_still_tail n hm hB h

theorem rot_s (n : Nat) (h1 : 1 ≤ n) (h2 : n ≤ 31) : bits BinOp.and IntKind.u64 (IntKind.u64.wrap (wrap64 (-(n : Int)))) 31 = ((32 - n : Nat) : Int) := by
  rcases n with _ | n
  · omega
  iterate 31 (rcases n with _ | n; · decide +kernel)
  omega
set_option maxHeartbeats 400000 in
theorem rot_core (x : Int) (n m : Nat) (w : World) (hs : bits BinOp.and IntKind.u64 (IntKind.u64.wrap (wrap64 (-(n : Int)))) 31 = (m : Int)) (h1 : 1 ≤ m) (h2 : m ≤ 31) (hk : IntKind.u64.wrap (32 - (m : Int)) = ((32 - m : Nat) : Int)) :
    Calls Try.prog 55 #[.int .u32 x, .int .i64 (n : Int)] w fun e w' => e = .returned (.int .u32 (bits .or .u32 (x * 2 ^ m % 4294967296) (x / 2 ^ (32 - m)))) ∧ w' = w := by
  have hb1 : (m : Int) ≤ 32 := by omega
  have hb2 : (0 : Int) ≤ ((32 - m : Nat) : Int) := by omega
  have hb3 : ((32 - m : Nat) : Int) ≤ 32 := by omega
  go_enter Try.func55, Try.ntmps55
  go_wp2
  go_ret
  exact ⟨rfl, rfl⟩
theorem rot_any (x : Int) (n : Int) (w : World) (h1 : 1 ≤ n) (h2 : n ≤ 31) :
    Calls Try.prog 55 #[.int .u32 x, .int .i64 n] w fun e w' => e = .returned (.int .u32 (rotr x n.toNat)) ∧ w' = w := by
  obtain ⟨k, rfl⟩ := Int.eq_ofNat_of_zero_le (show 0 ≤ n by omega)
  have h := rot_core x k (32 - k) w (rot_s k (by omega) (by omega)) (by omega) (by omega) (by rw [u64_in _ (by omega) (by omega)]; omega)
  rw [show 32 - (32 - k) = k by omega] at h
  exact h

set_option maxHeartbeats 6000000 in
set_option maxRecDepth 100000 in
theorem step_any (a0 a1 a2 a3 a4 a5 a6 a7 : Int) (st : List Int) (s : ByteArray) (ks : List Int) (w : World) (h1 : st = [a0, a1, a2, a3, a4, a5, a6, a7]) (h2 : s.size = 64) (h3 : ks.length = 64) :
    Calls Try.prog 40 #[.agg #[.int .u32 a0, .int .u32 a1, .int .u32 a2, .int .u32 a3, .int .u32 a4, .int .u32 a5, .int .u32 a6, .int .u32 a7], .string s, .agg ⟨ks.map (Value.int .u32)⟩] w fun e w' => e = .returned (.agg ⟨(stepOf st s.data.toList ks).map (Value.int .u32)⟩) ∧ Below w.heap.size w w' := by
  have H1 := Lib.hid h1
  have H3 := Lib.hid h3
  have H2 := Lib.hid h2
  clear h1 h3 h2
  go_enter Try.func40, Try.ntmps40
  go_wp2
  go_loopw [24] (fun i wr => ∃ t : Nat, t ≤ 16 ∧ i = .int .i64 t ∧ SR w st ks (fill s.data.toList t) wr) (fun i _ => 16 - (intOf i).toNat)
  case atStart => exact ⟨0, by omega, rfl, by
      have := H1.out
      subst this
      exact SR.start w _ ks rfl H3.out _ _ rfl rfl⟩
  case round =>
    obtain ⟨t, ht, rfl, hsr⟩ := hrel
    by_cases hlt : t < 16
    · have hd : decide ((t : Int) < 16) = true := by simp; omega
      go_wp2
      go_loopw [27] (fun i wi => ∃ j : Nat, j ≤ 4 ∧ i = .int .i64 j ∧ SR w st ks ((fill s.data.toList t).set t (part s.data.toList t j)) wi) (fun i _ => 4 - (intOf i).toNat)
      case atStart => exact ⟨0, by omega, rfl, by rw [show part s.data.toList t 0 = (fill s.data.toList t).getD t 0 from (fill_zero _ _ _ (Nat.le_refl _) (by omega)).symm, set_same]; exact hsr⟩
      case round =>
        obtain ⟨j, hj, rfl, hsi⟩ := hrel
        by_cases hlj : j < 4
        · obtain ⟨x, hx⟩ : ∃ x, x = part s.data.toList t j := ⟨_, rfl⟩
          have hc : wr.cell? ⟨w.heap.size + 1 + 1 + 1, t, none⟩ = some (.int .u32 x) := by
            have := hsi.v.cell (i := t) (by omega)
            simpa [W32, fill_len, hx, show t < 64 by omega] using this
          have HX := Lib.hid hx
          clear hx
          have hf := hsi.v.frozen t
          obtain ⟨n, hn⟩ : ∃ n : Nat, n = 4 * t + j := ⟨_, rfl⟩
          have hi : n < s.size := by have := H2.out; omega
          have hb : (t : Int) < 64 := by omega
          have hw1 : IntKind.i64.wrap (4 * (t : Int)) = 4 * (t : Int) := IntWalk.i64_in _ (by omega)
          have hw2 : IntKind.i64.wrap (4 * (t : Int) + (j : Int)) = (n : Int) := by rw [IntWalk.i64_in _ (by omega)]; omega
          have HN := Lib.hid hn
          clear hn
          go_wp2
          refine region_st 14 (by kernel_rfl) (by kernel_rfl) ?_
          simp only [List.take_succ_cons, List.take_zero, List.drop_succ_cons, List.drop_zero]
          repeat still_step
          refine wpStill_nil ?_
          go_wp2
          go_roundw
          case rel =>
            refine ⟨j + 1, by omega, by go_num, ?_⟩
            have := (hsi.put t (part s.data.toList t (j + 1)) (by simp [fill_len]) (by omega)).drew
            rw [set_set_same] at this
            rw [HX.out, byte_mod s n hi, HN.out]
            exact this
          case measure => simp [intOf]; omega
        · go_wp2
          go_roundw
          case rel => exact ⟨t + 1, by omega, by go_num, by obtain rfl : j = 4 := by omega
                                                            exact hsi⟩
          case measure => simp [intOf]; omega
    · have HT := Lib.hid (show t = 16 by omega)
      have hd0 : decide ((t : Int) < 16) = false := by simp; omega
      replace hsr : SR w st ks (fill s.data.toList 16) wr := by have := HT.out; subst this; exact hsr
      go_wp2
      go_loopw [10] (fun i wi => ∃ c : Nat, 16 ≤ c ∧ c ≤ 64 ∧ i = .int .i64 (c : Int) ∧ SR w st ks (sched (fill s.data.toList 16) (c - 16)) wi) (fun i _ => 64 - (intOf i).toNat)
      case atStart => exact ⟨16, by omega, by omega, rfl, hsr⟩
      case round =>
        obtain ⟨c, hq0, hq, rfl, hsi⟩ := hrel
        obtain ⟨L, hL⟩ : ∃ L, L = sched (fill s.data.toList 16) (c - 16) := ⟨_, rfl⟩
        rw [← hL] at hsi
        by_cases hlq : c < 64
        · have hd : decide ((c : Int) < 64) = true := by simp; omega
          obtain ⟨i1, hi1⟩ : ∃ i : Nat, i = c - 15 := ⟨_, rfl⟩
          obtain ⟨i2, hi2⟩ : ∃ i : Nat, i = c - 2 := ⟨_, rfl⟩
          obtain ⟨i3, hi3⟩ : ∃ i : Nat, i = c - 16 := ⟨_, rfl⟩
          obtain ⟨i4, hi4⟩ : ∃ i : Nat, i = c - 7 := ⟨_, rfl⟩
          have hw1 : IntKind.i64.wrap ((c : Int) - 15) = (i1 : Int) := by rw [IntWalk.i64_in _ (by omega)]; omega
          have hw2 : IntKind.i64.wrap ((c : Int) - 2) = (i2 : Int) := by rw [IntWalk.i64_in _ (by omega)]; omega
          have hw3 : IntKind.i64.wrap ((c : Int) - 16) = (i3 : Int) := by rw [IntWalk.i64_in _ (by omega)]; omega
          have hw4 : IntKind.i64.wrap ((c : Int) - 7) = (i4 : Int) := by rw [IntWalk.i64_in _ (by omega)]; omega
          have b1 : (i1 : Int) < 64 := by omega
          have b2 : (i2 : Int) < 64 := by omega
          have b3 : (i3 : Int) < 64 := by omega
          have b4 : (i4 : Int) < 64 := by omega
          have b5 : (c : Int) < 64 := by omega
          have c1 : wr.cell? ⟨w.heap.size + 1 + 1 + 1, i1, none⟩ = some (.int .u32 (L.getD i1 0)) := hsi.v.cell (by omega)
          have c2 : wr.cell? ⟨w.heap.size + 1 + 1 + 1, i2, none⟩ = some (.int .u32 (L.getD i2 0)) := hsi.v.cell (by omega)
          have c3 : wr.cell? ⟨w.heap.size + 1 + 1 + 1, i3, none⟩ = some (.int .u32 (L.getD i3 0)) := hsi.v.cell (by omega)
          have c4 : wr.cell? ⟨w.heap.size + 1 + 1 + 1, i4, none⟩ = some (.int .u32 (L.getD i4 0)) := hsi.v.cell (by omega)
          have c5 : wr.cell? ⟨w.heap.size + 1 + 1 + 1, c, none⟩ = some (.int .u32 (L.getD c 0)) := hsi.v.cell (by omega)
          have hf := hsi.v.frozen c
          generalize hx : L.getD i1 0 = x at *
          generalize hy : L.getD i2 0 = y at *
          generalize hz : L.getD i3 0 = z at *
          generalize hu : L.getD i4 0 = u at *
          generalize L.getD c 0 = v at *
          have HX := Lib.hid (And.intro hL (And.intro hx (And.intro hy (And.intro hz (And.intro hu (And.intro hi1 (And.intro hi2 (And.intro hi3 hi4))))))))
          clear hL hx hy hz hu hi1 hi2 hi3 hi4
          go_wp2
          go_quiet (fail)
          go_wp2
          refine region_st 29 (by kernel_rfl) (by kernel_rfl) ?_
          simp only [List.take_succ_cons, List.take_zero, List.drop_succ_cons, List.drop_zero]
          repeat (first | still_step | still_call (rot_any _ _ _ (by omega) (by omega)))
          refine wpStill_nil ?_
          go_wp2
          go_roundw
          case rel =>
            refine ⟨c + 1, by omega, by omega, by go_num, ?_⟩
            obtain ⟨hL, hx, hy, hz, hu, hi1, hi2, hi3, hi4⟩ := HX.out
            have e : sched (fill s.data.toList 16) (c + 1 - 16) = L.set c (nextW L c) := by
              rw [show c + 1 - 16 = (c - 16) + 1 by omega, sched, show 16 + (c - 16) = c by omega, hL]
            rw [e]
            have := ((hsi.drewN (nq + 1)).put c (nextW L c) (by rw [hL, sched_len, fill_len]) (by omega))
            rw [nextW, ← hi1, ← hi2, ← hi3, ← hi4, hx, hy, hz, hu] at this ⊢
            exact this
          case measure => simp [intOf]; omega
        · have hd : decide ((c : Int) < 64) = false := by simp; omega
          have HC := Lib.hid (show c = 64 by omega)
          have e48 : c - 16 = 48 := by rw [HC.out]
          rw [hL, e48] at hsi
          clear hL e48
          have d0 : wr.cell? ⟨w.heap.size, 0, none⟩ = some (.int .u32 a0) := by rw [hsi.a.cell (i := 0) (by omega), H1.out]; rfl
          have d1 : wr.cell? ⟨w.heap.size, 1, none⟩ = some (.int .u32 a1) := by rw [hsi.a.cell (i := 1) (by omega), H1.out]; rfl
          have d2 : wr.cell? ⟨w.heap.size, 2, none⟩ = some (.int .u32 a2) := by rw [hsi.a.cell (i := 2) (by omega), H1.out]; rfl
          have d3 : wr.cell? ⟨w.heap.size, 3, none⟩ = some (.int .u32 a3) := by rw [hsi.a.cell (i := 3) (by omega), H1.out]; rfl
          have d4 : wr.cell? ⟨w.heap.size, 4, none⟩ = some (.int .u32 a4) := by rw [hsi.a.cell (i := 4) (by omega), H1.out]; rfl
          have d5 : wr.cell? ⟨w.heap.size, 5, none⟩ = some (.int .u32 a5) := by rw [hsi.a.cell (i := 5) (by omega), H1.out]; rfl
          have d6 : wr.cell? ⟨w.heap.size, 6, none⟩ = some (.int .u32 a6) := by rw [hsi.a.cell (i := 6) (by omega), H1.out]; rfl
          have d7 : wr.cell? ⟨w.heap.size, 7, none⟩ = some (.int .u32 a7) := by rw [hsi.a.cell (i := 7) (by omega), H1.out]; rfl
          have hsz := hsi.size
          obtain ⟨W, hW⟩ : ∃ W, W = sched (fill s.data.toList 16) 48 := ⟨_, rfl⟩
          rw [← hW] at hsi
          have HW := Lib.hid hW
          clear hW
          go_wp2
          clear d0 d1 d2 d3 d4 d5 d6 d7
          go_loopw [88] (fun i wi => ∃ n : Nat, n ≤ 64 ∧ i = .int .i64 (n : Int) ∧ SR2 w st ks W (rounds' ks W st n) wi) (fun i _ => 64 - (intOf i).toNat)
          case atStart => exact ⟨0, by omega, rfl, hsi.two st _ (by rw [H1.out]; rfl) (by rw [H1.out]; rfl)⟩
          case round =>
            obtain ⟨n, hn, rfl, hs2⟩ := hrel
            obtain ⟨S, hS⟩ : ∃ S, S = rounds' ks W st n := ⟨_, rfl⟩
            rw [← hS] at hs2
            by_cases hln : n < 64
            · have hd : decide ((n : Int) < 64) = true := by simp; omega
              have hb : (n : Int) < 64 := by omega
              obtain ⟨b0, b1, b2, b3, b4, b5, b6, b7, hS8⟩ := list8 S (by rw [hS]; exact rounds_len _ _ _ (by rw [H1.out]; rfl) _)
              have d0 : wr.cell? ⟨w.heap.size + 4, 0, none⟩ = some (.int .u32 b0) := by rw [hs2.s.cell (i := 0) (by omega), hS8]; rfl
              have d1 : wr.cell? ⟨w.heap.size + 4, 1, none⟩ = some (.int .u32 b1) := by rw [hs2.s.cell (i := 1) (by omega), hS8]; rfl
              have d2 : wr.cell? ⟨w.heap.size + 4, 2, none⟩ = some (.int .u32 b2) := by rw [hs2.s.cell (i := 2) (by omega), hS8]; rfl
              have d3 : wr.cell? ⟨w.heap.size + 4, 3, none⟩ = some (.int .u32 b3) := by rw [hs2.s.cell (i := 3) (by omega), hS8]; rfl
              have d4 : wr.cell? ⟨w.heap.size + 4, 4, none⟩ = some (.int .u32 b4) := by rw [hs2.s.cell (i := 4) (by omega), hS8]; rfl
              have d5 : wr.cell? ⟨w.heap.size + 4, 5, none⟩ = some (.int .u32 b5) := by rw [hs2.s.cell (i := 5) (by omega), hS8]; rfl
              have d6 : wr.cell? ⟨w.heap.size + 4, 6, none⟩ = some (.int .u32 b6) := by rw [hs2.s.cell (i := 6) (by omega), hS8]; rfl
              have d7 : wr.cell? ⟨w.heap.size + 4, 7, none⟩ = some (.int .u32 b7) := by rw [hs2.s.cell (i := 7) (by omega), hS8]; rfl
              have e1 : wr.cell? ⟨w.heap.size + 1, n, none⟩ = some (.int .u32 (ks.getD n 0)) := hs2.k.cell (by omega)
              have e2 : wr.cell? ⟨w.heap.size + 1 + 1 + 1, n, none⟩ = some (.int .u32 (W.getD n 0)) := hs2.v.cell (by omega)
              have f0 := hs2.s.frozen 0
              have f1 := hs2.s.frozen 1
              have f2 := hs2.s.frozen 2
              have f3 := hs2.s.frozen 3
              have f4 := hs2.s.frozen 4
              have f5 := hs2.s.frozen 5
              have f6 := hs2.s.frozen 6
              have f7 := hs2.s.frozen 7
              generalize hx : ks.getD n 0 = x at *
              generalize hy : W.getD n 0 = y at *
              have HX := Lib.hid (And.intro hS (And.intro hS8 (And.intro hx hy)))
              clear hS hS8 hx hy hsz
              go_wp2
              go_quiet (fail)
              go_wp2
              go_quiet ((go_at_call 55; exact quietAdd (rot_any _ _ _ (by omega) (by omega))))
              go_wp2_with (go_at_call 55; refine (rot_any _ _ _ (by omega) (by omega)).mono ?_; rintro e w' ⟨rfl, rfl⟩)
              go_roundw
              case rel =>
                refine ⟨n + 1, by omega, by go_num, ?_⟩
                obtain ⟨hS, hS8, hx, hy⟩ := HX.out
                have e : rounds' ks W st (n + 1) = roundOf [b0, b1, b2, b3, b4, b5, b6, b7] x y := by rw [rounds', ← hS, hS8, hx, hy]
                rw [e]
                rw [hS8] at hs2
                exact ((((((((hs2.drewN _).put 0 _ rfl (by omega)).put 1 _ rfl (by omega)).put 2 _ rfl (by omega)).put 3 _ rfl (by omega)).put 4 _ rfl (by omega)).put 5 _ rfl (by omega)).put 6 _ rfl (by omega)).put 7 _ rfl (by omega)
              case measure => simp [intOf]; omega
            · have hd : decide ((n : Int) < 64) = false := by simp; omega
              have e64 : n = 64 := by omega
              rw [hS, e64] at hs2
              have HN := Lib.hid e64
              clear hS e64 hsz
              obtain ⟨R, hR⟩ : ∃ R, R = rounds' ks W st 64 := ⟨_, rfl⟩
              rw [← hR] at hs2
              have hR8 : R.length = 8 := by rw [hR]; exact rounds_len _ _ _ (by rw [H1.out]; rfl) _
              have HR := Lib.hid (And.intro hR hR8)
              clear hR hR8
              go_wp2
              go_loopw [166] (fun i wi => ∃ m : Nat, m ≤ 8 ∧ i = .int .i64 (m : Int) ∧ SR2 w st ks W (addAll st R m) wi) (fun i _ => 8 - (intOf i).toNat)
              case atStart => exact ⟨0, by omega, rfl, hs2⟩
              case round =>
                obtain ⟨m, hm, rfl, hs3⟩ := hrel
                obtain ⟨A, hA⟩ : ∃ A, A = addAll st R m := ⟨_, rfl⟩
                rw [← hA] at hs3
                have hA8 : A.length = 8 := by rw [hA, addAll_len]; exact HR.out.2
                by_cases hlm : m < 8
                · have hb : (m : Int) < 8 := by omega
                  have c1 : wr.cell? ⟨w.heap.size + 4, m, none⟩ = some (.int .u32 (A.getD m 0)) := hs3.s.cell (by omega)
                  have c2 : wr.cell? ⟨w.heap.size, m, none⟩ = some (.int .u32 (st.getD m 0)) := hs3.a.cell (by omega)
                  have hf := hs3.s.frozen m
                  generalize hx : A.getD m 0 = x at *
                  generalize hy : st.getD m 0 = y at *
                  have HX := Lib.hid (And.intro hA (And.intro hA8 (And.intro hx hy)))
                  clear hA hA8 hx hy
                  go_wp2
                  refine region_st 8 (by kernel_rfl) (by kernel_rfl) ?_
                  simp only [List.take_succ_cons, List.take_zero, List.drop_succ_cons, List.drop_zero]
                  repeat still_step
                  refine wpStill_nil ?_
                  go_wp2
                  go_roundw
                  case rel =>
                    refine ⟨m + 1, by omega, by go_num, ?_⟩
                    obtain ⟨hA, hA8, hx, hy⟩ := HX.out
                    rw [addAll, ← hA, hx, hy]
                    exact (hs3.put m _ hA8 (by omega)).drewN 1
                  case measure => simp [intOf]; omega
                · have e8 : m = 8 := by omega
                  rw [hA, e8] at hs3
                  rw [hA, e8] at hA8
                  clear e8 hA
                  obtain ⟨b0, b1, b2, b3, b4, b5, b6, b7, hS8⟩ := list8 _ hA8
                  clear hA8
                  have d0 : wr.cell? ⟨w.heap.size + 4, 0, none⟩ = some (.int .u32 b0) := by rw [hs3.s.cell (i := 0) (by omega), hS8]; rfl
                  have d1 : wr.cell? ⟨w.heap.size + 4, 1, none⟩ = some (.int .u32 b1) := by rw [hs3.s.cell (i := 1) (by omega), hS8]; rfl
                  have d2 : wr.cell? ⟨w.heap.size + 4, 2, none⟩ = some (.int .u32 b2) := by rw [hs3.s.cell (i := 2) (by omega), hS8]; rfl
                  have d3 : wr.cell? ⟨w.heap.size + 4, 3, none⟩ = some (.int .u32 b3) := by rw [hs3.s.cell (i := 3) (by omega), hS8]; rfl
                  have d4 : wr.cell? ⟨w.heap.size + 4, 4, none⟩ = some (.int .u32 b4) := by rw [hs3.s.cell (i := 4) (by omega), hS8]; rfl
                  have d5 : wr.cell? ⟨w.heap.size + 4, 5, none⟩ = some (.int .u32 b5) := by rw [hs3.s.cell (i := 5) (by omega), hS8]; rfl
                  have d6 : wr.cell? ⟨w.heap.size + 4, 6, none⟩ = some (.int .u32 b6) := by rw [hs3.s.cell (i := 6) (by omega), hS8]; rfl
                  have d7 : wr.cell? ⟨w.heap.size + 4, 7, none⟩ = some (.int .u32 b7) := by rw [hs3.s.cell (i := 7) (by omega), hS8]; rfl
                  have r0 := hs3.r.cell (i := 0) (by omega)
                  have r1 := hs3.r.cell (i := 1) (by omega)
                  have r2 := hs3.r.cell (i := 2) (by omega)
                  have r3 := hs3.r.cell (i := 3) (by omega)
                  have r4 := hs3.r.cell (i := 4) (by omega)
                  have r5 := hs3.r.cell (i := 5) (by omega)
                  have r6 := hs3.r.cell (i := 6) (by omega)
                  have r7 := hs3.r.cell (i := 7) (by omega)
                  have f0 := hs3.r.frozen 0
                  have f1 := hs3.r.frozen 1
                  have f2 := hs3.r.frozen 2
                  have f3 := hs3.r.frozen 3
                  have f4 := hs3.r.frozen 4
                  have f5 := hs3.r.frozen 5
                  have f6 := hs3.r.frozen 6
                  have f7 := hs3.r.frozen 7
                  have HS := Lib.hid hS8
                  clear hS8
                  go_wp2
                  refine bodyPost_ret (v := .agg #[.int .u32 b0, .int .u32 b1, .int .u32 b2, .int .u32 b3, .int .u32 b4, .int .u32 b5, .int .u32 b6, .int .u32 b7]) (by simp [results, Try.results40, go_sem, r0, r1, r2, r3, r4, r5, r6, r7]) rfl ⟨?_, ?_⟩
                  · have e : stepOf st s.data.toList ks = [b0, b1, b2, b3, b4, b5, b6, b7] := by rw [stepOf, ← HW.out, ← HR.out.1, HS.out]
                    rw [e]; rfl
                  · exact (((((((hs3.bel.setCell (by simp; omega) _).setCell (by simp; omega) _).setCell (by simp; omega) _).setCell (by simp; omega) _).setCell (by simp; omega) _).setCell (by simp; omega) _).setCell (by simp; omega) _).setCell (by simp; omega) _
end Go.Proofs.Ytlgpdmejnabinaa
