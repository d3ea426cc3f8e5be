/- The walk of the reference's block. -/
import Derived.Test.YtlgpdmejnabinaaRefA
namespace Go.Proofs.Ytlgpdmejnabinaa
open Go.RowKit

structure QR (w : World) (st W : List Int) (wr : World) : Prop where
  bel : Below w.heap.size w wr
  size : wr.heap.size = w.heap.size + 3
  a : wr.rowIs w.heap.size 56 8 (W32 st)
  r : wr.rowIs (w.heap.size + 1) 56 8 (fun _ => .int .u32 0)
  v : wr.rowIs (w.heap.size + 1 + 1) 58 64 (W32 W)
theorem below_drewN {B : Nat} {a w : World} (h : Below B a w) (n : Nat) : Below B a (w.drewN n) := ⟨h.os, h.tape, h.output, h.size, h.block⟩
theorem QR.drewN {w wr : World} {st W : List Int} (h : QR w st W wr) (n : Nat) : QR w st W (wr.drewN n) := ⟨below_drewN h.bel n, h.size, h.a, h.r, h.v⟩
theorem QR.put {w wr : World} {st W : List Int} (h : QR w st W wr) (t : Nat) (x : Int) (hl : W.length = 64) (ht : t < 64) :
    QR w st (W.set t x) (wr.setCell ⟨w.heap.size + 1 + 1, t, none⟩ (.int .u32 x)) :=
  ⟨h.bel.setCell (by simp; omega) _, by simp [World.setCell, h.size], h.a.setOther (by simp; omega) _, h.r.setOther (by simp) _,
    (h.v.set t _).congr fun j _ => by
      simp only [W32, set_getD W t j x (by omega)]
      split <;> rfl⟩
theorem QR.start (w : World) (st : List Int) (h1 : st.length = 8) (c56 c58 : Array Value) (e56 : c56 = (List.replicate 8 (Value.int .u32 0)).toArray) (e58 : c58 = (List.replicate 64 (Value.int .u32 0)).toArray) :
    QR w st (List.replicate 64 0) (((w.alloc (.cells ⟨st.map (Value.int .u32)⟩ 56)).alloc (.cells c56 56)).alloc (.cells c58 58)) := by
  subst e56 e58
  refine ⟨?_, by simp, ?_, ?_, ?_⟩
  · exact (((Below.refl _ _).alloc (Nat.le_refl _) _).alloc (by simp) _).alloc (by simp; omega) _
  · have := World.rowIs_alloc w ⟨st.map (Value.int .u32)⟩ 56 (W32 st) (fun i hi => by simp at hi ⊢; simp [W32, hi])
    simp only [List.size_toArray, List.length_map, h1] at this
    exact (this.alloc _).alloc _
  · have := World.rowIs_alloc (w.alloc (.cells ⟨st.map (Value.int .u32)⟩ 56)) (List.replicate 8 (Value.int .u32 0)).toArray 56 (fun _ => .int .u32 0) (fun i hi => rep_get 8 i _ (by simpa using hi))
    have := this.alloc (.cells (List.replicate 64 (Value.int .u32 0)).toArray 58)
    simpa using this
  · have := World.rowIs_alloc ((w.alloc (.cells ⟨st.map (Value.int .u32)⟩ 56)).alloc (.cells (List.replicate 8 (Value.int .u32 0)).toArray 56)) (List.replicate 64 (Value.int .u32 0)).toArray 58 (W32 (List.replicate 64 0)) (fun i hi => by rw [rep_get 64 i _ (by simpa using hi), W32, rep_getD 64 i (by simpa using hi)])
    simpa using this
/-- with the constants at block g and the variables behind it -/
structure QR2 (w : World) (g : Nat) (A W X : List Int) (wr : World) : Prop where
  bel : Below w.heap.size w wr
  lo : w.heap.size + 3 ≤ g
  a : wr.rowIs w.heap.size 56 8 (W32 A)
  r : wr.rowIs (w.heap.size + 1) 56 8 (fun _ => .int .u32 0)
  v : wr.rowIs (w.heap.size + 1 + 1) 58 64 (W32 W)
  k : wr.rowIs g 58 64 (W32 K64)
  x : wr.rowIs (g + 1) 56 8 (W32 X)
theorem QR2.drewN {w wr : World} {g : Nat} {A W X : List Int} (h : QR2 w g A W X wr) (n : Nat) : QR2 w g A W X (wr.drewN n) := ⟨below_drewN h.bel n, h.lo, h.a, h.r, h.v, h.k, h.x⟩
theorem QR2.put {w wr : World} {g : Nat} {A W X : List Int} (h : QR2 w g A W X wr) (t : Nat) (x : Int) (hl : X.length = 8) (ht : t < 8) :
    QR2 w g A W (X.set t x) (wr.setCell ⟨g + 1, t, none⟩ (.int .u32 x)) :=
  have lo := h.lo
  ⟨h.bel.setCell (by simp; omega) _, lo, h.a.setOther (by simp; omega) _, h.r.setOther (by simp; omega) _, h.v.setOther (by simp; omega) _, h.k.setOther (by simp) _,
    (h.x.set t _).congr fun j _ => by
      simp only [W32, set_getD X t j x (by omega)]
      split <;> rfl⟩
theorem QR2.putA {w wr : World} {g : Nat} {A W X : List Int} (h : QR2 w g A W X wr) (t : Nat) (x : Int) (hl : A.length = 8) (ht : t < 8) :
    QR2 w g (A.set t x) W X (wr.setCell ⟨w.heap.size, t, none⟩ (.int .u32 x)) :=
  have lo := h.lo
  ⟨h.bel.setCell (by simp) _, lo, (h.a.set t _).congr (fun j _ => by
      simp only [W32, set_getD A t j x (by omega)]
      split <;> rfl), h.r.setOther (by simp) _, h.v.setOther (by simp; omega) _, h.k.setOther (by simp; omega) _, h.x.setOther (by simp; omega) _⟩
/-- the state with n of its words added -/
def addRef (s : List Int) (st : List Int) : Nat → List Int
  | 0 => st
  | n + 1 => (addRef s st n).set n (((addRef s st n).getD n 0 + s.getD n 0) % 4294967296)
theorem addRef_len (s st : List Int) (n : Nat) : (addRef s st n).length = st.length := by induction n with
  | zero => rfl
  | succ n ih => simp [addRef, ih]
theorem addRef_eq (s st : List Int) (hs : s.length = 8) (ht : st.length = 8) : addRef s st 8 = addAll st s 8 := by
  obtain ⟨a, b, c, d, e, f, g, i, rfl⟩ := list8 s hs
  obtain ⟨a', b', c', d', e', f', g', i', rfl⟩ := list8 st ht
  simp [addRef, addAll, Int.add_comm]
theorem load_row_of {w : World} {g : Nat} {t : TypeId} {n : Nat} {l : List Int} (h : w.rowIs g t n (W32 l)) (hl : l.length = n) : w.heap[g]? = some (.cells ⟨l.map (Value.int .u32)⟩ t (0, 0)) := by
  obtain ⟨c, hg, hs, hc⟩ := h
  rw [hg]
  congr 2
  apply Array.ext_getElem?
  intro i
  by_cases hi : i < n
  · rw [hc i hi]; simp [W32, hl, hi]
  · rw [Array.getElem?_eq_none (by omega), Array.getElem?_eq_none (by simp; omega)]
theorem QR.two {w wr w5 : World} {st W : List Int} (h : QR w st W wr) (hb : Below wr.heap.size wr w5) (hl : st.length = 8) (c : Array Value) (c8 : Array Value) (h8 : c8 = ⟨st.map (Value.int .u32)⟩) :
    QR2 w w5.heap.size st W st (((w5.alloc (.cells c 58)).setRow w5.heap.size KA).alloc (.cells c8 56)) := by
  subst h8
  rw [World.setRow_alloc_new]
  have hz := h.size
  have hz5 := hb.size
  have k1 : ∀ {g : Nat} {t : TypeId} {n : Nat} {f : Nat → Value}, g < wr.heap.size → wr.rowIs g t n f → ((w5.alloc (.cells KA 58)).alloc (.cells ⟨st.map (Value.int .u32)⟩ 56)).rowIs g t n f :=
    fun hg hr => ((hr.of_block (hb.block _ hg)).alloc _).alloc _
  have hk := (World.rowIs_alloc w5 KA 58 (W32 K64) (fun i hi => by
    have hi' : i < K64.length := by simpa [KA] using hi
    simp [KA, W32, hi'])).alloc (.cells ⟨st.map (Value.int .u32)⟩ 56)
  have hx := World.rowIs_alloc (w5.alloc (.cells KA 58)) ⟨st.map (Value.int .u32)⟩ 56 (W32 st) (fun i hi => by simp at hi ⊢; simp [W32, hi])
  simp only [List.size_toArray, List.length_map, hl] at hx
  refine ⟨?_, by omega, k1 (by omega) h.a, k1 (by omega) h.r, k1 (by omega) h.v, hk, by simpa using hx⟩
  exact ((h.bel.trans (hb.mono h.bel.size)).alloc (by omega) _).alloc (by simp; omega) _

set_option maxHeartbeats 8000000 in
set_option maxRecDepth 100000 in
theorem block_any (a0 a1 a2 a3 a4 a5 a6 a7 : Int) (st : List Int) (s : ByteArray) (w : World) (h1 : st = [a0, a1, a2, a3, a4, a5, a6, a7]) (h2 : s.size = 64) :
    Calls Try.prog 43 #[.agg #[.int .u32 a0, .int .u32 a1, .int .u32 a2, .int .u32 a3, .int .u32 a4, .int .u32 a5, .int .u32 a6, .int .u32 a7], .string s] w fun e w' => e = .returned (.agg ⟨(stepOf st s.data.toList K64).map (Value.int .u32)⟩) ∧ Below w.heap.size w w' := by
  have H1 := Lib.hid h1
  have H2 := Lib.hid h2
  clear h1 h2
  go_enter Try.func43, Try.ntmps43
  go_wp2_with fail
  go_loopw [6] (fun i wr => ∃ t : Nat, t ≤ 16 ∧ i = .int .i64 t ∧ QR w st (fill s.data.toList t) wr) (fun i _ => 16 - (intOf i).toNat)
  case atStart => exact ⟨0, by omega, rfl, by
      have := H1.out
      subst this
      exact QR.start w _ rfl _ _ rfl rfl⟩
  case round =>
    obtain ⟨t, ht, rfl, hsr⟩ := hrel
    by_cases hlt : t < 16
    · have hd : decide ((t : Int) < 16) = true := by simp; omega
      have hc := hsr.v.cell (i := t) (by omega)
      have hf := hsr.v.frozen t
      obtain ⟨n0, hn0⟩ : ∃ n : Nat, n = 4 * t := ⟨_, rfl⟩
      obtain ⟨n1, hn1⟩ : ∃ n : Nat, n = 4 * t + 1 := ⟨_, rfl⟩
      obtain ⟨n2, hn2⟩ : ∃ n : Nat, n = 4 * t + 2 := ⟨_, rfl⟩
      obtain ⟨n3, hn3⟩ : ∃ n : Nat, n = 4 * t + 3 := ⟨_, rfl⟩
      have i0 : n0 < s.size := by have := H2.out; omega
      have i1 : n1 < s.size := by have := H2.out; omega
      have i2 : n2 < s.size := by have := H2.out; omega
      have i3 : n3 < s.size := by have := H2.out; omega
      have hb : (t : Int) < 64 := by omega
      have hw0 : IntKind.i64.wrap (4 * (t : Int)) = (n0 : Int) := by rw [IntWalk.i64_in _ (by omega)]; omega
      have hw1 : IntKind.i64.wrap ((n0 : Int) + 1) = (n1 : Int) := by rw [IntWalk.i64_in _ (by omega)]; omega
      have hw2 : IntKind.i64.wrap ((n0 : Int) + 2) = (n2 : Int) := by rw [IntWalk.i64_in _ (by omega)]; omega
      have hw3 : IntKind.i64.wrap ((n0 : Int) + 3) = (n3 : Int) := by rw [IntWalk.i64_in _ (by omega)]; omega
      have HN := Lib.hid (And.intro hn0 (And.intro hn1 (And.intro hn2 hn3)))
      clear hn0 hn1 hn2 hn3
      go_wp2_with fail
      refine region_st 31 (by kernel_rfl) (by kernel_rfl) ?_
      simp only [List.take_succ_cons, List.take_zero, List.drop_succ_cons, List.drop_zero]
      repeat still_step
      refine wpStill_nil ?_
      clear hw0 hw1 hw2 hw3
      go_wp2_with fail
      go_roundw
      case rel =>
        refine ⟨t + 1, by omega, by go_num, ?_⟩
        rw [byte_mod s n0 i0, byte_mod s n1 i1, byte_mod s n2 i2, byte_mod s n3 i3, HN.out.1, HN.out.2.1, HN.out.2.2.1, HN.out.2.2.2]
        have := (hsr.put t (refWord s.data.toList t) (fill_len _ _) (by omega)).drewN 1
        rw [refWord_eq] at this
        have e := refWord_eq s.data.toList t
        unfold refWord at e
        rw [e]
        exact this
      case measure => simp [intOf]; omega
    · have HT := Lib.hid (show t = 16 by omega)
      have hd0 : decide ((t : Int) < 16) = false := by simp; omega
      replace hsr : QR w st (fill s.data.toList 16) wr := by have := HT.out; subst this; exact hsr
      go_wp2_with fail
      go_loopw [7] (fun i wi => ∃ c : Nat, 16 ≤ c ∧ c ≤ 64 ∧ i = .int .i64 (c : Int) ∧ QR w st (sched (fill s.data.toList 16) (c - 16)) wi) (fun i _ => 64 - (intOf i).toNat)
      case atStart => exact ⟨16, by omega, by omega, rfl, hsr⟩
      case round =>
        obtain ⟨c, hq0, hq, rfl, hsi⟩ := hrel
        obtain ⟨L, hL⟩ : ∃ L, L = sched (fill s.data.toList 16) (c - 16) := ⟨_, rfl⟩
        rw [← hL] at hsi
        by_cases hlq : c < 64
        · have hd : decide ((c : Int) < 64) = true := by simp; omega
          obtain ⟨i1, hi1⟩ : ∃ i : Nat, i = c - 15 := ⟨_, rfl⟩
          obtain ⟨i2, hi2⟩ : ∃ i : Nat, i = c - 2 := ⟨_, rfl⟩
          obtain ⟨i3, hi3⟩ : ∃ i : Nat, i = c - 16 := ⟨_, rfl⟩
          obtain ⟨i4, hi4⟩ : ∃ i : Nat, i = c - 7 := ⟨_, rfl⟩
          have hw1 : IntKind.i64.wrap ((c : Int) - 15) = (i1 : Int) := by rw [IntWalk.i64_in _ (by omega)]; omega
          have hw2 : IntKind.i64.wrap ((c : Int) - 2) = (i2 : Int) := by rw [IntWalk.i64_in _ (by omega)]; omega
          have hw3 : IntKind.i64.wrap ((c : Int) - 16) = (i3 : Int) := by rw [IntWalk.i64_in _ (by omega)]; omega
          have hw4 : IntKind.i64.wrap ((c : Int) - 7) = (i4 : Int) := by rw [IntWalk.i64_in _ (by omega)]; omega
          have b1 : (i1 : Int) < 64 := by omega
          have b2 : (i2 : Int) < 64 := by omega
          have b3 : (i3 : Int) < 64 := by omega
          have b4 : (i4 : Int) < 64 := by omega
          have b5 : (c : Int) < 64 := by omega
          have c1 : wr.cell? ⟨w.heap.size + 1 + 1, i1, none⟩ = some (.int .u32 (L.getD i1 0)) := hsi.v.cell (by omega)
          have c2 : wr.cell? ⟨w.heap.size + 1 + 1, i2, none⟩ = some (.int .u32 (L.getD i2 0)) := hsi.v.cell (by omega)
          have c3 : wr.cell? ⟨w.heap.size + 1 + 1, i3, none⟩ = some (.int .u32 (L.getD i3 0)) := hsi.v.cell (by omega)
          have c4 : wr.cell? ⟨w.heap.size + 1 + 1, i4, none⟩ = some (.int .u32 (L.getD i4 0)) := hsi.v.cell (by omega)
          have c5 : wr.cell? ⟨w.heap.size + 1 + 1, c, none⟩ = some (.int .u32 (L.getD c 0)) := hsi.v.cell (by omega)
          have hf := hsi.v.frozen c
          generalize hx : L.getD i1 0 = x at *
          generalize hy : L.getD i2 0 = y at *
          generalize hz : L.getD i3 0 = z at *
          generalize hu : L.getD i4 0 = u at *
          generalize L.getD c 0 = v at *
          have HX := Lib.hid (And.intro hL (And.intro hx (And.intro hy (And.intro hz (And.intro hu (And.intro hi1 (And.intro hi2 (And.intro hi3 hi4))))))))
          clear hL hx hy hz hu hi1 hi2 hi3 hi4
          go_wp2_with fail
          go_quiet ((go_at_call 56; exact quietOf2 (rrot_any _ _ _ (by omega) (by omega))))
          go_wp2_with fail
          go_quiet ((go_at_call 56; exact quietAdd2 (rrot_any _ _ _ (by omega) (by omega))))
          go_wp2_with fail
          refine region_st 15 (by kernel_rfl) (by kernel_rfl) ?_
          simp only [List.take_succ_cons, List.take_zero, List.drop_succ_cons, List.drop_zero]
          repeat still_step
          refine wpStill_nil ?_
          clear hw1 hw2 hw3 hw4
          go_wp2_with fail
          go_roundw
          case rel =>
            refine ⟨c + 1, by omega, by omega, by go_num, ?_⟩
            obtain ⟨hL, hx, hy, hz, hu, hi1, hi2, hi3, hi4⟩ := HX.out
            have e : sched (fill s.data.toList 16) (c + 1 - 16) = L.set c (nextW L c) := by
              rw [show c + 1 - 16 = (c - 16) + 1 by omega, sched, show 16 + (c - 16) = c by omega, hL]
            rw [e]
            have hl64 : L.length = 64 := by rw [hL, sched_len, fill_len]
            rw [nextW, ← hi1, ← hi2, ← hi3, ← hi4, hx, hy, hz, hu]
            exact (hsi.drewN _).put c _ hl64 (by omega)
          case measure => simp [intOf]; omega
        · have hd : decide ((c : Int) < 64) = false := by simp; omega
          have HC := Lib.hid (show c = 64 by omega)
          have e48 : c - 16 = 48 := by rw [HC.out]
          rw [hL, e48] at hsi
          clear hL e48
          obtain ⟨W, hW⟩ : ∃ W, W = sched (fill s.data.toList 16) 48 := ⟨_, rfl⟩
          rw [← hW] at hsi
          have HW := Lib.hid hW
          clear hW
          go_wp2_with fail
          refine (roots_any _).mono ?_
          rintro e w5 ⟨rfl, hb5⟩
          have hz := hsi.size
          have hz5 := hb5.size
          have hst : st.length = 8 := by rw [H1.out]; rfl
          have hrow : ((w5.alloc (.cells (List.replicate 64 (Value.int .u32 0)).toArray 58)).setRow w5.heap.size KA).heap[w.heap.size]? = some (.cells #[.int .u32 a0, .int .u32 a1, .int .u32 a2, .int .u32 a3, .int .u32 a4, .int .u32 a5, .int .u32 a6, .int .u32 a7] 56 (0, 0)) := by
            rw [World.setRow_alloc_new, Below.heap_alloc _ _ _ (by omega), hb5.block _ (by omega)]
            have hr := load_row_of hsi.a hst
            rw [H1.out] at hr
            exact hr
          have HROW := Lib.hid (And.intro hrow hst)
          clear hz hz5 hst hrow
          go_wp2_with (first
            | (refine wpList_store_row rfl 58 _ _ rfl w5.heap.size KA rfl rfl 58 _ (heap_alloc_new w5 _) (by kernel_rfl) (by kernel_rfl) (by kernel_rfl) ?_)
            | (refine wpList_load_row rfl 56 _ rfl w.heap.size rfl 56 _ (0, 0) _ HROW.out.1 Try.underlying56 rfl (by kernel_rfl) ?_))
          have hst : st.length = 8 := HROW.out.2
          go_loopw [12] (fun i wi => ∃ n : Nat, n ≤ 64 ∧ i = .int .i64 (n : Int) ∧ QR2 w w5.heap.size st W (rounds' K64 W st n) wi) (fun i _ => 64 - (intOf i).toNat)
          case atStart => exact ⟨0, by omega, rfl, hsi.two hb5 hst _ _ (by rw [H1.out]; rfl)⟩
          case round =>
            obtain ⟨n, hn, rfl, hs2⟩ := hrel
            obtain ⟨S, hS⟩ : ∃ S, S = rounds' K64 W st n := ⟨_, rfl⟩
            rw [← hS] at hs2
            by_cases hln : n < 64
            · have hd : decide ((n : Int) < 64) = true := by simp; omega
              have hb : (n : Int) < 64 := by omega
              obtain ⟨b0, b1, b2, b3, b4, b5, b6, b7, hS8⟩ := list8 S (by rw [hS]; exact rounds_len _ _ _ hst _)
              have d0 : wr.cell? ⟨w5.heap.size + 1, 0, none⟩ = some (.int .u32 b0) := by rw [hs2.x.cell (i := 0) (by omega), hS8]; rfl
              have d1 : wr.cell? ⟨w5.heap.size + 1, 1, none⟩ = some (.int .u32 b1) := by rw [hs2.x.cell (i := 1) (by omega), hS8]; rfl
              have d2 : wr.cell? ⟨w5.heap.size + 1, 2, none⟩ = some (.int .u32 b2) := by rw [hs2.x.cell (i := 2) (by omega), hS8]; rfl
              have d3 : wr.cell? ⟨w5.heap.size + 1, 3, none⟩ = some (.int .u32 b3) := by rw [hs2.x.cell (i := 3) (by omega), hS8]; rfl
              have d4 : wr.cell? ⟨w5.heap.size + 1, 4, none⟩ = some (.int .u32 b4) := by rw [hs2.x.cell (i := 4) (by omega), hS8]; rfl
              have d5 : wr.cell? ⟨w5.heap.size + 1, 5, none⟩ = some (.int .u32 b5) := by rw [hs2.x.cell (i := 5) (by omega), hS8]; rfl
              have d6 : wr.cell? ⟨w5.heap.size + 1, 6, none⟩ = some (.int .u32 b6) := by rw [hs2.x.cell (i := 6) (by omega), hS8]; rfl
              have d7 : wr.cell? ⟨w5.heap.size + 1, 7, none⟩ = some (.int .u32 b7) := by rw [hs2.x.cell (i := 7) (by omega), hS8]; rfl
              have e1 : wr.cell? ⟨w5.heap.size, n, none⟩ = some (.int .u32 (K64.getD n 0)) := hs2.k.cell (by omega)
              have e2 : wr.cell? ⟨w.heap.size + 1 + 1, n, none⟩ = some (.int .u32 (W.getD n 0)) := hs2.v.cell (by omega)
              have f0 := hs2.x.frozen 0
              have f1 := hs2.x.frozen 1
              have f2 := hs2.x.frozen 2
              have f3 := hs2.x.frozen 3
              have f4 := hs2.x.frozen 4
              have f5 := hs2.x.frozen 5
              have f6 := hs2.x.frozen 6
              have f7 := hs2.x.frozen 7
              generalize hx : K64.getD n 0 = x at *
              generalize hy : W.getD n 0 = y at *
              have HX := Lib.hid (And.intro hS (And.intro hS8 (And.intro hx hy)))
              clear hS hS8 hx hy hst
              go_wp2_with fail
              go_quiet (fail)
              go_wp2_with fail
              go_quiet ((go_at_call 56; exact quietAdd2 (rrot_any _ _ _ (by omega) (by omega))))
              go_wp2_with (go_at_call 56; refine (rrot_any _ _ _ (by omega) (by omega)).mono ?_; rintro e w' ⟨rfl, mq, rfl⟩)
              go_roundw
              case rel =>
                refine ⟨n + 1, by omega, by go_num, ?_⟩
                obtain ⟨hS, hS8, hx, hy⟩ := HX.out
                have e : rounds' K64 W st (n + 1) = roundOf [b0, b1, b2, b3, b4, b5, b6, b7] x y := by rw [rounds', ← hS, hS8, hx, hy]
                rw [e]
                rw [hS8] at hs2
                exact ((((((((hs2.drewN _).put 0 _ rfl (by omega)).put 1 _ rfl (by omega)).put 2 _ rfl (by omega)).put 3 _ rfl (by omega)).put 4 _ rfl (by omega)).put 5 _ rfl (by omega)).put 6 _ rfl (by omega)).put 7 _ rfl (by omega)
              case measure => simp [intOf]; omega
            · have hd : decide ((n : Int) < 64) = false := by simp; omega
              have e64 : n = 64 := by omega
              rw [hS, e64] at hs2
              have HN := Lib.hid e64
              clear hS e64
              obtain ⟨R, hR⟩ : ∃ R, R = rounds' K64 W st 64 := ⟨_, rfl⟩
              rw [← hR] at hs2
              have hR8 : R.length = 8 := by rw [hR]; exact rounds_len _ _ _ hst _
              have HR := Lib.hid (And.intro hR (And.intro hR8 hst))
              clear hR hR8 hst
              go_wp2_with fail
              go_loopw [23] (fun i wi => ∃ m : Nat, m ≤ 8 ∧ i = .int .i64 (m : Int) ∧ QR2 w w5.heap.size (addRef R st m) W R wi) (fun i _ => 8 - (intOf i).toNat)
              case atStart => exact ⟨0, by omega, rfl, hs2⟩
              case round =>
                obtain ⟨m, hm, rfl, hs3⟩ := hrel
                obtain ⟨A, hA⟩ : ∃ A, A = addRef R st m := ⟨_, rfl⟩
                rw [← hA] at hs3
                have hA8 : A.length = 8 := by rw [hA, addRef_len]; exact HR.out.2.2
                by_cases hlm : m < 8
                · have hb : (m : Int) < 8 := by omega
                  have c1 : wr.cell? ⟨w.heap.size, m, none⟩ = some (.int .u32 (A.getD m 0)) := hs3.a.cell (by omega)
                  have c2 : wr.cell? ⟨w5.heap.size + 1, m, none⟩ = some (.int .u32 (R.getD m 0)) := hs3.x.cell (by omega)
                  have hf := hs3.a.frozen m
                  generalize hx : A.getD m 0 = x at *
                  generalize hy : R.getD m 0 = y at *
                  have HX := Lib.hid (And.intro hA (And.intro hA8 (And.intro hx hy)))
                  clear hA hA8 hx hy
                  go_wp2_with fail
                  refine region_st 8 (by kernel_rfl) (by kernel_rfl) ?_
                  simp only [List.take_succ_cons, List.take_zero, List.drop_succ_cons, List.drop_zero]
                  repeat still_step
                  refine wpStill_nil ?_
                  go_wp2_with fail
                  go_roundw
                  case rel =>
                    refine ⟨m + 1, by omega, by go_num, ?_⟩
                    obtain ⟨hA, hA8, hx, hy⟩ := HX.out
                    rw [addRef, ← hA, hx, hy]
                    exact (hs3.putA m _ hA8 (by omega)).drewN 1
                  case measure => simp [intOf]; omega
                · have e8 : m = 8 := by omega
                  rw [hA, e8] at hs3
                  rw [hA, e8] at hA8
                  clear e8 hA
                  obtain ⟨b0, b1, b2, b3, b4, b5, b6, b7, hS8⟩ := list8 _ hA8
                  clear hA8
                  have d0 : wr.cell? ⟨w.heap.size, 0, none⟩ = some (.int .u32 b0) := by rw [hs3.a.cell (i := 0) (by omega), hS8]; rfl
                  have d1 : wr.cell? ⟨w.heap.size, 1, none⟩ = some (.int .u32 b1) := by rw [hs3.a.cell (i := 1) (by omega), hS8]; rfl
                  have d2 : wr.cell? ⟨w.heap.size, 2, none⟩ = some (.int .u32 b2) := by rw [hs3.a.cell (i := 2) (by omega), hS8]; rfl
                  have d3 : wr.cell? ⟨w.heap.size, 3, none⟩ = some (.int .u32 b3) := by rw [hs3.a.cell (i := 3) (by omega), hS8]; rfl
                  have d4 : wr.cell? ⟨w.heap.size, 4, none⟩ = some (.int .u32 b4) := by rw [hs3.a.cell (i := 4) (by omega), hS8]; rfl
                  have d5 : wr.cell? ⟨w.heap.size, 5, none⟩ = some (.int .u32 b5) := by rw [hs3.a.cell (i := 5) (by omega), hS8]; rfl
                  have d6 : wr.cell? ⟨w.heap.size, 6, none⟩ = some (.int .u32 b6) := by rw [hs3.a.cell (i := 6) (by omega), hS8]; rfl
                  have d7 : wr.cell? ⟨w.heap.size, 7, none⟩ = some (.int .u32 b7) := by rw [hs3.a.cell (i := 7) (by omega), hS8]; rfl
                  have r0 := hs3.r.cell (i := 0) (by omega)
                  have r1 := hs3.r.cell (i := 1) (by omega)
                  have r2 := hs3.r.cell (i := 2) (by omega)
                  have r3 := hs3.r.cell (i := 3) (by omega)
                  have r4 := hs3.r.cell (i := 4) (by omega)
                  have r5 := hs3.r.cell (i := 5) (by omega)
                  have r6 := hs3.r.cell (i := 6) (by omega)
                  have r7 := hs3.r.cell (i := 7) (by omega)
                  have f0 := hs3.r.frozen 0
                  have f1 := hs3.r.frozen 1
                  have f2 := hs3.r.frozen 2
                  have f3 := hs3.r.frozen 3
                  have f4 := hs3.r.frozen 4
                  have f5 := hs3.r.frozen 5
                  have f6 := hs3.r.frozen 6
                  have f7 := hs3.r.frozen 7
                  have HS := Lib.hid hS8
                  clear hS8
                  go_wp2_with fail
                  refine bodyPost_ret (v := .agg #[.int .u32 b0, .int .u32 b1, .int .u32 b2, .int .u32 b3, .int .u32 b4, .int .u32 b5, .int .u32 b6, .int .u32 b7]) (by simp [results, Try.results43, go_sem, r0, r1, r2, r3, r4, r5, r6, r7]) rfl ⟨?_, ?_⟩
                  · have e : stepOf st s.data.toList K64 = [b0, b1, b2, b3, b4, b5, b6, b7] := by
                      rw [stepOf, ← HW.out, ← HR.out.1, ← addRef_eq R st HR.out.2.1 HR.out.2.2, HS.out]
                    rw [e]; rfl
                  · exact (((((((hs3.bel.setCell (by simp) _).setCell (by simp) _).setCell (by simp) _).setCell (by simp) _).setCell (by simp) _).setCell (by simp) _).setCell (by simp) _).setCell (by simp) _
end Go.Proofs.Ytlgpdmejnabinaa
