/- The walk of the reference's block. -/
import Derived.Test.YtjcbohbpkodkoaaGreatDoorQ8
import Derived.Test.YtjcbohbpkodkoaaGreatDoorQ7
import Derived.Test.YtjcbohbpkodkoaaGreatDoorQ3
import Derived.Test.YtjcbohbpkodkoaaGreatDoorQ6
import Derived.Lib.ConvBytes
import Derived.Lib.SmallJoins
import Derived.Deep.DeepMust
namespace Go.Proofs.YtjcbohbpkodkoaaGreatDoor.Sha
open Go.RowKit

structure QR (w : World) (st W : List Int) (wr : World) : Prop where
  bel : Below w.heap.size w wr
  size : wr.heap.size = w.heap.size + 3
  a : wr.rowIs w.heap.size 123 8 (W32 st)
  r : wr.rowIs (w.heap.size + 1) 123 8 (fun _ => .int .u32 0)
  v : wr.rowIs (w.heap.size + 1 + 1) 125 64 (W32 W)
theorem below_drewN {B : Nat} {a w : World} (h : Below B a w) (n : Nat) : Below B a (w.drewN n) := ⟨h.os, h.tape, h.output, h.size, h.block⟩
theorem QR.drewN {w wr : World} {st W : List Int} (h : QR w st W wr) (n : Nat) : QR w st W (wr.drewN n) := ⟨below_drewN h.bel n, h.size, h.a, h.r, h.v⟩
theorem QR.put {w wr : World} {st W : List Int} (h : QR w st W wr) (t : Nat) (x : Int) (hl : W.length = 64) (ht : t < 64) :
    QR w st (W.set t x) (wr.setCell ⟨w.heap.size + 1 + 1, t, none⟩ (.int .u32 x)) :=
  ⟨h.bel.setCell (by simp; omega) _, by simp [World.setCell, h.size], h.a.setOther (by simp; omega) _, h.r.setOther (by simp) _,
    (h.v.set t _).congr fun j _ => by
      simp only [W32, set_getD W t j x (by omega)]
      split <;> rfl⟩
theorem QR.start (w : World) (st : List Int) (h1 : st.length = 8) (c56 c58 : Array Value) (e56 : c56 = (List.replicate 8 (Value.int .u32 0)).toArray) (e58 : c58 = (List.replicate 64 (Value.int .u32 0)).toArray) :
    QR w st (List.replicate 64 0) (((w.alloc (.cells ⟨st.map (Value.int .u32)⟩ 123)).alloc (.cells c56 123)).alloc (.cells c58 125)) := by
  subst e56 e58
  refine ⟨?_, by simp, ?_, ?_, ?_⟩
  · exact (((Below.refl _ _).alloc (Nat.le_refl _) _).alloc (by simp) _).alloc (by simp; omega) _
  · have := World.rowIs_alloc w ⟨st.map (Value.int .u32)⟩ 123 (W32 st) (fun i hi => by simp at hi ⊢; simp [W32, hi])
    simp only [List.size_toArray, List.length_map, h1] at this
    exact (this.alloc _).alloc _
  · have := World.rowIs_alloc (w.alloc (.cells ⟨st.map (Value.int .u32)⟩ 123)) (List.replicate 8 (Value.int .u32 0)).toArray 123 (fun _ => .int .u32 0) (fun i hi => rep_get 8 i _ (by simpa using hi))
    have := this.alloc (.cells (List.replicate 64 (Value.int .u32 0)).toArray 125)
    simpa using this
  · have := World.rowIs_alloc ((w.alloc (.cells ⟨st.map (Value.int .u32)⟩ 123)).alloc (.cells (List.replicate 8 (Value.int .u32 0)).toArray 123)) (List.replicate 64 (Value.int .u32 0)).toArray 125 (W32 (List.replicate 64 0)) (fun i hi => by rw [rep_get 64 i _ (by simpa using hi), W32, rep_getD 64 i (by simpa using hi)])
    simpa using this
/-- with the constants at block g and the variables behind it -/
structure QR2 (w : World) (g : Nat) (A W X : List Int) (wr : World) : Prop where
  bel : Below w.heap.size w wr
  lo : w.heap.size + 3 ≤ g
  a : wr.rowIs w.heap.size 123 8 (W32 A)
  r : wr.rowIs (w.heap.size + 1) 123 8 (fun _ => .int .u32 0)
  v : wr.rowIs (w.heap.size + 1 + 1) 125 64 (W32 W)
  k : wr.rowIs g 125 64 (W32 K64)
  x : wr.rowIs (g + 1) 123 8 (W32 X)
theorem QR2.drewN {w wr : World} {g : Nat} {A W X : List Int} (h : QR2 w g A W X wr) (n : Nat) : QR2 w g A W X (wr.drewN n) := ⟨below_drewN h.bel n, h.lo, h.a, h.r, h.v, h.k, h.x⟩
theorem QR2.put {w wr : World} {g : Nat} {A W X : List Int} (h : QR2 w g A W X wr) (t : Nat) (x : Int) (hl : X.length = 8) (ht : t < 8) :
    QR2 w g A W (X.set t x) (wr.setCell ⟨g + 1, t, none⟩ (.int .u32 x)) :=
  have lo := h.lo
  ⟨h.bel.setCell (by simp; omega) _, lo, h.a.setOther (by simp; omega) _, h.r.setOther (by simp; omega) _, h.v.setOther (by simp; omega) _, h.k.setOther (by simp) _,
    (h.x.set t _).congr fun j _ => by
      simp only [W32, set_getD X t j x (by omega)]
      split <;> rfl⟩
theorem QR2.putA {w wr : World} {g : Nat} {A W X : List Int} (h : QR2 w g A W X wr) (t : Nat) (x : Int) (hl : A.length = 8) (ht : t < 8) :
    QR2 w g (A.set t x) W X (wr.setCell ⟨w.heap.size, t, none⟩ (.int .u32 x)) :=
  have lo := h.lo
  ⟨h.bel.setCell (by simp) _, lo, (h.a.set t _).congr (fun j _ => by
      simp only [W32, set_getD A t j x (by omega)]
      split <;> rfl), h.r.setOther (by simp) _, h.v.setOther (by simp; omega) _, h.k.setOther (by simp; omega) _, h.x.setOther (by simp; omega) _⟩
/-- the state with n of its words added -/
def addRef (s : List Int) (st : List Int) : Nat → List Int
  | 0 => st
  | n + 1 => (addRef s st n).set n (((addRef s st n).getD n 0 + s.getD n 0) % 4294967296)
theorem addRef_len (s st : List Int) (n : Nat) : (addRef s st n).length = st.length := by induction n with
  | zero => rfl
  | succ n ih => simp [addRef, ih]
theorem addRef_eq (s st : List Int) (hs : s.length = 8) (ht : st.length = 8) : addRef s st 8 = addAll st s 8 := by
  obtain ⟨a, b, c, d, e, f, g, i, rfl⟩ := list8 s hs
  obtain ⟨a', b', c', d', e', f', g', i', rfl⟩ := list8 st ht
  simp [addRef, addAll, Int.add_comm]
theorem load_row_of {w : World} {g : Nat} {t : TypeId} {n : Nat} {l : List Int} (h : w.rowIs g t n (W32 l)) (hl : l.length = n) : w.heap[g]? = some (.cells ⟨l.map (Value.int .u32)⟩ t (0, 0)) := by
  obtain ⟨c, hg, hs, hc⟩ := h
  rw [hg]
  congr 2
  apply Array.ext_getElem?
  intro i
  by_cases hi : i < n
  · rw [hc i hi]; simp [W32, hl, hi]
  · rw [Array.getElem?_eq_none (by omega), Array.getElem?_eq_none (by simp; omega)]
theorem QR.two {w wr w5 : World} {st W : List Int} (h : QR w st W wr) (hb : Below wr.heap.size wr w5) (hl : st.length = 8) (c : Array Value) (c8 : Array Value) (h8 : c8 = ⟨st.map (Value.int .u32)⟩) :
    QR2 w w5.heap.size st W st (((w5.alloc (.cells c 125)).setRow w5.heap.size KA).alloc (.cells c8 123)) := by
  subst h8
  rw [World.setRow_alloc_new]
  have hz := h.size
  have hz5 := hb.size
  have k1 : ∀ {g : Nat} {t : TypeId} {n : Nat} {f : Nat → Value}, g < wr.heap.size → wr.rowIs g t n f → ((w5.alloc (.cells KA 125)).alloc (.cells ⟨st.map (Value.int .u32)⟩ 123)).rowIs g t n f :=
    fun hg hr => ((hr.of_block (hb.block _ hg)).alloc _).alloc _
  have hk := (World.rowIs_alloc w5 KA 125 (W32 K64) (fun i hi => by
    have hi' : i < K64.length := by simpa [KA] using hi
    simp [KA, W32, hi'])).alloc (.cells ⟨st.map (Value.int .u32)⟩ 123)
  have hx := World.rowIs_alloc (w5.alloc (.cells KA 125)) ⟨st.map (Value.int .u32)⟩ 123 (W32 st) (fun i hi => by simp at hi ⊢; simp [W32, hi])
  simp only [List.size_toArray, List.length_map, hl] at hx
  refine ⟨?_, by omega, k1 (by omega) h.a, k1 (by omega) h.r, k1 (by omega) h.v, hk, by simpa using hx⟩
  exact ((h.bel.trans (hb.mono h.bel.size)).alloc (by omega) _).alloc (by simp; omega) _

set_option maxHeartbeats 8000000 in
set_option maxRecDepth 100000 in
theorem block_any (a0 a1 a2 a3 a4 a5 a6 a7 : Int) (st : List Int) (s : ByteArray) (w : World) (h1 : st = [a0, a1, a2, a3, a4, a5, a6, a7]) (h2 : s.size = 64) :
    Calls Tryz.prog 89 #[.agg #[.int .u32 a0, .int .u32 a1, .int .u32 a2, .int .u32 a3, .int .u32 a4, .int .u32 a5, .int .u32 a6, .int .u32 a7], .string s] w fun e w' => e = .returned (.agg ⟨(stepOf st s.data.toList K64).map (Value.int .u32)⟩) ∧ Below w.heap.size w w' := by
  have H1 := Lib.hid h1
  have H2 := Lib.hid h2
  clear h1 h2
  go_enter Tryz.func89, Tryz.ntmps89
  go_wp2_with fail
  go_loopw [6] (fun i wr => ∃ t : Nat, t ≤ 16 ∧ i = .int .i64 t ∧ QR w st (fill s.data.toList t) wr) (fun i _ => 16 - (intOf i).toNat)
  case atStart => exact ⟨0, by omega, rfl, by
      have := H1.out
      subst this
      exact QR.start w _ rfl _ _ rfl rfl⟩
  case round =>
    obtain ⟨t, ht, rfl, hsr⟩ := hrel
    by_cases hlt : t < 16
    · have hd : decide ((t : Int) < 16) = true := by simp; omega
      have hc := hsr.v.cell (i := t) (by omega)
      have hf := hsr.v.frozen t
      obtain ⟨n0, hn0⟩ : ∃ n : Nat, n = 4 * t := ⟨_, rfl⟩
      obtain ⟨n1, hn1⟩ : ∃ n : Nat, n = 4 * t + 1 := ⟨_, rfl⟩
      obtain ⟨n2, hn2⟩ : ∃ n : Nat, n = 4 * t + 2 := ⟨_, rfl⟩
      obtain ⟨n3, hn3⟩ : ∃ n : Nat, n = 4 * t + 3 := ⟨_, rfl⟩
      have i0 : n0 < s.size := by have := H2.out; omega
      have i1 : n1 < s.size := by have := H2.out; omega
      have i2 : n2 < s.size := by have := H2.out; omega
      have i3 : n3 < s.size := by have := H2.out; omega
      have hb : (t : Int) < 64 := by omega
      have hw0 : IntKind.i64.wrap (4 * (t : Int)) = (n0 : Int) := by rw [IntWalk.i64_in _ (by omega)]; omega
      have hw1 : IntKind.i64.wrap ((n0 : Int) + 1) = (n1 : Int) := by rw [IntWalk.i64_in _ (by omega)]; omega
      have hw2 : IntKind.i64.wrap ((n0 : Int) + 2) = (n2 : Int) := by rw [IntWalk.i64_in _ (by omega)]; omega
      have hw3 : IntKind.i64.wrap ((n0 : Int) + 3) = (n3 : Int) := by rw [IntWalk.i64_in _ (by omega)]; omega
      have HN := Lib.hid (And.intro hn0 (And.intro hn1 (And.intro hn2 hn3)))
      clear hn0 hn1 hn2 hn3
      go_wp2_with fail
      refine region_st 31 (by kernel_rfl) (by kernel_rfl) ?_
      simp only [List.take_succ_cons, List.take_zero, List.drop_succ_cons, List.drop_zero]
      repeat still_step
      refine wpStill_nil ?_
      clear hw0 hw1 hw2 hw3
      go_wp2_with fail
      go_roundw
      case rel =>
        refine ⟨t + 1, by omega, by go_num, ?_⟩
        rw [byte_mod s n0 i0, byte_mod s n1 i1, byte_mod s n2 i2, byte_mod s n3 i3, HN.out.1, HN.out.2.1, HN.out.2.2.1, HN.out.2.2.2]
        have := (hsr.put t (refWord s.data.toList t) (fill_len _ _) (by omega)).drewN 1
        rw [refWord_eq] at this
        have e := refWord_eq s.data.toList t
        unfold refWord at e
        rw [e]
        exact this
      case measure => simp [intOf]; omega
    · have HT := Lib.hid (show t = 16 by omega)
      have hd0 : decide ((t : Int) < 16) = false := by simp; omega
      replace hsr : QR w st (fill s.data.toList 16) wr := by have := HT.out; subst this; exact hsr
      go_wp2_with fail
      go_loopw [7] (fun i wi => ∃ c : Nat, 16 ≤ c ∧ c ≤ 64 ∧ i = .int .i64 (c : Int) ∧ QR w st (sched (fill s.data.toList 16) (c - 16)) wi) (fun i _ => 64 - (intOf i).toNat)
      case atStart => exact ⟨16, by omega, by omega, rfl, hsr⟩
      case round =>
        obtain ⟨c, hq0, hq, rfl, hsi⟩ := hrel
        obtain ⟨L, hL⟩ : ∃ L, L = sched (fill s.data.toList 16) (c - 16) := ⟨_, rfl⟩
        rw [← hL] at hsi
        by_cases hlq : c < 64
        · have hd : decide ((c : Int) < 64) = true := by simp; omega
          obtain ⟨i1, hi1⟩ : ∃ i : Nat, i = c - 15 := ⟨_, rfl⟩
          obtain ⟨i2, hi2⟩ : ∃ i : Nat, i = c - 2 := ⟨_, rfl⟩
          obtain ⟨i3, hi3⟩ : ∃ i : Nat, i = c - 16 := ⟨_, rfl⟩
          obtain ⟨i4, hi4⟩ : ∃ i : Nat, i = c - 7 := ⟨_, rfl⟩
          have hw1 : IntKind.i64.wrap ((c : Int) - 15) = (i1 : Int) := by rw [IntWalk.i64_in _ (by omega)]; omega
          have hw2 : IntKind.i64.wrap ((c : Int) - 2) = (i2 : Int) := by rw [IntWalk.i64_in _ (by omega)]; omega
          have hw3 : IntKind.i64.wrap ((c : Int) - 16) = (i3 : Int) := by rw [IntWalk.i64_in _ (by omega)]; omega
          have hw4 : IntKind.i64.wrap ((c : Int) - 7) = (i4 : Int) := by rw [IntWalk.i64_in _ (by omega)]; omega
          have b1 : (i1 : Int) < 64 := by omega
          have b2 : (i2 : Int) < 64 := by omega
          have b3 : (i3 : Int) < 64 := by omega
          have b4 : (i4 : Int) < 64 := by omega
          have b5 : (c : Int) < 64 := by omega
          have c1 : wr.cell? ⟨w.heap.size + 1 + 1, i1, none⟩ = some (.int .u32 (L.getD i1 0)) := hsi.v.cell (by omega)
          have c2 : wr.cell? ⟨w.heap.size + 1 + 1, i2, none⟩ = some (.int .u32 (L.getD i2 0)) := hsi.v.cell (by omega)
          have c3 : wr.cell? ⟨w.heap.size + 1 + 1, i3, none⟩ = some (.int .u32 (L.getD i3 0)) := hsi.v.cell (by omega)
          have c4 : wr.cell? ⟨w.heap.size + 1 + 1, i4, none⟩ = some (.int .u32 (L.getD i4 0)) := hsi.v.cell (by omega)
          have c5 : wr.cell? ⟨w.heap.size + 1 + 1, c, none⟩ = some (.int .u32 (L.getD c 0)) := hsi.v.cell (by omega)
          have hf := hsi.v.frozen c
          generalize hx : L.getD i1 0 = x at *
          generalize hy : L.getD i2 0 = y at *
          generalize hz : L.getD i3 0 = z at *
          generalize hu : L.getD i4 0 = u at *
          generalize L.getD c 0 = v at *
          have HX := Lib.hid (And.intro hL (And.intro hx (And.intro hy (And.intro hz (And.intro hu (And.intro hi1 (And.intro hi2 (And.intro hi3 hi4))))))))
          clear hL hx hy hz hu hi1 hi2 hi3 hi4
          go_wp2_with fail
          go_quiet ((go_at_call 122; exact quietOf2 (rrot_any _ _ _ (by omega) (by omega))))
          go_wp2_with fail
          go_quiet ((go_at_call 122; exact quietAdd2 (rrot_any _ _ _ (by omega) (by omega))))
          go_wp2_with fail
          refine region_st 15 (by kernel_rfl) (by kernel_rfl) ?_
          simp only [List.take_succ_cons, List.take_zero, List.drop_succ_cons, List.drop_zero]
          repeat still_step
          refine wpStill_nil ?_
          clear hw1 hw2 hw3 hw4
          go_wp2_with fail
          go_roundw
          case rel =>
            refine ⟨c + 1, by omega, by omega, by go_num, ?_⟩
            obtain ⟨hL, hx, hy, hz, hu, hi1, hi2, hi3, hi4⟩ := HX.out
            have e : sched (fill s.data.toList 16) (c + 1 - 16) = L.set c (nextW L c) := by
              rw [show c + 1 - 16 = (c - 16) + 1 by omega, sched, show 16 + (c - 16) = c by omega, hL]
            rw [e]
            have hl64 : L.length = 64 := by rw [hL, sched_len, fill_len]
            rw [nextW, ← hi1, ← hi2, ← hi3, ← hi4, hx, hy, hz, hu]
            exact (hsi.drewN _).put c _ hl64 (by omega)
          case measure => simp [intOf]; omega
        · have hd : decide ((c : Int) < 64) = false := by simp; omega
          have HC := Lib.hid (show c = 64 by omega)
          have e48 : c - 16 = 48 := by rw [HC.out]
          rw [hL, e48] at hsi
          clear hL e48
          obtain ⟨W, hW⟩ : ∃ W, W = sched (fill s.data.toList 16) 48 := ⟨_, rfl⟩
          rw [← hW] at hsi
          have HW := Lib.hid hW
          clear hW
          go_wp2_with fail
          refine (roots_any _).mono ?_
          rintro e w5 ⟨rfl, hb5⟩
          have hz := hsi.size
          have hz5 := hb5.size
          have hst : st.length = 8 := by rw [H1.out]; rfl
          have hrow : ((w5.alloc (.cells (List.replicate 64 (Value.int .u32 0)).toArray 125)).setRow w5.heap.size KA).heap[w.heap.size]? = some (.cells #[.int .u32 a0, .int .u32 a1, .int .u32 a2, .int .u32 a3, .int .u32 a4, .int .u32 a5, .int .u32 a6, .int .u32 a7] 123 (0, 0)) := by
            rw [World.setRow_alloc_new, Below.heap_alloc _ _ _ (by omega), hb5.block _ (by omega)]
            have hr := load_row_of hsi.a hst
            rw [H1.out] at hr
            exact hr
          have HROW := Lib.hid (And.intro hrow hst)
          clear hz hz5 hst hrow
          go_wp2_with (first
            | (refine wpList_store_row rfl 125 _ _ rfl w5.heap.size KA rfl rfl 125 _ (heap_alloc_new w5 _) (by kernel_rfl) (by kernel_rfl) (by kernel_rfl) ?_)
            | (refine wpList_load_row rfl 123 _ rfl w.heap.size rfl 123 _ (0, 0) _ HROW.out.1 Tryz.underlying123 rfl (by kernel_rfl) ?_))
          have hst : st.length = 8 := HROW.out.2
          go_loopw [12] (fun i wi => ∃ n : Nat, n ≤ 64 ∧ i = .int .i64 (n : Int) ∧ QR2 w w5.heap.size st W (rounds' K64 W st n) wi) (fun i _ => 64 - (intOf i).toNat)
          case atStart => exact ⟨0, by omega, rfl, hsi.two hb5 hst _ _ (by rw [H1.out]; rfl)⟩
          case round =>
            obtain ⟨n, hn, rfl, hs2⟩ := hrel
            obtain ⟨S, hS⟩ : ∃ S, S = rounds' K64 W st n := ⟨_, rfl⟩
            rw [← hS] at hs2
            by_cases hln : n < 64
            · have hd : decide ((n : Int) < 64) = true := by simp; omega
              have hb : (n : Int) < 64 := by omega
              obtain ⟨b0, b1, b2, b3, b4, b5, b6, b7, hS8⟩ := list8 S (by rw [hS]; exact rounds_len _ _ _ hst _)
              have d0 : wr.cell? ⟨w5.heap.size + 1, 0, none⟩ = some (.int .u32 b0) := by rw [hs2.x.cell (i := 0) (by omega), hS8]; rfl
              have d1 : wr.cell? ⟨w5.heap.size + 1, 1, none⟩ = some (.int .u32 b1) := by rw [hs2.x.cell (i := 1) (by omega), hS8]; rfl
              have d2 : wr.cell? ⟨w5.heap.size + 1, 2, none⟩ = some (.int .u32 b2) := by rw [hs2.x.cell (i := 2) (by omega), hS8]; rfl
              have d3 : wr.cell? ⟨w5.heap.size + 1, 3, none⟩ = some (.int .u32 b3) := by rw [hs2.x.cell (i := 3) (by omega), hS8]; rfl
              have d4 : wr.cell? ⟨w5.heap.size + 1, 4, none⟩ = some (.int .u32 b4) := by rw [hs2.x.cell (i := 4) (by omega), hS8]; rfl
              have d5 : wr.cell? ⟨w5.heap.size + 1, 5, none⟩ = some (.int .u32 b5) := by rw [hs2.x.cell (i := 5) (by omega), hS8]; rfl
              have d6 : wr.cell? ⟨w5.heap.size + 1, 6, none⟩ = some (.int .u32 b6) := by rw [hs2.x.cell (i := 6) (by omega), hS8]; rfl
              have d7 : wr.cell? ⟨w5.heap.size + 1, 7, none⟩ = some (.int .u32 b7) := by rw [hs2.x.cell (i := 7) (by omega), hS8]; rfl
              have e1 : wr.cell? ⟨w5.heap.size, n, none⟩ = some (.int .u32 (K64.getD n 0)) := hs2.k.cell (by omega)
              have e2 : wr.cell? ⟨w.heap.size + 1 + 1, n, none⟩ = some (.int .u32 (W.getD n 0)) := hs2.v.cell (by omega)
              have f0 := hs2.x.frozen 0
              have f1 := hs2.x.frozen 1
              have f2 := hs2.x.frozen 2
              have f3 := hs2.x.frozen 3
              have f4 := hs2.x.frozen 4
              have f5 := hs2.x.frozen 5
              have f6 := hs2.x.frozen 6
              have f7 := hs2.x.frozen 7
              generalize hx : K64.getD n 0 = x at *
              generalize hy : W.getD n 0 = y at *
              have HX := Lib.hid (And.intro hS (And.intro hS8 (And.intro hx hy)))
              clear hS hS8 hx hy hst
              go_wp2_with fail
              go_quiet (fail)
              go_wp2_with fail
              go_quiet ((go_at_call 122; exact quietAdd2 (rrot_any _ _ _ (by omega) (by omega))))
              go_wp2_with (go_at_call 122; refine (rrot_any _ _ _ (by omega) (by omega)).mono ?_; rintro e w' ⟨rfl, mq, rfl⟩)
              go_roundw
              case rel =>
                refine ⟨n + 1, by omega, by go_num, ?_⟩
                obtain ⟨hS, hS8, hx, hy⟩ := HX.out
                have e : rounds' K64 W st (n + 1) = roundOf [b0, b1, b2, b3, b4, b5, b6, b7] x y := by rw [rounds', ← hS, hS8, hx, hy]
                rw [e]
                rw [hS8] at hs2
                exact ((((((((hs2.drewN _).put 0 _ rfl (by omega)).put 1 _ rfl (by omega)).put 2 _ rfl (by omega)).put 3 _ rfl (by omega)).put 4 _ rfl (by omega)).put 5 _ rfl (by omega)).put 6 _ rfl (by omega)).put 7 _ rfl (by omega)
              case measure => simp [intOf]; omega
            · have hd : decide ((n : Int) < 64) = false := by simp; omega
              have e64 : n = 64 := by omega
              rw [hS, e64] at hs2
              have HN := Lib.hid e64
              clear hS e64
              obtain ⟨R, hR⟩ : ∃ R, R = rounds' K64 W st 64 := ⟨_, rfl⟩
              rw [← hR] at hs2
              have hR8 : R.length = 8 := by rw [hR]; exact rounds_len _ _ _ hst _
              have HR := Lib.hid (And.intro hR (And.intro hR8 hst))
              clear hR hR8 hst
              go_wp2_with fail
              go_loopw [23] (fun i wi => ∃ m : Nat, m ≤ 8 ∧ i = .int .i64 (m : Int) ∧ QR2 w w5.heap.size (addRef R st m) W R wi) (fun i _ => 8 - (intOf i).toNat)
              case atStart => exact ⟨0, by omega, rfl, hs2⟩
              case round =>
                obtain ⟨m, hm, rfl, hs3⟩ := hrel
                obtain ⟨A, hA⟩ : ∃ A, A = addRef R st m := ⟨_, rfl⟩
                rw [← hA] at hs3
                have hA8 : A.length = 8 := by rw [hA, addRef_len]; exact HR.out.2.2
                by_cases hlm : m < 8
                · have hb : (m : Int) < 8 := by omega
                  have c1 : wr.cell? ⟨w.heap.size, m, none⟩ = some (.int .u32 (A.getD m 0)) := hs3.a.cell (by omega)
                  have c2 : wr.cell? ⟨w5.heap.size + 1, m, none⟩ = some (.int .u32 (R.getD m 0)) := hs3.x.cell (by omega)
                  have hf := hs3.a.frozen m
                  generalize hx : A.getD m 0 = x at *
                  generalize hy : R.getD m 0 = y at *
                  have HX := Lib.hid (And.intro hA (And.intro hA8 (And.intro hx hy)))
                  clear hA hA8 hx hy
                  go_wp2_with fail
                  refine region_st 8 (by kernel_rfl) (by kernel_rfl) ?_
                  simp only [List.take_succ_cons, List.take_zero, List.drop_succ_cons, List.drop_zero]
                  repeat still_step
                  refine wpStill_nil ?_
                  go_wp2_with fail
                  go_roundw
                  case rel =>
                    refine ⟨m + 1, by omega, by go_num, ?_⟩
                    obtain ⟨hA, hA8, hx, hy⟩ := HX.out
                    rw [addRef, ← hA, hx, hy]
                    exact (hs3.putA m _ hA8 (by omega)).drewN 1
                  case measure => simp [intOf]; omega
                · have e8 : m = 8 := by omega
                  rw [hA, e8] at hs3
                  rw [hA, e8] at hA8
                  clear e8 hA
                  obtain ⟨b0, b1, b2, b3, b4, b5, b6, b7, hS8⟩ := list8 _ hA8
                  clear hA8
                  have d0 : wr.cell? ⟨w.heap.size, 0, none⟩ = some (.int .u32 b0) := by rw [hs3.a.cell (i := 0) (by omega), hS8]; rfl
                  have d1 : wr.cell? ⟨w.heap.size, 1, none⟩ = some (.int .u32 b1) := by rw [hs3.a.cell (i := 1) (by omega), hS8]; rfl
                  have d2 : wr.cell? ⟨w.heap.size, 2, none⟩ = some (.int .u32 b2) := by rw [hs3.a.cell (i := 2) (by omega), hS8]; rfl
                  have d3 : wr.cell? ⟨w.heap.size, 3, none⟩ = some (.int .u32 b3) := by rw [hs3.a.cell (i := 3) (by omega), hS8]; rfl
                  have d4 : wr.cell? ⟨w.heap.size, 4, none⟩ = some (.int .u32 b4) := by rw [hs3.a.cell (i := 4) (by omega), hS8]; rfl
                  have d5 : wr.cell? ⟨w.heap.size, 5, none⟩ = some (.int .u32 b5) := by rw [hs3.a.cell (i := 5) (by omega), hS8]; rfl
                  have d6 : wr.cell? ⟨w.heap.size, 6, none⟩ = some (.int .u32 b6) := by rw [hs3.a.cell (i := 6) (by omega), hS8]; rfl
                  have d7 : wr.cell? ⟨w.heap.size, 7, none⟩ = some (.int .u32 b7) := by rw [hs3.a.cell (i := 7) (by omega), hS8]; rfl
                  have r0 := hs3.r.cell (i := 0) (by omega)
                  have r1 := hs3.r.cell (i := 1) (by omega)
                  have r2 := hs3.r.cell (i := 2) (by omega)
                  have r3 := hs3.r.cell (i := 3) (by omega)
                  have r4 := hs3.r.cell (i := 4) (by omega)
                  have r5 := hs3.r.cell (i := 5) (by omega)
                  have r6 := hs3.r.cell (i := 6) (by omega)
                  have r7 := hs3.r.cell (i := 7) (by omega)
                  have f0 := hs3.r.frozen 0
                  have f1 := hs3.r.frozen 1
                  have f2 := hs3.r.frozen 2
                  have f3 := hs3.r.frozen 3
                  have f4 := hs3.r.frozen 4
                  have f5 := hs3.r.frozen 5
                  have f6 := hs3.r.frozen 6
                  have f7 := hs3.r.frozen 7
                  have HS := Lib.hid hS8
                  clear hS8
                  go_wp2_with fail
                  refine bodyPost_ret (v := .agg #[.int .u32 b0, .int .u32 b1, .int .u32 b2, .int .u32 b3, .int .u32 b4, .int .u32 b5, .int .u32 b6, .int .u32 b7]) (by simp [results, Tryz.results89, go_sem, r0, r1, r2, r3, r4, r5, r6, r7]) rfl ⟨?_, ?_⟩
                  · have e : stepOf st s.data.toList K64 = [b0, b1, b2, b3, b4, b5, b6, b7] := by
                      rw [stepOf, ← HW.out, ← HR.out.1, ← addRef_eq R st HR.out.2.1 HR.out.2.2, HS.out]
                    rw [e]; rfl
                  · exact (((((((hs3.bel.setCell (by simp) _).setCell (by simp) _).setCell (by simp) _).setCell (by simp) _).setCell (by simp) _).setCell (by simp) _).setCell (by simp) _).setCell (by simp) _
end Go.Proofs.YtjcbohbpkodkoaaGreatDoor.Sha

/- A slice of bytes of the call's own, told cell by cell (its block may bear the mark of a conversion). -/
namespace Go.Proofs.YtjcbohbpkodkoaaGreatDoor.Sha
open Go.RowKit

structure OwnXAt (B : Nat) (w : World) (g cap : Nat) (ns : List Int) : Prop where
  lo : B ≤ g
  lt : g < w.heap.size
  le : ns.length ≤ cap
  max : cap ≤ maxLen
  free : ∀ j, j < cap → (w.cell? ⟨g, j, none⟩).isSome = true ∧ w.frozen? ⟨g, j, none⟩ = false
  cells : ∀ j, j < ns.length → w.cell? ⟨g, j, none⟩ = some (.int .u8 (ns.getD j 0))
def OwnX (B : Nat) (w : World) (v : Value) (ns : List Int) : Prop := ∃ g cap, v = .slice (some ⟨g, 0, none⟩) ns.length cap ∧ OwnXAt B w g cap ns

theorem OwnXAt.below {B : Nat} {w w' : World} {g cap : Nat} {ns : List Int} (h : OwnXAt B w g cap ns) (hb : Below w.heap.size w w') : OwnXAt B w' g cap ns :=
  ⟨h.lo, Nat.lt_of_lt_of_le h.lt hb.size, h.le, h.max, fun j hj => by rw [hb.cell (by simpa using h.lt), hb.frozen (by simpa using h.lt)]; exact h.free j hj,
    fun j hj => by rw [hb.cell (by simpa using h.lt)]; exact h.cells j hj⟩
theorem OwnX.below {B : Nat} {w w' : World} {v : Value} {ns : List Int} (h : OwnX B w v ns) (hb : Below w.heap.size w w') : OwnX B w' v ns := by
  obtain ⟨g, cap, hv, hx⟩ := h
  exact ⟨g, cap, hv, hx.below hb⟩
theorem OwnX.of_conv (w : World) (s : ByteArray) (hs : s.size ≤ maxLen) : OwnX w.heap.size (Lib.bytesWorld w 5 s) (.slice (some ⟨w.heap.size, 0, none⟩) s.size (grownCap w s.size 0 5)) (s.data.toList.map fun b => (b.toNat : Int)) := by
  have hge := grownCap_ge w s.size 0 5
  have hnew := Lib.bytesWorld_at_new w 5 s
  have hsz : (Lib.bytesCells w 5 s).size = grownCap w s.size 0 5 := by
    simp [Lib.bytesCells]; show s.size + (grownCap w s.size 0 5 - s.size) = _; omega
  refine ⟨w.heap.size, _, by simp; rfl, Nat.le_refl _, by rw [Lib.bytesWorld_size]; omega, by simpa using hge, grownCap_le_maxLen _ _ _ _ hs, fun j hj => ⟨?_, ?_⟩, fun j hj => ?_⟩
  · rw [cell_of_row _ _ _ _ _ _ hnew, Array.getElem?_eq_getElem (by omega)]; rfl
  · simp only [World.frozen?, hnew]
    simp
    omega
  · have hj' : j < s.size := by simpa using hj
    rw [Lib.bytesWorld_cell w 5 s j hj']
    simp [hj']

theorem getD_append_left (a b : List Int) (j : Nat) (h : j < a.length) : (a ++ b).getD j 0 = a.getD j 0 := by
  rw [List.getD_eq_getElem?_getD, List.getD_eq_getElem?_getD, List.getElem?_append_left h]
theorem op_append_x {o : Oper} {a : Act} {K : Act → World → Prop} {Q : Exit → Act → World → Prop} (s x : Operand)
    (ho : o.op = .call { callee := .builtin .append, args := #[s, x], argTypes := #[84, 84] })
    (B : Nat) (v : Value) (ns : List Int) (w : World) (z : Int) (hs : a.eval s = v) (hown : OwnX B w v ns) (hx : a.eval x = .slice (some ⟨w.heap.size, 0, none⟩) 1 1)
    (hB : B ≤ w.heap.size) (hn : ns.length + 1 ≤ 140737488355328)
    (h : ∀ v' w', OwnX B w' v' (ns ++ [z]) → Below B w w' → K (a.put o.dst v') w') : o.wp Tryz.prog a (w.alloc (.cells #[.int .u8 z] 5)) K Q := by
  obtain ⟨i0, hi, hz0, hz1, hz2⟩ := info_parts info5
  obtain ⟨g, cap, rfl, hw⟩ := hown
  have hb1 : Below w.heap.size w (w.alloc (.cells #[.int .u8 z] 5)) := (Below.refl _ _).alloc (Nat.le_refl _) _
  have hw1 := hw.below hb1
  have hnews : ∀ j u, [Value.int .u8 z][j]? = some u → (w.alloc (.cells #[.int .u8 z] 5)).cell? ((⟨w.heap.size, 0, none⟩ : Addr).add j) = some u := by
    intro j u hu
    have hadd : (⟨w.heap.size, 0, none⟩ : Addr).add j = ⟨w.heap.size, j, none⟩ := by unfold Addr.add; split <;> simp_all
    rw [hadd, cell_of_row _ _ _ _ _ _ (heap_alloc_new w _)]
    simpa using hu
  have h1 : ∀ u ∈ [Value.int .u8 z], u.oneCell' = true := by intro u hu; simp at hu; subst hu; rfl
  have fin : ∀ v' w', OwnX B w' v' (ns ++ [z]) → Below B w w' → (Builtin.append_ #[84, 84] o.type #[.slice (some ⟨g, 0, none⟩) ns.length cap, .slice (some ⟨w.heap.size, 0, none⟩) 1 1]).run Tryz.prog (w.alloc (.cells #[.int .u8 z] 5)) = .ok v' w' → o.wp Tryz.prog a (w.alloc (.cells #[.int .u8 z] 5)) K Q := by
    intro v' w' h2 h3 hrun
    unfold Oper.wp execOp
    simp only [ho, resolve, invoke, builtin, Sem.run_bind, Sem.run_pure, Result.andThen_ok, List.map_toArray, List.map_cons, List.map_nil, hs, hx, hrun]
    exact h v' w' h2 h3
  by_cases hroom : ns.length + 1 ≤ cap
  · have hrun := run_append_room_cells (P := Tryz.prog) (w.alloc (.cells #[.int .u8 z] 5)) 84 o.type 5 i0 Tryz.underlying84 hi g 0 ns.length cap ⟨w.heap.size, 0, none⟩ 1 1 [.int .u8 z] (by simp [hz1]) hnews h1 hroom
      (fun j hj => by rw [hz1]; simp at hj; subst hj; simpa using (hw1.free ns.length (by omega)).1) (fun j hj => by rw [hz1]; simp at hj; subst hj; simpa using (hw1.free ns.length (by omega)).2)
    rw [hz1] at hrun
    simp only [Nat.mul_one, Nat.zero_add, World.setCells] at hrun
    obtain ⟨u0, hsome⟩ := Option.isSome_iff_exists.1 (hw1.free ns.length (by omega)).1
    refine fin _ _ ?_ ?_ hrun
    · refine ⟨g, cap, by simp, hw.lo, ?_, by simp; omega, hw.max, fun j hj => ⟨?_, ?_⟩, fun j hj => ?_⟩
      · have := hw1.lt; simpa [World.setCell] using this
      · by_cases e : j = ns.length
        · subst e
          rw [World.cell?_setCell_same _ _ _ hsome]; rfl
        · rw [World.cell?_setCell_other _ _ _ _ (by simp)]; exact (hw1.free j hj).1
      · rw [World.frozen?_setCell]; exact (hw1.free j hj).2
      · by_cases e : j = ns.length
        · subst e
          rw [World.cell?_setCell_same _ _ _ hsome]; simp
        · have hj' : j < ns.length := by simp at hj; omega
          rw [World.cell?_setCell_other _ _ _ _ (by simp), hw1.cells j hj', getD_append_left _ _ _ hj']
    · exact ((Below.refl B w).alloc hB _).setCell (by simpa using hw.lo) _
  · obtain ⟨v', w', hrun, h2, h3⟩ := run_append_arg_grows (P := Tryz.prog) (w.alloc (.cells #[.int .u8 z] 5)) 84 o.type 5 i0 (.int .u8 0) 1 1 Tryz.underlying84 hi hz0 hz1 hz2 rfl (by decide) ⟨g, 0, none⟩ ns.length cap (U8s ns) (by simp [U8s])
      (fun j u hu => by
        have hadd : (⟨g, 0, none⟩ : Addr).add j = ⟨g, j, none⟩ := by unfold Addr.add; split <;> simp_all
        have hj : j < ns.length := by
          rcases Nat.lt_or_ge j ns.length with h' | h'
          · exact h'
          · rw [List.getElem?_eq_none (by simpa [U8s] using h')] at hu; cases hu
        rw [hadd, hw1.cells j hj]
        simp [U8s, hj] at hu
        simp [hj, hu])
      ⟨w.heap.size, 0, none⟩ 1 1 [.int .u8 z] (by simp) hnews (by omega) (by simp only [maxLen]; omega) (by omega)
    refine fin _ _ ?_ ?_ hrun
    · rcases h2.2 with ⟨_, h0⟩ | ⟨g', cap', cur, rfl, hB', hg', hc', hm', hsz', htake⟩
      · omega
      · refine ⟨g', cap', by simp, ?_, ?_, by simpa using hc', hm', fun j hj => ⟨?_, ?_⟩, fun j hj => ?_⟩
        · simp at hB'; omega
        · rcases Nat.lt_or_ge g' w'.heap.size with h' | h'
          · exact h'
          · rw [Array.getElem?_eq_none h'] at hg'; cases hg'
        · rw [cell_of_row _ _ _ _ _ _ hg', Array.getElem?_eq_getElem (by omega)]; rfl
        · exact frozen_of_row _ _ _ _ _ hg'
        · rw [cell_of_row _ _ _ _ _ _ hg']
          simp at hj
          have h1 : (cur.toList.take ((ns.length + 1) * 1))[j]? = (U8s ns ++ [.int .u8 z])[j]? := by rw [htake]
          rw [List.getElem?_take, if_pos (by omega)] at h1
          rw [← Array.getElem?_toList, h1, show U8s ns ++ [Value.int .u8 z] = U8s (ns ++ [z]) from by simp [U8s], U8s, List.getElem?_map, List.getD_eq_getElem?_getD, List.getElem?_eq_getElem (by simpa using hj)]
          rfl
    · exact ((Below.refl B w).alloc hB _).grown h3 (by simp; omega) (by simp)
theorem wp_append_x {ops : Array Oper} {rest : List Oper} {o : Oper} {a : Act} {Q : Exit → Act → World → Prop} (hgd : o.guard = none) (s x : Operand)
    (ho : o.op = .call { callee := .builtin .append, args := #[s, x], argTypes := #[84, 84] })
    (B : Nat) (v : Value) (ns : List Int) (w : World) (z : Int) (hs : a.eval s = v) (hown : OwnX B w v ns) (hx : a.eval x = .slice (some ⟨w.heap.size, 0, none⟩) 1 1)
    (hB : B ≤ w.heap.size) (hn : ns.length + 1 ≤ 140737488355328)
    (h : ∀ v' w', OwnX B w' v' (ns ++ [z]) → Below B w w' → wpList Tryz.prog ops Q rest (a.put o.dst v') w') : wpList Tryz.prog ops Q (o :: rest) a (w.alloc (.cells #[.int .u8 z] 5)) :=
  wpList_plain hgd fun _ hK => op_append_x s x ho B v ns w z hs hown hx hB hn fun v' w' h2 h3 => hK _ _ (h v' w' h2 h3)
def toNums (l : List UInt8) : List Int := l.map fun b => (b.toNat : Int)
theorem toNums_snoc (l : List UInt8) (b : UInt8) : toNums (l ++ [b]) = toNums l ++ [(b.toNat : Int)] := by simp [toNums]
theorem toNums_len (l : List UInt8) : (toNums l).length = l.length := by simp [toNums]
set_option maxRecDepth 100000 in
/-- a part of the slice, as a string -/
theorem conv_part (B : Nat) (w : World) (g cap : Nat) (L : List UInt8) (h : OwnXAt B w g cap (toNums L)) (i c : Nat) (hi : i + 64 ≤ L.length) :
    (convert 84 9 (.slice (some ⟨g, i, none⟩) 64 c)).run Tryz.prog w = .ok (.string ⟨((L.drop i).take 64).toArray⟩) w := by
  have hl : ((L.drop i).take 64).length = 64 := by simp; omega
  have := run_convert_bytes_arg (P := Tryz.prog) w 84 5 Tryz.underlying84 Tryz.underlying5 g i 64 c (toNums ((L.drop i).take 64)) (by rw [toNums_len, hl]) (fun k hk => by
    rw [h.cells (i + k) (by rw [toNums_len]; omega)]
    simp only [toNums, List.getD_eq_getElem?_getD, List.getElem?_map, List.getElem?_take, List.getElem?_drop, if_pos hk]) 9 Tryz.underlying9
  rw [this]
  congr 2
  apply ByteArray.ext
  apply Array.toList_inj.1
  rw [strOfNums_data, toNums, List.map_map]
  simp
  refine List.ext_getElem (by simp) fun k h1 h2 => by simp
end Go.Proofs.YtjcbohbpkodkoaaGreatDoor.Sha

/- Contract of digest.Sum. -/
namespace Go.Proofs.YtjcbohbpkodkoaaGreatDoor.Sha
open Go.RowKit

theorem stepOf_len (st : List Int) (b : List UInt8) (ks : List Int) (h : st.length = 8) : (stepOf st b ks).length = 8 := by rw [stepOf, addAll_len]; exact rounds_len _ _ _ h _
theorem step_call (S : List Int) (hl : S.length = 8) (s : ByteArray) (hs : s.size = 64) (w : World) :
    Calls Tryz.prog 84 #[.agg ⟨S.map (Value.int .u32)⟩, .string s, .agg KA] w fun e w' => e = .returned (.agg ⟨(stepOf S s.data.toList K64).map (Value.int .u32)⟩) ∧ Below w.heap.size w w' := by
  obtain ⟨a, b, c, d, e, f, g, i, rfl⟩ := list8 S hl
  exact step_any a b c d e f g i _ s K64 w rfl hs rfl
theorem extract_head (r : List UInt8) : (⟨r.toArray⟩ : ByteArray).extract 0 64 = ⟨(r.take 64).toArray⟩ := by apply ByteArray.ext; simp
theorem extract_tail (r : List UInt8) (n : Nat) (h : n = r.length) : (⟨r.toArray⟩ : ByteArray).extract 64 n = ⟨(r.drop 64).toArray⟩ := by subst h; apply ByteArray.ext; simp [List.take_of_length_le]
/-- the state over whole blocks -/
def runBlocks (st : List Int) : Nat → List UInt8 → List Int
  | 0, _ => st
  | n + 1, s => runBlocks (stepOf st (s.take 64) K64) n (s.drop 64)

def strLen : Value → Nat | .string s => s.size | _ => 0
structure SumR (w w3 : World) (P r : List UInt8) (S : List Int) (wr : World) : Prop where
  bel : Below w.heap.size w wr
  low : w.heap.size ≤ w3.heap.size
  size : w3.heap.size + 2 ≤ wr.heap.size
  s : wr.heap[w3.heap.size]? = some (.cells ⟨S.map (Value.int .u32)⟩ 123 (0, 0))
  k : wr.heap[w3.heap.size + 1]? = some (.cells KA 125 (0, 0))
  len : S.length = 8
  m64 : r.length % 64 = 0
  now : ∃ n, P.length = 64 * n + r.length ∧ runBlocks H8 (P.length / 64) P = runBlocks S (r.length / 64) r

theorem SumR.next {w w3 wr w4 : World} {P r : List UInt8} {S : List Int} (h : SumR w w3 P r S wr) (h64 : 64 ≤ r.length) (hb : Below wr.heap.size wr w4)
    (h1 : w4.heap[w3.heap.size]? = some (.cells ⟨S.map (Value.int .u32)⟩ 123 (0, 0))) (h2 : w4.heap[w3.heap.size + 1]? = some (.cells KA 125 (0, 0))) :
    SumR w w3 P (r.drop 64) (stepOf S (r.take 64) K64) (w4.setRow w3.heap.size ⟨(stepOf S (r.take 64) K64).map (Value.int .u32)⟩) := by
  refine ⟨?_, h.low, ?_, setRow_heap _ _ _ _ _ _ h1, ?_, stepOf_len _ _ _ h.len, ?_, ?_⟩
  · have hb' : Below w.heap.size w w4 := h.bel.trans (hb.mono h.bel.size)
    refine hb'.trans ⟨rfl, rfl, rfl, by simp, fun k hk => setRow_other _ _ _ _ (by have := h.low; omega)⟩
  · have := h.size; have := hb.size; simp; omega
  · rw [setRow_other _ _ _ _ (by omega)]; exact h2
  · have := h.m64; simp; omega
  · obtain ⟨n, hn, he⟩ := h.now
    refine ⟨n + 1, by simp; omega, ?_⟩
    rw [he, show r.length / 64 = (r.drop 64).length / 64 + 1 by simp; omega, runBlocks]
theorem padOf_len (s : List UInt8) : (padOf s).length % 64 = 0 := by
  simp only [padOf, padHead, List.length_append, List.length_cons, zeroL_len, lenBytes_len, zerosOf]
  omega
theorem SumR.start {w w3 : World} {P : List UInt8} (hb : Below w.heap.size w w3) (hP : P.length % 64 = 0) (c8 c64 : Array Value) (h8 : c8 = ⟨H8.map (Value.int .u32)⟩) :
    SumR w w3 P P H8 (((w3.alloc (.cells c8 123)).alloc (.cells c64 125)).setRow (w3.heap.size + 1) KA) := by
  subst h8
  refine ⟨?_, hb.size, by simp, ?_, ?_, rfl, hP, 0, by omega, rfl⟩
  · exact ((hb.alloc hb.size _).alloc (by have := hb.size; simp; omega) _).trans ⟨rfl, rfl, rfl, by simp, fun k hk => setRow_other _ _ _ _ (by have := hb.size; omega)⟩
  · rw [setRow_other _ _ _ _ (by omega)]
    exact heap_alloc2_old _ _ _
  · exact setRow_heap _ _ _ _ _ _ (heap_alloc2_new _ _ _)
def outOf (S : List Int) : Nat → List Int
  | 0 => []
  | k + 1 => outOf S k ++ [S.getD k 0 / 16777216 % 256, S.getD k 0 / 65536 % 256, S.getD k 0 / 256 % 256, S.getD k 0 % 256]
theorem outOf_len (S : List Int) (k : Nat) : (outOf S k).length = 4 * k := by
  induction k with
  | zero => rfl
  | succ n ih => simp [outOf, ih]; omega
/-- SHA-256 -/
def sha (s : List UInt8) : List UInt8 := (outOf (runBlocks H8 ((padOf s).length / 64) (padOf s)) 8).map fun n => UInt8.ofNat n.toNat

set_option maxHeartbeats 2000000 in
set_option maxRecDepth 100000 in
theorem sum_any (s : ByteArray) (w : World) (hs : s.size ≤ 140737488351232) :
    Calls Tryz.prog 50 #[.string s] w fun e w' => e = .returned (.string ⟨(sha s.data.toList).toArray⟩) ∧ Below w.heap.size w w' := by
  go_enter Tryz.func50, Tryz.ntmps50
  go_wp2_with fail
  refine (padded_any s _ hs).mono ?_
  rintro e w1 ⟨rfl, hb1⟩
  go_wp2_with fail
  refine (start_any _).mono ?_
  rintro e w2 ⟨rfl, hb2⟩
  go_wp2_with fail
  refine (constants_any _).mono ?_
  rintro e w3 ⟨rfl, hb3⟩
  go_wp2_with (refine wpList_store_row rfl 125 _ _ rfl (w3.heap.size + 1) KA rfl rfl 125 _ (heap_alloc2_new w3 _ _) (by kernel_rfl) (by kernel_rfl) (by kernel_rfl) ?_)
  go_frame
  obtain ⟨P, hP⟩ : ∃ P, P = padOf s.data.toList := ⟨_, rfl⟩
  rw [← hP]
  have HP := Lib.hid hP
  clear hP
  go_loopw [0] (fun v wr => ∃ (r : List UInt8) (S : List Int), SumR w w3 P r S wr ∧ v = .string ⟨r.toArray⟩) (fun v _ => strLen v)
  case atStart =>
    refine ⟨P, H8, ?_, rfl⟩
    have hbb : Below w.heap.size w w3 := (hb1.trans (hb2.mono hb1.size)).trans (hb3.mono (Nat.le_trans hb1.size hb2.size))
    exact SumR.start hbb (by rw [HP.out]; exact padOf_len _) _ _ rfl
  case round =>
    obtain ⟨r, S, hsr, rfl⟩ := hrel
    by_cases hr : r = []
    · subst hr
      go_wp2_with (refine wpList_load_row rfl 123 _ rfl w3.heap.size rfl 123 _ (0, 0) _ hsr.s Tryz.underlying123 rfl (by rw [List.size_toArray, List.length_map, hsr.len]; kernel_rfl) ?_)
      go_loopw [5, 22] (fun v i wi => ∃ k : Nat, k ≤ 8 ∧ i = .int .i64 (k : Int) ∧ OwnB w.heap.size wi v (outOf S k) ∧ Below w.heap.size w wi) (fun _ i _ => 8 - (intOf i).toNat)
      case atStart => exact ⟨0, by omega, rfl, OwnB.nil _ _, hsr.bel⟩
      case round =>
        obtain ⟨k, hk, rfl, hown, hbw⟩ := hrel
        by_cases hlk : k < 8
        · have hix := index_arr8 S k hsr.len hlk
          have hol := outOf_len S k
          generalize hx : S.getD k 0 = x at *
          generalize ho : outOf S k = O at *
          have HX := Lib.hid (And.intro hx (And.intro ho hol))
          clear hx ho hol
          go_wp2_with (at_builtin; go_must (refine wp_append_bytes rfl (.tmp 25) (.tmp 37) rfl w.heap.size u5 O wr [x / 16777216 % 256, x / 65536 % 256, x / 256 % 256, x % 256] rfl hown rfl hbw.size (by have := HX.out.2.2; simp; omega) ?_); intro v' w5 hown' hbw')
          go_roundw
          case rel =>
            refine ⟨k + 1, by omega, by go_num, ?_, hbw.trans hbw'⟩
            rw [outOf, HX.out.1, HX.out.2.1]
            exact hown'
          case measure => simp [intOf]; omega
        · have hcv := conv_own _ _ _ _ hown
          go_wp2_with fail
          go_ret
          refine ⟨?_, hbw⟩
          have e : strOfNums (outOf S k) = ⟨(sha s.data.toList).toArray⟩ := by
            obtain ⟨n, hn, he⟩ := hsr.now
            obtain rfl : k = 8 := by omega
            rw [sha, ← HP.out, he]
            rfl
          exact congrArg (fun b => Ending.returned (.string b)) e
    · have hne : (r.isEmpty) = false := by simpa using hr
      have hr64 : 64 ≤ r.length := by have := hsr.m64; have : 0 < r.length := List.length_pos_iff.2 hr; omega
      have hri : (64 : Int) ≤ (r.length : Int) := by omega
      go_wp2_with fail
      refine region_st 4 (by kernel_rfl) (by kernel_rfl) ?_
      simp only [List.take_succ_cons, List.take_zero, List.drop_succ_cons, List.drop_zero]
      refine still_load_row rfl 123 _ rfl w3.heap.size rfl 123 _ (0, 0) _ hsr.s Tryz.underlying123 rfl (by rw [List.size_toArray, List.length_map, hsr.len]; kernel_rfl) ?_
      go_frame
      repeat still_step
      refine still_load_row rfl 125 _ rfl (w3.heap.size + 1) rfl 125 _ (0, 0) _ hsr.k Tryz.underlying125 rfl (by kernel_rfl) ?_
      go_frame
      refine wpStill_nil ?_
      rw [extract_head r]
      go_wp2_with fail
      refine (step_call S hsr.len ⟨(r.take 64).toArray⟩ (by simp [ByteArray.size]; omega) _).mono ?_
      rintro e w4 ⟨rfl, hb4⟩
      have hb5 : Below wr.heap.size wr w4 := ⟨hb4.os, hb4.tape, hb4.output, hb4.size, hb4.block⟩
      have hs4 : w4.heap[w3.heap.size]? = some (.cells ⟨S.map (Value.int .u32)⟩ 123 (0, 0)) := by rw [hb5.block _ (by have := hsr.size; omega)]; exact hsr.s
      have hk4 : w4.heap[w3.heap.size + 1]? = some (.cells KA 125 (0, 0)) := by rw [hb5.block _ (by have := hsr.size; omega)]; exact hsr.k
      have H4 := Lib.hid (And.intro hs4 hk4)
      clear hs4 hk4 hb4
      go_wp2_with (refine wpList_store_row rfl 123 _ _ rfl w3.heap.size _ rfl rfl 123 _ H4.out.1 (by rw [List.size_toArray, List.length_map, stepOf_len _ _ _ hsr.len]; kernel_rfl) (by simp [stepOf_len _ _ _ hsr.len, hsr.len]) (by simp [Value.oneCell']) ?_)
      refine ⟨⟨r.drop 64, stepOf S (r.take 64) K64, hsr.next hr64 hb5 H4.out.1 H4.out.2, congrArg Value.string (extract_tail r _ rfl)⟩, ?_⟩
      rw [extract_tail r _ rfl]
      simp [strLen, ByteArray.size]
      omega
end Go.Proofs.YtjcbohbpkodkoaaGreatDoor.Sha

/- Contract of the reference's Sum: the same digest. -/
namespace Go.Proofs.YtjcbohbpkodkoaaGreatDoor.Sha
open Go.RowKit

theorem block_call (S : List Int) (hl : S.length = 8) (s : ByteArray) (hs : s.size = 64) (w : World) :
    Calls Tryz.prog 89 #[.agg ⟨S.map (Value.int .u32)⟩, .string s] w fun e w' => e = .returned (.agg ⟨(stepOf S s.data.toList K64).map (Value.int .u32)⟩) ∧ Below w.heap.size w w' := by
  obtain ⟨a, b, c, d, e, f, g, i, rfl⟩ := list8 S hl
  exact block_any a b c d e f g i _ s w rfl hs
theorem lenByte_toNat (n c : Nat) (N : Int) (h : (n : Int) * 8 = N) : ((lenByte n c).toNat : Int) = N / 2 ^ c % 256 := by
  rw [← lenByte_of n c N h]
  have h1 : 0 ≤ N / 2 ^ c % 256 := by omega
  have h2 : N / 2 ^ c % 256 < 256 := by omega
  generalize N / 2 ^ c % 256 = x at *
  have : (UInt8.ofNat x.toNat).toNat = x.toNat := by rw [UInt8.toNat_ofNat']; omega
  rw [this]; omega
theorem zeroL_snoc (k : Nat) : zeroL k ++ [0] = zeroL (k + 1) := by
  unfold zeroL
  rw [List.replicate_succ']
def sliceLeft (m : Nat) : Value → Nat | .slice _ n _ => m - n | _ => 0
structure RR (w w5 : World) (g cap : Nat) (P : List UInt8) (i : Nat) (S : List Int) (wr : World) : Prop where
  bel : Below w.heap.size w wr
  low : w.heap.size ≤ w5.heap.size
  sz : w5.heap.size < wr.heap.size
  s : wr.heap[w5.heap.size]? = some (.cells ⟨S.map (Value.int .u32)⟩ 123 (0, 0))
  x : OwnXAt w.heap.size wr g cap (toNums P)
  ne : g < w5.heap.size
  len : S.length = 8
  i64 : i % 64 = 0
  ile : i ≤ P.length
  now : runBlocks H8 (P.length / 64) P = runBlocks S ((P.length - i) / 64) (P.drop i)
theorem row_of_load {w : World} {g : Nat} {t : TypeId} {n : Nat} {l : List Int} (h : w.heap[g]? = some (.cells ⟨l.map (Value.int .u32)⟩ t (0, 0))) (hl : l.length = n) : w.rowIs g t n (W32 l) :=
  ⟨_, h, by simp [hl], fun i hi => by simp [W32, hl, hi]⟩
theorem RR.start {w w5 : World} {g cap : Nat} {P : List UInt8} (hb : Below w.heap.size w w5) (hx : OwnXAt w.heap.size w5 g cap (toNums P)) (_hP : P.length % 64 = 0) (c8 : Array Value) (h8 : c8 = ⟨H8.map (Value.int .u32)⟩) :
    RR w w5 g cap P 0 H8 (w5.alloc (.cells c8 123)) := by
  subst h8
  refine ⟨hb.alloc hb.size _, hb.size, by simp, heap_alloc_new _ _, hx.below ((Below.refl _ _).alloc (Nat.le_refl _) _), hx.lt, rfl, rfl, by omega, rfl⟩
theorem RR.next {w w5 wr w6 : World} {g cap : Nat} {P : List UInt8} {i : Nat} {S : List Int} (h : RR w w5 g cap P i S wr) (h64 : i + 64 ≤ P.length) (hb : Below wr.heap.size wr w6) :
    RR w w5 g cap P (i + 64) (stepOf S ((P.drop i).take 64) K64) (w6.setRow w5.heap.size ⟨(stepOf S ((P.drop i).take 64) K64).map (Value.int .u32)⟩) := by
  have h1 : w6.heap[w5.heap.size]? = some (.cells ⟨S.map (Value.int .u32)⟩ 123 (0, 0)) := by rw [hb.block _ h.sz]; exact h.s
  have hx := h.x.below hb
  have hne := h.ne
  have kept : ∀ k, k ≠ w5.heap.size → (w6.setRow w5.heap.size ⟨(stepOf S ((P.drop i).take 64) K64).map (Value.int .u32)⟩).heap[k]? = w6.heap[k]? := fun k hk => setRow_other _ _ _ _ hk
  refine ⟨?_, h.low, ?_, setRow_heap _ _ _ _ _ _ h1, ?_, hne, stepOf_len _ _ _ h.len, ?_, h64, ?_⟩
  · have hb' : Below w.heap.size w w6 := h.bel.trans (hb.mono h.bel.size)
    exact hb'.trans ⟨rfl, rfl, rfl, by simp, fun k hk => kept k (by have := h.low; omega)⟩
  · have := h.sz; have := hb.size; simp; omega
  · refine ⟨hx.lo, by have := hx.lt; simpa using this, hx.le, hx.max, fun j hj => ?_, fun j hj => ?_⟩
    · rw [World.cell?_of_block (kept g (by omega)), World.frozen?_of_block (kept g (by omega))]; exact hx.free j hj
    · rw [World.cell?_of_block (kept g (by omega))]; exact hx.cells j hj
  · have := h.i64; omega
  · rw [h.now, show (P.length - i) / 64 = (P.length - (i + 64)) / 64 + 1 by omega, runBlocks, List.drop_drop]
def X128 : UInt8 := 128
set_option maxHeartbeats 2000000 in
set_option maxRecDepth 100000 in
theorem refSum_any (s : ByteArray) (w : World) (hs : s.size ≤ 140737488000000) :
    Calls Tryz.prog 54 #[.string s] w fun e w' => e = .returned (.string ⟨(sha s.data.toList).toArray⟩) ∧ Below w.heap.size w w' := by
  have hcv := Lib.run_convert_string_bytes (P := Tryz.prog) w 9 84 5 s Tryz.underlying9 Tryz.underlying84 Tryz.underlying5
  have hx0 := OwnX.of_conv w s (by simp only [maxLen]; omega)
  have hb0 := Joins.below_bytesWorld w.heap.size w 5 s (Nat.le_refl _)
  generalize Lib.bytesWorld w 5 s = w0 at *
  generalize grownCap w s.size 0 5 = c0 at *
  obtain ⟨L, hL⟩ : ∃ L, L = s.data.toList := ⟨_, rfl⟩
  have hLl : L.length = s.size := by rw [hL]; rfl
  replace hx0 : OwnX w.heap.size w0 (.slice (some ⟨w.heap.size, 0, none⟩) s.size c0) (toNums L) := by rw [hL]; exact hx0
  have HL := Lib.hid hL
  have HLl := Lib.hid hLl
  clear hL hLl
  go_enter Tryz.func54, Tryz.ntmps54
  go_wp2_with (at_builtin; go_must (refine wp_append_x rfl (.tmp 16) (.tmp 17) rfl w.heap.size _ (toNums L) w0 128 rfl hx0 rfl hb0.size (by rw [toNums_len, HLl.out]; omega) ?_); intro v1 w1 hx1 hb1)
  have hbw1 : Below w.heap.size w w1 := hb0.trans hb1
  clear hx0 hb0 hb1 hcv
  go_loopw [4] (fun v wr => ∃ k : Nat, k ≤ zerosOf s.size ∧ OwnX w.heap.size wr v (toNums (L ++ (X128 :: zeroL k))) ∧ Below w.heap.size w wr) (fun v _ => sliceLeft (s.size + 1 + zerosOf s.size) v)
  case atStart => exact ⟨0, by omega, by rw [show L ++ (X128 :: zeroL 0) = L ++ [X128] from rfl, toNums_snoc]; exact hx1, hbw1⟩
  case round =>
    obtain ⟨k, hk, hx, hbw⟩ := hrel
    obtain ⟨g, cap, rfl, hat⟩ := hx
    have hlen : (toNums (L ++ (X128 :: zeroL k))).length = s.size + 1 + k := by rw [toNums_len, List.length_append, List.length_cons, zeroL_len, HLl.out]; omega
    have hz64 : zerosOf s.size < 64 := by unfold zerosOf; omega
    obtain ⟨n, hn⟩ : ∃ n, n = s.size + 1 + k := ⟨_, rfl⟩
    rw [hlen, ← hn]
    have hn63 : n ≤ 140737488100000 := by omega
    have Hlen := Lib.hid (And.intro hlen hn)
    by_cases hlt : k < zerosOf s.size
    · have hdec : ((n : Int) % 64 != 56) = true := by rw [bne_iff_ne]; unfold zerosOf at hlt; omega
      clear hlen hn
      have hown : OwnX w.heap.size wr (.slice (some ⟨g, 0, none⟩) n cap) (toNums (L ++ (X128 :: zeroL k))) := ⟨g, cap, by rw [Hlen.out.1, Hlen.out.2], hat⟩
      go_wp2_with (at_builtin; go_must (refine wp_append_x rfl (.tmp 23) (.tmp 24) rfl w.heap.size _ (toNums (L ++ (X128 :: zeroL k))) wr 0 rfl hown rfl hbw.size (by rw [Hlen.out.1]; omega) ?_); intro v1 w2 hx2 hb2)
      go_roundw
      case rel =>
        refine ⟨k + 1, by omega, ?_, hbw.trans hb2⟩
        rw [show L ++ (X128 :: zeroL (k + 1)) = (L ++ (X128 :: zeroL k)) ++ [0] from by rw [List.append_assoc, List.cons_append, zeroL_snoc], toNums_snoc]
        exact hx2
      case measure =>
        obtain ⟨g2, cap2, rfl, hat2⟩ := hx2
        have := Hlen.out
        simp only [sliceLeft, List.length_append, List.length_cons, List.length_nil]
        omega
    · have hke : k = zerosOf s.size := by omega
      have hdec : ((n : Int) % 64 != 56) = false := by simp; unfold zerosOf at hke; omega
      clear hlen hn
      replace hat : OwnXAt w.heap.size wr g cap (toNums (padHead L)) := by
        have e : padHead L = L ++ (X128 :: zeroL k) := by rw [padHead, HLl.out, hke]; rfl
        rw [e]; exact hat
      have Hlen2 := Lib.hid (show n = (toNums (padHead L)).length by rw [Hlen.out.2, toNums_len, padHead, List.length_append, List.length_cons, zeroL_len, HLl.out, hke]; omega)
      have HK := Lib.hid hke
      clear hke
      go_wp2_with fail
      go_loopw [4, 5] (fun v i wi => ∃ j : Nat, j ≤ 8 ∧ i = .int .i64 (7 - (j : Int)) ∧ OwnX w.heap.size wi v (toNums (padHead L ++ lenBytes s.size j)) ∧ Below w.heap.size w wi) (fun _ i _ => (8 + intOf i).toNat)
      case atStart => exact ⟨0, by omega, rfl, ⟨g, cap, by rw [Hlen2.out, show padHead L ++ lenBytes s.size 0 = padHead L from by simp [lenBytes]], by rw [show padHead L ++ lenBytes s.size 0 = padHead L from by simp [lenBytes]]; exact hat⟩, hbw⟩
      case round =>
        obtain ⟨j, hj, rfl, hx2, hb2⟩ := hrel
        obtain ⟨P, hP⟩ : ∃ P, P = padHead L ++ lenBytes s.size j := ⟨_, rfl⟩
        rw [← hP] at hx2
        have hPl : P.length = n + j := by rw [hP, List.length_append, lenBytes_len]; have := Hlen2.out; rw [toNums_len] at this; omega
        by_cases hlj : j < 8
        · obtain ⟨c, hc⟩ : ∃ c : Nat, 7 - (j : Int) = (c : Int) := ⟨7 - j, by omega⟩
          obtain ⟨m, hm⟩ : ∃ m : Nat, m = 8 * c := ⟨_, rfl⟩
          have hw1 : 8 * (c : Int) = (m : Int) := by omega
          have hm64 : (m : Int) ≤ 64 := by omega
          have hN0 : 0 ≤ (s.size : Int) * 8 := by omega
          have hlb := lenByte_toNat s.size m ((s.size : Int) * 8) rfl
          rw [hc]
          have HC := Lib.hid (And.intro hc (And.intro hm (And.intro hP hPl)))
          obtain ⟨N, hN⟩ : ∃ N : Int, N = (s.size : Int) * 8 := ⟨_, rfl⟩
          rw [← hN] at hlb hN0 ⊢
          have HN := Lib.hid hlb
          clear hc hm hP hPl hlb hN
          go_wp2_with (at_builtin; go_must (refine wp_append_x rfl (.tmp 30) (.tmp 36) rfl w.heap.size _ (toNums P) _ _ rfl hx2 rfl hb2.size (by rw [toNums_len, HC.out.2.2.2]; omega) ?_); intro v1 w2 hx3 hb3)
          go_roundw
          case rel =>
            have := HC.out.1
            refine ⟨j + 1, by omega, congrArg (Value.int .i64) (by omega), ?_, hb2.trans hb3⟩
            rw [lenBytes, ← List.append_assoc, ← HC.out.2.2.1, show 56 - 8 * j = m from by have := HC.out.2.1; omega, toNums_snoc, HN.out]
            exact hx3
          case measure => have := HC.out.1; simp [intOf]; omega
        · have e8 : j = 8 := by omega
          have hP2 : P = padOf L := by rw [hP, e8, padOf, HLl.out]
          obtain ⟨g3, cap3, rfl, hat3⟩ := hx2
          have hPm := padOf_len L
          rw [← hP2] at hPm
          have HP := Lib.hid (And.intro hP2 (And.intro hPm hPl))
          have hPbig : P.length ≤ 140737488200000 := by omega
          rw [toNums_len]
          have hdj : decide ((j : Int) ≤ 7) = false := by simp; omega
          clear hP hPl hP2 hPm e8
          go_wp2_with fail
          refine (starts_any _).mono ?_
          rintro e w5 ⟨rfl, hb5⟩
          have hat5 := hat3.below hb5
          have hbw5 : Below w.heap.size w w5 := hb2.trans (hb5.mono hb2.size)
          go_wp2_with fail
          have hst := RR.start hbw5 hat5 HP.out.2.1 _ rfl
          clear hat3 hat5 hb5 hbw5 hat hb2 hbw hx1 hbw1
          go_loopw [7] (fun i wi => ∃ (k : Nat) (S : List Int), i = .int .i64 (k : Int) ∧ RR w w5 g3 cap3 P k S wi) (fun i _ => P.length - (intOf i).toNat)
          case atStart => exact ⟨0, H8, rfl, hst⟩
          case round =>
            obtain ⟨k, S, rfl, hr⟩ := hrel
            have hkle := hr.ile
            by_cases hlk : k < P.length
            · have hd : decide ((k : Int) < (P.length : Int)) = true := by simp; omega
              have hk64 : k + 64 ≤ P.length := by have := hr.i64; have := HP.out.2.1; omega
              have hcap : P.length ≤ cap3 := by have := hr.x.le; rw [toNums_len] at this; exact this
              have hmx := hr.x.max
              obtain ⟨m, hm⟩ : ∃ m : Nat, m = k + 64 := ⟨_, rfl⟩
              have hw1 : IntKind.i64.wrap ((k : Int) + 64) = (m : Int) := by rw [IntWalk.i64_in _ (by omega)]; omega
              have b1 : (k : Int) ≤ (m : Int) := by omega
              have b2 : (m : Int) ≤ (cap3 : Int) := by omega
              have hcv := conv_part w.heap.size wr.drew g3 cap3 P ⟨hr.x.lo, hr.x.lt, hr.x.le, hr.x.max, hr.x.free, hr.x.cells⟩ k (cap3 - k) hk64
              have hne : cap3 ≠ k := by omega
              have hmk : m - k = 64 := by omega
              have HM := Lib.hid hm
              clear hm
              go_wp2_with fail
              refine region_st 7 (by kernel_rfl) (by kernel_rfl) ?_
              simp only [List.take_succ_cons, List.take_zero, List.drop_succ_cons, List.drop_zero]
              refine still_load_row rfl 123 _ rfl w5.heap.size rfl 123 _ (0, 0) _ hr.s Tryz.underlying123 rfl (by rw [List.size_toArray, List.length_map, hr.len]; kernel_rfl) ?_
              go_frame
              repeat still_step
              refine wpStill_nil ?_
              clear hcv hw1 hmk hne b1 b2
              go_wp2_with fail
              refine (block_call S hr.len ⟨((P.drop k).take 64).toArray⟩ (by simp [ByteArray.size]; omega) _).mono ?_
              rintro e w6 ⟨rfl, hb6⟩
              have hb7 : Below wr.heap.size wr w6 := ⟨hb6.os, hb6.tape, hb6.output, hb6.size, hb6.block⟩
              have hs6 : w6.heap[w5.heap.size]? = some (.cells ⟨S.map (Value.int .u32)⟩ 123 (0, 0)) := by rw [hb7.block _ hr.sz]; exact hr.s
              have H6 := Lib.hid hs6
              clear hs6 hb6
              go_wp2_with (refine wpList_store_row rfl 123 _ _ rfl w5.heap.size _ rfl rfl 123 _ H6.out (by rw [List.size_toArray, List.length_map, stepOf_len _ _ _ hr.len]; kernel_rfl) (by simp [stepOf_len _ _ _ hr.len, hr.len]) (by simp [Value.oneCell']) ?_)
              refine ⟨⟨k + 64, _, by go_num, hr.next hk64 hb7⟩, ?_⟩
              simp [intOf]
              omega
            · have hd : decide ((k : Int) < (P.length : Int)) = false := by simp; omega
              have hSf : runBlocks H8 (P.length / 64) P = S := by
                rw [hr.now, show (P.length - k) / 64 = 0 by omega, runBlocks]
              have HS := Lib.hid hSf
              clear hSf
              go_wp2_with fail
              go_loopw [8, 9] (fun v i wi => ∃ q : Nat, q ≤ 8 ∧ i = .int .i64 (q : Int) ∧ OwnB (w5.heap.size + 1) wi v (outOf S q) ∧ Below w.heap.size w wi ∧ w5.heap.size + 1 ≤ wi.heap.size ∧ wi.rowIs w5.heap.size 123 8 (W32 S)) (fun _ i _ => 8 - (intOf i).toNat)
              case atStart => exact ⟨0, by omega, rfl, OwnB.nil _ _, hr.bel, hr.sz, row_of_load hr.s hr.len⟩
              case round =>
                obtain ⟨q, hq, rfl, hown, hbq, hszq, hrow⟩ := hrel
                by_cases hlq : q < 8
                · have hdq : decide ((q : Int) < 8) = true := by simp; omega
                  have hb8 : (q : Int) < 8 := by omega
                  have hcell : wr.cell? ⟨w5.heap.size, q, none⟩ = some (.int .u32 (S.getD q 0)) := hrow.cell hlq
                  have hol := outOf_len S q
                  generalize hx : S.getD q 0 = x at *
                  generalize ho : outOf S q = O at *
                  have HX := Lib.hid (And.intro hx (And.intro ho hol))
                  clear hx ho hol
                  go_wp2_with fail
                  go_region_law (refine step_append_bytes rfl (.tmp 57) (.tmp 77) rfl (w5.heap.size + 1) _ O wr.drew [x / 16777216 % 256, x / 65536 % 256, x / 256 % 256, x % 256] rfl hown rfl hszq (by have := HX.out.2.2; simp; omega) ?_; intro v' w7 hown' hbw')
                  all_goals go_wp2_with fail
                  all_goals
                    refine ⟨⟨q + 1, by omega, by go_num, ?_, hbq.drew.trans (hbw'.mono (by have := hr.low; omega)), Nat.le_trans hszq hbw'.size, ?_⟩, by simp [intOf]; omega⟩
                    · rw [outOf, HX.out.1, HX.out.2.1]
                      exact hown'
                    · exact hrow.of_block (hbw'.block _ (by omega))
                · have hcv := conv_own _ _ _ _ hown
                  go_wp2_with fail
                  go_ret
                  refine ⟨?_, hbq⟩
                  have e : strOfNums (outOf S q) = ⟨(sha s.data.toList).toArray⟩ := by
                    obtain rfl : q = 8 := by omega
                    rw [sha, ← HL.out, ← HP.out.1, HS.out]
                    rfl
                  exact congrArg (fun b => Ending.returned (.string b)) e
end Go.Proofs.YtjcbohbpkodkoaaGreatDoor.Sha

/- Audit: the texts of numbers, absolute values, halves. -/
namespace Go.Proofs.YtjcbohbpkodkoaaGreatDoor
open Go.RowKit Go.Maps Num

/-- a node as a value -/
def ndV (x : Nd) : Value := .agg #[.string ⟨x.1.toArray⟩, .string ⟨x.2.toArray⟩]
abbrev sha := Sha.sha
theorem sha_len (s : List UInt8) : (sha s).length = 32 := by simp [sha, Sha.sha, Sha.outOf_len]
def NdPost (x : Nd) (w : World) (e : Ending) (w' : World) : Prop := e = .returned (ndV x) ∧ Below w.heap.size w w'
theorem cons_ne {l : List UInt8} (h : l ≠ []) : ∃ c r, l = c :: r := by
  cases l with
  | nil => exact absurd rfl h
  | cons c r => exact ⟨c, r, rfl⟩
theorem prt_ok {b : Ln} (h : okB b) : prt b.2.2 = b.2.2 := by
  unfold prt
  rw [okB_can h, if_neg h.2]
set_option maxRecDepth 100000 in
theorem Print_any (l : List UInt8) (w : World) (hs : l.length ≤ 1000) : Calls Tryz.prog 48 #[.string ⟨l.toArray⟩] w (StrPost (prt l) w) := by
  have h1 : Calls Tryz.prog 80 #[.string ⟨l.toArray⟩] w (StrPost (can l) w) := Canonical_any ⟨l.toArray⟩ w (by show l.toArray.size ≤ 1000; rw [List.size_toArray]; exact hs)
  unfold StrPost at h1
  have H1 := Lib.hid h1
  clear h1
  by_cases he : can l = []
  · have hp : prt l = [48] := by unfold prt; rw [if_pos he]
    rw [hp]
    rw [he] at H1
    clear hp he
    go_enter Tryz.func48, Tryz.ntmps48
    go_wp2_with fail
    refine H1.out.mono ?_
    rintro e w1 ⟨rfl, hb⟩
    go_wp2_with fail
    go_ret
    exact ⟨rfl, hb⟩
  · have hp : prt l = can l := by unfold prt; rw [if_neg he]
    rw [hp]
    obtain ⟨c, r, hne⟩ := cons_ne he
    rw [hne] at H1 ⊢
    clear hp he hne
    go_enter Tryz.func48, Tryz.ntmps48
    go_wp2_with fail
    refine H1.out.mono ?_
    rintro e w1 ⟨rfl, hb⟩
    go_wp2_with fail
    go_ret
    exact ⟨rfl, hb⟩
theorem val_nil : val ([] : List UInt8) = 0 := by decide +kernel
set_option maxRecDepth 100000 in
theorem abs_any (l : List UInt8) (w : World) (hc : can l = l) (hs : l.length ≤ 120) (ht : Tab w) : Calls Tryz.prog 64 #[.string ⟨l.toArray⟩] w (StrPost (absT l) w) := by
  have z0 : (⟨l.toArray⟩ : ByteArray).size ≤ 120 := by show l.toArray.size ≤ 120; rw [List.size_toArray]; exact hs
  have h1 : Calls Tryz.prog 66 #[.string ⟨l.toArray⟩, .string ⟨#[]⟩] w (IntPost (cmpI (val l) 0) w) := by
    have := Compare_any ⟨l.toArray⟩ ⟨#[]⟩ w z0 (by decide)
    unfold cmpV at this
    rw [show (⟨#[]⟩ : ByteArray).data.toList = ([] : List UInt8) from rfl, val_nil] at this
    exact this
  have h2 : ∀ W, Below w.heap.size w W → Calls Tryz.prog 96 #[.string ⟨l.toArray⟩] W (StrPost (txt (- val l)) W) := fun W h => Neg_any ⟨l.toArray⟩ W z0 (ht.below h)
  unfold StrPost at h2
  unfold IntPost at h1
  have HN := Lib.hid h2
  clear h2 z0 ht
  by_cases hv : val l < 0
  · have e : absT l = txt (- val l) := by unfold absT; rw [show ((val l).natAbs : Int) = - val l by omega]
    rw [show cmpI (val l) 0 = -1 by unfold cmpI; rw [if_pos hv]] at h1
    have HC := Lib.hid h1
    rw [e]
    clear e h1 hv hc
    generalize txt (- val l) = m at *
    go_enter Tryz.func64, Tryz.ntmps64
    go_wp2_with fail
    refine HC.out.mono ?_
    rintro e w1 ⟨rfl, hb⟩
    have B1 := Lib.hid hb
    clear hb
    go_wp2_with fail
    refine (HN.out _ B1.out).mono ?_
    rintro e w2 ⟨rfl, hb⟩
    go_wp2_with fail
    go_ret
    exact ⟨rfl, below_next B1.out hb ⟨rfl, rfl, rfl, rfl⟩⟩
  · have e : absT l = l := by unfold absT; rw [show ((val l).natAbs : Int) = val l by omega]; exact hc
    rw [e]
    obtain ⟨k, hk⟩ : ∃ k, cmpI (val l) 0 = k := ⟨_, rfl⟩
    have hk0 : ¬ k < 0 := by rw [← hk]; unfold cmpI; rw [if_neg hv]; split <;> omega
    rw [hk] at h1
    have HC := Lib.hid h1
    clear e h1 hv hc hk HN
    go_enter Tryz.func64, Tryz.ntmps64
    go_wp2_with fail
    refine HC.out.mono ?_
    rintro e w1 ⟨rfl, hb⟩
    have B1 := Lib.hid hb
    clear hb
    go_wp2_with fail
    go_ret
    exact ⟨rfl, B1.out⟩
theorem half_any (n : Nat) (w : World) (hn : n ≤ 1000000) : Calls Tryz.prog 60 #[.int .i64 (n : Int)] w (RetP (.int .i64 (cutN n : Int)) w) := by
  go_enter Tryz.func60, Tryz.ntmps60
  go_wp2_with fail
  go_loop [3] (fun i => ∃ f k : Nat, n ≤ f + k ∧ 1 ≤ k ∧ k ≤ n + 1 ∧ Hid (cutLoop f k n = cutN n) ∧ i = .int .i64 (k : Int)) (fun i => n + 1 - (intOf i).toNat)
  case atStart => exact ⟨n, 1, by omega, by omega, by omega, rfl, rfl⟩
  case round =>
    obtain ⟨f, k, h1, h2, h3, hc, rfl⟩ := hrel
    by_cases hlt : 2 * k < n
    · go_wp2_with fail
      go_round
      case rel =>
        refine ⟨f - 1, 2 * k, by omega, by omega, by omega, ?_, by go_num⟩
        show cutLoop (f - 1) (2 * k) n = cutN n
        have := hc.out
        rw [show f = (f - 1) + 1 by omega, cutLoop, if_pos hlt] at this
        exact this
      case measure => simp [intOf]; omega
    · go_wp2_with fail
      go_ret
      have := hc.out
      rw [cutLoop_stop _ _ _ hlt] at this
      exact ⟨by rw [← this]; rfl, rfl⟩
end Go.Proofs.YtjcbohbpkodkoaaGreatDoor

/- Audit: contracts of leaf, over. -/
namespace Go.Proofs.YtjcbohbpkodkoaaGreatDoor
open Go.RowKit Go.Maps Num

theorem cells2n {W : World} {b : Nat} {x y : Value} {t : TypeId} (h : W.heap[b]? = some (.cells #[x, y] t)) : (W.cell? ⟨b, 0, none⟩ = some x ∧ W.cell? ⟨b, 1, none⟩ = some y) ∧ (W.frozen? ⟨b, 0, none⟩ = false ∧ W.frozen? ⟨b, 1, none⟩ = false) :=
  ⟨⟨cell_of_row _ _ _ _ _ _ h, cell_of_row _ _ _ _ _ _ h⟩, frozen_of_row _ _ _ _ _ h, frozen_of_row _ _ _ _ _ h⟩
theorem set2n {W : World} {b : Nat} {x y : Value} {t : TypeId} (h : W.heap[b]? = some (.cells #[x, y] t)) (p q : Value) : ((W.setCell ⟨b, 0, none⟩ p).setCell ⟨b, 1, none⟩ q).heap[b]? = some (.cells #[p, q] t) := by
  unfold World.setCell
  simp [Array.getElem?_modify, h]
theorem below_set2n {w W : World} (h : Below w.heap.size w W) {b : Nat} (hb : w.heap.size ≤ b) (p q : Value) : Below w.heap.size w ((W.setCell ⟨b, 0, none⟩ p).setCell ⟨b, 1, none⟩ q) :=
  below_grown (below_grown h (Nat.le_refl _) (grown_setCell _ _ _) hb) (Nat.le_refl _) (grown_setCell _ _ _) hb
theorem cell_set2n {W : World} {b rb : Nat} {o : Nat} (h : b ≠ rb) (p q : Value) : ((W.setCell ⟨rb, 0, none⟩ p).setCell ⟨rb, 1, none⟩ q).cell? ⟨b, o, none⟩ = W.cell? ⟨b, o, none⟩ := by
  rw [World.cell?_setCell_other _ _ _ _ (fun e => h (congrArg Addr.block e).symm), World.cell?_setCell_other _ _ _ _ (fun e => h (congrArg Addr.block e).symm)]
theorem leafT_cat (a c m : List UInt8) : ((((([0] : List UInt8) ++ a) ++ [32]) ++ c) ++ [32]) ++ prt m = leafT (a, c, m) := by unfold leafT; simp
theorem prt_len (a : List UInt8) : (prt a).length ≤ (can a).length + 1 := by
  unfold prt
  split
  · simp
  · omega
theorem can_len (a : List UInt8) : (can a).length ≤ a.length + 1 := by
  have h := val_bd a
  have := txt_bd (v := val a) (k := a.length) h
  unfold can
  omega
set_option maxRecDepth 100000 in
set_option maxHeartbeats 4000000 in
theorem leaf_any (a c m : List UInt8) (w : World) (hc : can m = m) (ha : a.length ≤ 1000) (hcu : c.length ≤ 1000) (hm : m.length ≤ 100) (ht : Tab w) :
    Calls Tryz.prog 34 #[.agg #[.string ⟨a.toArray⟩, .string ⟨c.toArray⟩, .string ⟨m.toArray⟩]] w (NdPost (leafN sha (a, c, m)) w) := by
  have HP := Lib.hid (show ∀ W, Below w.heap.size w W → NdPost (leafN sha (a, c, m)) w (.returned (.agg #[.string ⟨(absT m).toArray⟩, .string ⟨(sha (leafT (a, c, m))).toArray⟩])) W from fun W h => ⟨rfl, h⟩)
  have HA := Lib.hid (fun W (h : Below w.heap.size w W) => abs_any m W hc (by omega) (ht.below h))
  have HPr := Lib.hid (fun W => Print_any m W (by omega))
  have hpl : (prt m).length ≤ 102 := by have := prt_len m; have := can_len m; omega
  have HS := Lib.hid (fun W => Sha.sum_any ⟨(leafT (a, c, m)).toArray⟩ W (by show (leafT (a, c, m)).toArray.size ≤ _; rw [List.size_toArray]; unfold leafT; simp; omega))
  have e5 := leafT_cat a c m
  rw [show (⟨(leafT (a, c, m)).toArray⟩ : ByteArray).data.toList = leafT (a, c, m) from rfl] at HS
  unfold StrPost at HA HPr
  generalize prt m = p at *
  generalize absT m = am at *
  generalize leafT (a, c, m) = T at *
  generalize hD : Sha.sha T = D at *
  rw [show sha T = D from hD] at HP
  clear hD
  obtain ⟨t1, h1⟩ : ∃ t, ([0] : List UInt8) ++ a = t := ⟨_, rfl⟩
  obtain ⟨t2, h2⟩ : ∃ t, t1 ++ [32] = t := ⟨_, rfl⟩
  obtain ⟨t3, h3⟩ : ∃ t, t2 ++ c = t := ⟨_, rfl⟩
  obtain ⟨t4, h4⟩ : ∃ t, t3 ++ [32] = t := ⟨_, rfl⟩
  rw [h1, h2, h3, h4] at e5
  have l1 : t1.length ≤ 1001 := by rw [← h1]; simp; omega
  have l2 : t2.length ≤ 1002 := by rw [← h2]; simp; omega
  have l3 : t3.length ≤ 2002 := by rw [← h3]; simp; omega
  have l4 : t4.length ≤ 2003 := by rw [← h4]; simp; omega
  have k1 := fun W => cat_run [0] a t1 (by simp; omega) h1 W
  have k2 := fun W => cat_run t1 [32] t2 (by simp; omega) h2 W
  have k3 := fun W => cat_run t2 c t3 (by omega) h3 W
  have k4 := fun W => cat_run t3 [32] t4 (by simp; omega) h4 W
  have k5 := fun W => cat_run t4 p T (by omega) e5 W
  clear h1 h2 h3 h4 e5 l1 l2 l3 l4 hc ha hcu hm ht hpl
  have hB0 : Below w.heap.size w ((w.alloc (.cells #[.string ⟨a.toArray⟩, .string ⟨c.toArray⟩, .string ⟨m.toArray⟩] 48)).alloc (.cells #[.string ⟨#[]⟩, .string ⟨#[]⟩] 51)) := ((Below.refl _ w).alloc (Nat.le_refl _) _).alloc (by simp) _
  have y0 : ((w.alloc (.cells #[.string ⟨a.toArray⟩, .string ⟨c.toArray⟩, .string ⟨m.toArray⟩] 48)).alloc (.cells #[.string ⟨#[]⟩, .string ⟨#[]⟩] 51)).heap[w.heap.size]? = some (.cells #[.string ⟨a.toArray⟩, .string ⟨c.toArray⟩, .string ⟨m.toArray⟩] 48) := by
    rw [heap_alloc_old _ _ (by simp)]; exact heap_alloc_new w _
  have y1 : ((w.alloc (.cells #[.string ⟨a.toArray⟩, .string ⟨c.toArray⟩, .string ⟨m.toArray⟩] 48)).alloc (.cells #[.string ⟨#[]⟩, .string ⟨#[]⟩] 51)).heap[w.heap.size + 1]? = some (.cells #[.string ⟨#[]⟩, .string ⟨#[]⟩] 51) := by
    have := heap_alloc_new (w.alloc (.cells #[.string ⟨a.toArray⟩, .string ⟨c.toArray⟩, .string ⟨m.toArray⟩] 48)) (.cells #[.string ⟨#[]⟩, .string ⟨#[]⟩] 51)
    rwa [show (w.alloc (.cells #[.string ⟨a.toArray⟩, .string ⟨c.toArray⟩, .string ⟨m.toArray⟩] 48)).heap.size = w.heap.size + 1 by simp] at this
  have hsz : ((w.alloc (.cells #[.string ⟨a.toArray⟩, .string ⟨c.toArray⟩, .string ⟨m.toArray⟩] 48)).alloc (.cells #[.string ⟨#[]⟩, .string ⟨#[]⟩] 51)).heap.size = w.heap.size + 2 := by simp
  have B0 := Lib.hid hB0
  have Y0 := Lib.hid y0
  have Y1 := Lib.hid y1
  obtain ⟨⟨x0, x1, x2⟩, _⟩ := cells3 y0
  obtain ⟨⟨z0, z1⟩, f0, f1⟩ := cells2n y1
  have SZ := Lib.hid hsz
  clear hB0 y0 y1 hsz
  go_enter Tryz.func34, Tryz.ntmps34
  go_upto_region 1 with fail
  generalize (w.alloc (.cells #[.string ⟨a.toArray⟩, .string ⟨c.toArray⟩, .string ⟨m.toArray⟩] 48)).alloc (.cells #[.string ⟨#[]⟩, .string ⟨#[]⟩] 51) = w1 at *
  have hl0 : w.heap.size < w1.heap.size := by have := SZ.out; omega
  have hl1 : w.heap.size + 1 < w1.heap.size := by have := SZ.out; omega
  have HL := Lib.hid (And.intro hl0 hl1)
  have HNE := Lib.hid (show w.heap.size ≠ w.heap.size + 1 by omega)
  have RB := Lib.hid (show w.heap.size ≤ w.heap.size + 1 by omega)
  generalize w.heap.size + 1 = rb at *
  have HD := Lib.hid (Below.refl w1.heap.size w1)
  have ARM := Lib.hid (fun W (h : Below w1.heap.size w1 W) => (show Below w.heap.size w W ∧ W.heap[w.heap.size]? = some (.cells #[.string ⟨a.toArray⟩, .string ⟨c.toArray⟩, .string ⟨m.toArray⟩] 48) ∧ W.heap[rb]? = some (.cells #[.string ⟨#[]⟩, .string ⟨#[]⟩] 51) from
    ⟨below_next B0.out h ⟨rfl, rfl, rfl, rfl⟩, (h.block _ HL.out.1).trans Y0.out, (h.block _ HL.out.2).trans Y1.out⟩))
  clear B0 Y0 Y1 SZ hl0 hl1
  go_region_held3 (fun w' => w'.cell? ⟨w.heap.size, 0, none⟩ = some (.string ⟨a.toArray⟩) ∧ w'.cell? ⟨w.heap.size, 1, none⟩ = some (.string ⟨c.toArray⟩) ∧ w'.cell? ⟨w.heap.size, 2, none⟩ = some (.string ⟨m.toArray⟩))
    (first | exact ⟨g0, g1, g2⟩ | exact ⟨x0, x1, x2⟩ | exact ⟨(cell_set2n HNE.out _ _).trans g0, (cell_set2n HNE.out _ _).trans g1, (cell_set2n HNE.out _ _).trans g2⟩ | go_keep)
    (first
      | (go_at_call 64; with_reducible refine (HA.out _ (ARM.out _ ?_).1).mono ?_; · (first | exact HD.out | exact Below.drew HD.out)
         rintro e w' ⟨rfl, hb⟩; have HD := Lib.hid (below_next HD.out hb ⟨rfl, rfl, rfl, rfl⟩); have HQ := ARM.out _ HD.out; obtain ⟨⟨g0, g1, g2⟩, _⟩ := cells3 HQ.2.1; obtain ⟨⟨h0, h1⟩, h2, h3⟩ := cells2n HQ.2.2; clear hb HQ)
      | (go_at_call 48; with_reducible refine (HPr.out _).mono ?_
         rintro e w' ⟨rfl, hb⟩; have HD := Lib.hid (below_next HD.out hb ⟨rfl, rfl, rfl, rfl⟩); have HQ := ARM.out _ HD.out; obtain ⟨⟨g0, g1, g2⟩, _⟩ := cells3 HQ.2.1; obtain ⟨⟨h0, h1⟩, h2, h3⟩ := cells2n HQ.2.2; clear hb HQ)
      | (go_at_call 50; with_reducible refine (HS.out _).mono ?_
         rintro e w' ⟨rfl, hb⟩; have HD := Lib.hid (below_next HD.out hb ⟨rfl, rfl, rfl, rfl⟩); have HQ := ARM.out _ HD.out; obtain ⟨⟨g0, g1, g2⟩, _⟩ := cells3 HQ.2.1; obtain ⟨⟨h0, h1⟩, h2, h3⟩ := cells2n HQ.2.2; clear hb HQ))
  all_goals
    go_wp2_with fail
    have HQ := ARM.out _ HD.out
    obtain ⟨⟨q0, q1⟩, _⟩ := cells2n (set2n HQ.2.2 (.string ⟨am.toArray⟩) (.string ⟨D.toArray⟩))
    exact bodyPost_ret (v := .agg #[.string ⟨am.toArray⟩, .string ⟨D.toArray⟩]) (by simp [results, Tryz.results34, go_sem, q0, q1]) rfl (HP.out _ (below_set2n HQ.1 RB.out _ _))
end Go.Proofs.YtjcbohbpkodkoaaGreatDoor

/- Contract of ledger.Minus. -/
namespace Go.Proofs.YtjcbohbpkodkoaaGreatDoor
open Go.RowKit Go.Maps Num

def lsI (a b : List Ln) : Int := if (listB a && listB b) = true then 0 else 1
def lsL (a b : List Ln) : List Ln := if (listB a && listB b) = true then lessB a b else []
theorem take_neg (l : List Ln) (k : Nat) (h : k < l.length) : (l.take (k + 1)).map negL = (l.take k).map negL ++ [negL (l.getD k ln0)] := by
  rw [take_ln l k h, List.map_append]; rfl
theorem neg_sm60 {x : Ln} (h : Sml x) (hl : x.2.2.length ≤ 60) : Sml (negL x) := negL_sml h hl
set_option maxRecDepth 100000 in
set_option maxHeartbeats 8000000 in
theorem Minus_any (A B : Option Addr) (n c m d : Nat) (a b : List Ln) (w : World) (ha : rowB.Rds w A n c a) (hb : rowB.Rds w B m d b) (sa : ∀ x ∈ a, Sml x) (sb : ∀ x ∈ b, Sml x ∧ x.2.2.length ≤ 60) (hn : n ≤ 4000) (hm : m ≤ 4000) (ht : Tab w) (hM : ML w) :
    Calls Tryz.prog 58 #[.slice A n c, .slice B m d] w (ListC (lsL a b) (lsI a b) w) := by
  have la := Lib.hid ha.len
  have lb := Lib.hid hb.len
  have L1 := Lib.hid ha
  have L2 := Lib.hid hb
  have HT := Lib.hid ht
  have HA := Lib.hid (fun W (h : Below w.heap.size w W) => isList_any A n c a W (ha.below h) sa (by omega) (ht.below h) (hM.below h))
  have HB := Lib.hid (fun W (h : Below w.heap.size w W) => isList_any B m d b W (hb.below h) (fun x hx => (sb x hx).1) (by omega) (ht.below h) (hM.below h))
  have HSM := Lib.hid (show ∀ x ∈ a ++ b.map negL, Sml x from fun x hx => by
    rcases List.mem_append.1 hx with h | h
    · exact sa x h
    · obtain ⟨y, hy, rfl⟩ := List.mem_map.1 h
      exact neg_sm60 (sb y hy).1 (sb y hy).2)
  have HS2 := Lib.hid sb
  have HP := Lib.hid (fun v i W (h1 : rowB.Own w.heap.size W v (lsL a b)) (h2 : Below w.heap.size w W) (hi : lsI a b = i) => (show ListC (lsL a b) (lsI a b) w (.returned (.tuple #[v, .int .i64 i])) W from ⟨v, by rw [hi], h1, h2⟩))
  have HLL := Lib.hid (show lsL a b = if (listB a && listB b) = true then lessB a b else [] from rfl)
  have HLI := Lib.hid (show lsI a b = if (listB a && listB b) = true then 0 else 1 from rfl)
  have HCN := Lib.hid (fun (h : listB a = true) (x : Ln) (hx : x ∈ a ++ b.map negL) => (show canB x = true by
    rcases List.mem_append.1 hx with h' | h'
    · exact listB_can h x h'
    · obtain ⟨y, _, rfl⟩ := List.mem_map.1 h'
      exact canB_t))
  have hmm := @run_makeMap Tryz.prog
  clear ha hb sa sb ht hM
  generalize ListC (lsL a b) (lsI a b) w = Post at *
  generalize lsI a b = ri at *
  generalize lsL a b = rl at *
  cases hba : listB a
  · have hv := Lib.hid (fun W hb => HP.out (.slice none 0 0) 1 W (by rw [HLL.out, hba, if_neg (by simp)]; exact Row.Own.nil _ _) hb (by rw [HLI.out, hba, if_neg (by simp)]))
    have HA0 := HA.out w (Below.refl _ _)
    rw [hba] at HA0
    have HA1 := Lib.hid HA0
    clear HA0 HA HP
    go_enter Tryz.func58, Tryz.ntmps58
    go_wp2_with fail
    refine HA1.out.mono ?_
    rintro e w1 ⟨rfl, hb1⟩
    have hv1 := Lib.hid (hv.out w1 hb1)
    clear hb1
    go_wp2_with fail
    exact hv1.out
  cases hbb : listB b
  · have hv := Lib.hid (fun W hb => HP.out (.slice none 0 0) 1 W (by rw [HLL.out, hbb, Bool.and_false, if_neg (by simp)]; exact Row.Own.nil _ _) hb (by rw [HLI.out, hbb, Bool.and_false, if_neg (by simp)]))
    have HA0 := HA.out w (Below.refl _ _)
    rw [hba] at HA0
    have HA1 := Lib.hid HA0
    have HB0 := HB.out
    rw [hbb] at HB0
    have HB1 := Lib.hid HB0
    clear HA0 HA HP HB HB0
    go_enter Tryz.func58, Tryz.ntmps58
    go_wp2_with fail
    refine HA1.out.mono ?_
    rintro e w1 ⟨rfl, hb1⟩
    have B1 := Lib.hid hb1
    clear hb1
    go_wp2_with fail
    refine (HB1.out _ B1.out).mono ?_
    rintro e w2 ⟨rfl, hb2⟩
    have hv1 := Lib.hid (hv.out w2 (below_next B1.out hb2 ⟨rfl, rfl, rfl, rfl⟩))
    clear hb2
    go_wp2_with fail
    exact hv1.out
  have hv := Lib.hid (fun v W (h1 : rowB.Own w.heap.size W v (lessB a b)) hb => HP.out v 0 W (by rw [HLL.out, hba, hbb, if_pos (by rfl)]; exact h1) hb (by rw [HLI.out, hba, hbb, if_pos (by rfl)]))
  have HCN2 := Lib.hid (HCN.out hba)
  have HA0 := HA.out w (Below.refl _ _)
  rw [hba] at HA0
  have HA1 := Lib.hid HA0
  have HB0 := HB.out
  rw [hbb] at HB0
  have HB1 := Lib.hid HB0
  clear HA0 HA HP HB HB0 HCN HLL HLI hba hbb
  go_enter Tryz.func58, Tryz.ntmps58
  go_wp2_with fail
  refine HA1.out.mono ?_
  rintro e w1 ⟨rfl, hb1⟩
  have B1 := Lib.hid hb1
  clear hb1
  go_wp2_with fail
  refine (HB1.out _ B1.out).mono ?_
  rintro e w2 ⟨rfl, hb2⟩
  have B2 := Lib.hid (below_next B1.out hb2 ⟨rfl, rfl, rfl, rfl⟩)
  clear hb2 B1 HA1 HB1
  have hv2 := Lib.hid (fun v W (h1 : rowB.Own w2.heap.size W v (lessB a b)) (h2 : Below w2.heap.size w2 W) => hv.out v W (h1.mono B2.out.size) (B2.out.trans (h2.mono B2.out.size)))
  have M1 := Lib.hid (L1.out.below B2.out)
  have M2 := Lib.hid (L2.out.below B2.out)
  have T2 := Lib.hid (HT.out.below B2.out)
  clear L1 L2 HT hv B2
  have R0 := Lib.hid (show DurR w2 (a.take 0) (w2.alloc (.map #[] 0)) from DurR.start w2)
  go_wp2_with fail
  go_loopw [22, 8] (fun i _ wr => ∃ k : Nat, k ≤ n ∧ i = .int .i64 (k : Int) ∧ Hid (DurR w2 (a.take k) wr)) (fun i _ _ => n - (intOf i).toNat)
  case atStart => exact ⟨0, by omega, rfl, R0⟩
  case round =>
    clear R0
    obtain ⟨k, hk, rfl, hR⟩ := hrel
    by_cases hlt : k < n
    · have hkl : k < a.length := by rw [la.out]; exact hlt
      have htk := Lib.hid (take_ln a k hkl)
      obtain ⟨b1, o1, rfl, hb1, _⟩ := M1.out.at_ (by omega)
      have q0 := (M1.out.below hR.out.bel).cell rowB_ok ln0 k 0 _ hlt rfl
      have q1 := (M1.out.below hR.out.bel).cell rowB_ok ln0 k 1 _ hlt rfl
      have q2 := (M1.out.below hR.out.bel).cell rowB_ok ln0 k 2 _ hlt rfl
      have hki : (k : Int) < (n : Int) := by omega
      generalize a.getD k ln0 = x at *
      obtain ⟨xa, xc, xm⟩ := x
      simp only [Nat.add_zero] at q0 q1 q2
      have hsx := Lib.hid (show ∀ x ∈ a.take k ++ [(xa, xc, xm)], Sml x from fun x hx => HSM.out x (List.mem_append_left _ (by rw [← htk.out] at hx; exact List.mem_of_mem_take hx)))
      have hll := Lib.hid (show (a.take k).length < 10000 by rw [List.length_take]; omega)
      have HR3 := Lib.hid (hR.out.al (.cells #[.string ⟨xa.toArray⟩, .string ⟨xc.toArray⟩, .string ⟨xm.toArray⟩] 48))
      obtain ⟨⟨y0, y1, y2⟩, _⟩ := cells3 (heap_alloc_new wr (.cells #[.string ⟨xa.toArray⟩, .string ⟨xc.toArray⟩, .string ⟨xm.toArray⟩] 48))
      have HAD := Lib.hid (add_s w2.heap.size (a.take k) xa xc xm _ HR3.out.map hsx.out hll.out (T2.out.below HR3.out.bel))
      have HRX := Lib.hid (fun W h1 h2 => (show DurR w2 (a.take (k + 1)) W by rw [htk.out]; exact HR3.out.add h1 h2))
      clear hR htk
      go_wp2_with fail
      refine HAD.out.mono ?_
      rintro e w3 ⟨rfl, h1, h2⟩
      have RR := Lib.hid (HRX.out w3 h1 h2)
      clear h1 h2 HAD
      go_wp2_with fail
      exact ⟨⟨k + 1, by omega, by go_num, RR⟩, by simp [intOf]; omega⟩
    · have hkn : k = n := by omega
      subst hkn
      have hki : ¬ (k : Int) < (k : Int) := by omega
      have R1 := Lib.hid (show DurR w2 (a ++ (b.take 0).map negL) wr by
        have := hR.out
        rw [List.take_of_length_le (by rw [la.out]; exact Nat.le_refl _)] at this
        rw [List.take_zero, List.map_nil, List.append_nil]; exact this)
      clear hR
      go_wp2_with fail
      go_loopw [38, 10] (fun i _ wr => ∃ k : Nat, k ≤ m ∧ i = .int .i64 (k : Int) ∧ Hid (DurR w2 (a ++ (b.take k).map negL) wr)) (fun i _ _ => m - (intOf i).toNat)
      case atStart => exact ⟨0, by omega, rfl, R1⟩
      case round =>
        clear R1
        obtain ⟨j, hj, rfl, hR⟩ := hrel
        by_cases hlt : j < m
        · have hkl : j < b.length := by rw [lb.out]; exact hlt
          have htk := Lib.hid (take_neg b j hkl)
          have hbj := Lib.hid (HS2.out _ (lnAt_mem b j hkl))
          have hmt := Lib.hid (show ∀ x ∈ (b.take (j + 1)).map negL, x ∈ b.map negL from fun x hx => by
            obtain ⟨y, hy, rfl⟩ := List.mem_map.1 hx
            exact List.mem_map_of_mem (List.mem_of_mem_take hy))
          obtain ⟨b1, o1, rfl, hb1, _⟩ := M2.out.at_ (by omega)
          have q0 := (M2.out.below hR.out.bel).cell rowB_ok ln0 j 0 _ hlt rfl
          have q1 := (M2.out.below hR.out.bel).cell rowB_ok ln0 j 1 _ hlt rfl
          have q2 := (M2.out.below hR.out.bel).cell rowB_ok ln0 j 2 _ hlt rfl
          have hki : (j : Int) < (m : Int) := by omega
          generalize b.getD j ln0 = x at *
          obtain ⟨xa, xc, xm⟩ := x
          simp only [Nat.add_zero] at q0 q1 q2
          have hsx := Lib.hid (show ∀ x ∈ (a ++ (b.take j).map negL) ++ [(xa, xc, txt (- val xm))], Sml x from fun x hx => HSM.out x (by
            rw [List.append_assoc] at hx
            rcases List.mem_append.1 hx with h | h
            · exact List.mem_append_left _ h
            · exact List.mem_append_right _ (hmt.out x (by rw [htk.out]; exact h))))
          have hll := Lib.hid (show (a ++ (b.take j).map negL).length < 10000 by rw [List.length_append, List.length_map, List.length_take, la.out]; omega)
          have HR3 := Lib.hid (hR.out.al (.cells #[.string ⟨xa.toArray⟩, .string ⟨xc.toArray⟩, .string ⟨xm.toArray⟩] 48))
          have HX := Lib.hid (cells3 (heap_alloc_new wr (.cells #[.string ⟨xa.toArray⟩, .string ⟨xc.toArray⟩, .string ⟨xm.toArray⟩] 48))).1
          obtain ⟨y0, y1, y2⟩ := HX.out
          have ly := block_lt_of_cell y0
          have hbm : w2.heap.size < wr.heap.size := NmR.lt hR.out.map
          have HNE := Lib.hid (show some wr.heap.size ≠ some w2.heap.size from fun e => by have := Option.some.inj e; omega)
          have HNG := Lib.hid (fun W hb => Neg_any ⟨xm.toArray⟩ W (by show xm.toArray.size ≤ 120; rw [List.size_toArray]; have := hbj.out.2; simp only at this; omega) (T2.out.below (HR3.out.next hb).bel))
          have HAD := Lib.hid (fun W hb => add_s w2.heap.size (a ++ (b.take j).map negL) xa xc (txt (- val xm)) W (HR3.out.next hb).map hsx.out hll.out (T2.out.below (HR3.out.next hb).bel))
          have HRX := Lib.hid (fun W W' hb h1 h2 => (show DurR w2 (a ++ (b.take (j + 1)).map negL) W' by rw [htk.out, ← List.append_assoc]; exact (HR3.out.next (W' := W) hb).add h1 h2))
          clear hR htk
          go_wp2_with fail
          generalize wr.alloc (.cells #[.string ⟨xa.toArray⟩, .string ⟨xc.toArray⟩, .string ⟨xm.toArray⟩] 48) = w3 at *
          generalize wr.heap.size = bx at *
          have HD := Lib.hid (Below.refl w3.heap.size w3)
          go_region_held3 (fun w' => w'.cell? ⟨bx, 0, none⟩ = some (.string ⟨xa.toArray⟩) ∧ w'.cell? ⟨bx, 1, none⟩ = some (.string ⟨xc.toArray⟩) ∧ w'.cell? ⟨bx, 2, none⟩ = some (.string ⟨xm.toArray⟩))
            (first | exact ⟨e0, e1, e2⟩ | exact ⟨g0, g1, g2⟩ | exact ⟨y0, y1, y2⟩ | go_keep)
            (first
              | (go_at_call 96; with_reducible refine (HNG.out _ ?_).mono ?_; · (first | exact HD.out | exact Below.drew HD.out)
                 rintro e w' ⟨rfl, hb⟩; have HD := Lib.hid (below_next HD.out hb ⟨rfl, rfl, rfl, rfl⟩); have g0 := (HD.out.cell ly).trans HX.out.1; have g1 := (HD.out.cell (p := ⟨bx, 1, none⟩) ly).trans HX.out.2.1; have g2 := (HD.out.cell (p := ⟨bx, 2, none⟩) ly).trans HX.out.2.2; clear hb)
              | (go_at_call 95; with_reducible refine (HAD.out _ ?_).mono ?_; · (first | exact HD.out | exact Below.drew HD.out)
                 rintro e w' ⟨rfl, h1, h2⟩; have RR := Lib.hid (HRX.out _ _ (by first | exact HD.out | exact Below.drew HD.out) h1 h2); have e0 := h2.cell (a := ⟨bx, 0, none⟩) g0 HNE.out; have e1 := h2.cell (a := ⟨bx, 1, none⟩) g1 HNE.out; have e2 := h2.cell (a := ⟨bx, 2, none⟩) g2 HNE.out; clear h1 h2))
          go_wp2_with fail
          exact ⟨⟨j + 1, by omega, by go_num, RR⟩, by simp [intOf]; omega⟩
        · have hjn : j = m := by omega
          subst hjn
          have hji : ¬ (j : Int) < (j : Int) := by omega
          have e : b.take j = b := List.take_of_length_le (by rw [lb.out]; exact Nat.le_refl _)
          have hRk := hR.out
          rw [e] at hRk
          have HLS := Lib.hid (list_s w2.heap.size _ wr hRk.map HSM.out (by rw [List.length_append, List.length_map, la.out, lb.out]; omega) HCN2.out)
          have HBk := Lib.hid hRk.bel
          clear hR hRk e
          go_wp2_with fail
          refine HLS.out.mono ?_
          rintro e w3 ⟨v, rfl, h1, h2⟩
          have H1 := Lib.hid (hv2.out v w3 (Row.Own.mono h1 HBk.out.size) (HBk.out.trans (h2.mono HBk.out.size)))
          clear h1 h2 HLS
          go_wp2_with fail
          exact H1.out
end Go.Proofs.YtjcbohbpkodkoaaGreatDoor

/- Audit: contracts of check, Leaf, root, Root. -/
namespace Go.Proofs.YtjcbohbpkodkoaaGreatDoor
open Go.RowKit Go.Maps Num

/-- rows of nodes -/
abbrev rowNd : Row Nd := ⟨54, 51, .agg #[.string ⟨#[]⟩, .string ⟨#[]⟩], 2, 32, fun x => [.string ⟨x.1.toArray⟩, .string ⟨x.2.toArray⟩]⟩
theorem rowNd_ok : rowNd.Ok where
  hS := Tryz.underlying54
  info := by kernel_rfl
  zc := rfl
  k0 := by decide
  b1 := by decide
  hk _ := rfl
  h1 x v hv := by
    simp only [List.mem_cons, List.not_mem_nil, or_false] at hv
    rcases hv with rfl | rfl <;> rfl
def nd0 : Nd := ([], [])
/-- balances of the sizes that are looked at -/
def SmB (x : Ln) : Prop := x.1.length ≤ 60 ∧ x.2.1.length ≤ 60 ∧ x.2.2.length ≤ 60
theorem SmB.sml {x : Ln} (h : SmB x) : Sml x := ⟨by have := h.1; omega, by have := h.2.1; omega, by have := h.2.2; omega⟩
def lisI (l : List Ln) : Int := if listB l = true then 0 else 1
set_option maxRecDepth 100000 in
theorem check_any (A : Option Addr) (n c : Nat) (l : List Ln) (w : World) (hl : rowB.Rds w A n c l) (hs : ∀ x ∈ l, SmB x) (hn : n ≤ 1000) (ht : Tab w) (hM : ML w) :
    Calls Tryz.prog 31 #[.slice A n c] w (IntPost (lisI l) w) := by
  have h1 := Minus_any A none n c 0 0 l [] w hl (Row.Rds.nil w none 0 (by unfold maxLen; omega)) (fun x hx => (hs x hx).sml) (fun x hx => by cases hx) (by omega) (by omega) ht hM
  have e : lsI l [] = lisI l := by unfold lsI lisI; rw [show listB [] = true by decide, Bool.and_true]
  rw [e] at h1
  have HM := Lib.hid h1
  have hd : decide (1024 < (n : Int)) = false := by simp; omega
  have hd2 : ¬ (1024 : Int) < (n : Int) := by omega
  clear h1 e hl hs ht hM
  unfold lisI at *
  cases hb : listB l
  · rw [hb] at HM
    have e0 : (if (false = true) then (0 : Int) else 1) = 1 := rfl
    rw [e0] at HM ⊢
    clear hb e0
    go_enter Tryz.func31, Tryz.ntmps31
    go_wp2_with fail
    refine HM.out.mono ?_
    rintro e w1 ⟨v, rfl, _, hb1⟩
    go_wp2_with fail
    go_ret
    exact ⟨rfl, hb1⟩
  · rw [hb] at HM
    have e0 : (if (true = true) then (0 : Int) else 1) = 0 := rfl
    rw [e0] at HM ⊢
    clear hb e0
    go_enter Tryz.func31, Tryz.ntmps31
    go_wp2_with fail
    refine HM.out.mono ?_
    rintro e w1 ⟨v, rfl, _, hb1⟩
    go_wp2_with fail
    go_ret
    exact ⟨rfl, hb1⟩
/-- a node and a code are returned -/
def NdC (x : Nd) (i : Int) (w : World) (e : Ending) (w' : World) : Prop := e = .returned (.tuple #[ndV x, .int .i64 i]) ∧ Below w.heap.size w w'
theorem val_le60 {a : List UInt8} (h : a.length ≤ 60) : (val a).natAbs < 10 ^ 60 := Nat.lt_of_lt_of_le (val_bd a) (Nat.pow_le_pow_right (by omega) h)
theorem absS_bd {l : List Ln} (h : ∀ x ∈ l, x.2.2.length ≤ 60) : 0 ≤ absS l ∧ absS l ≤ l.length * 10 ^ 60 := by
  induction l with
  | nil => simp [absS]
  | cons b r ih =>
    have h1 := ih fun x hx => h x (List.mem_cons_of_mem _ hx)
    have h2 := val_le60 (h b (by simp))
    have e : absS (b :: r) = ((val b.2.2).natAbs : Int) + absS r := by simp [absS]
    rw [e, List.length_cons]
    have h3 : (((r.length + 1 : Nat)) : Int) * 10 ^ 60 = (r.length : Int) * 10 ^ 60 + 10 ^ 60 := by rw [Int.natCast_add, Int.add_mul]; simp
    rw [h3]
    have h4 : ((val b.2.2).natAbs : Int) < 10 ^ 60 := by exact_mod_cast h2
    constructor
    · omega
    · omega
theorem absS_len {l : List Ln} (h : ∀ x ∈ l, x.2.2.length ≤ 60) (hn : l.length ≤ 1000) : (txt (absS l)).length ≤ 65 := by
  have h1 := absS_bd h
  have h2 : (l.length : Int) * 10 ^ 60 ≤ 1000 * 10 ^ 60 := Int.mul_le_mul_of_nonneg_right (by omega) (by decide)
  have h3 : (absS l).natAbs < 10 ^ 64 := by
    have h5 : (1000 : Int) * 10 ^ 60 < 10 ^ 64 := by decide
    have h6 : absS l < 10 ^ 64 := by omega
    have h7 : ((absS l).natAbs : Int) = absS l := by omega
    have h8 : ((absS l).natAbs : Int) < ((10 ^ 64 : Nat) : Int) := by rw [h7]; exact_mod_cast h6
    exact Int.ofNat_lt.1 h8
  have := txt_bd h3
  omega
theorem root_len (l : List Ln) (h : ∀ x ∈ l, x.2.2.length ≤ 60) (hn : l.length ≤ 1000) : (rootN sha l).1.length ≤ 65 ∧ (rootN sha l).2.length = 32 := by
  refine ⟨by rw [root_sum]; exact absS_len h hn, ?_⟩
  exact (validN_iff.1 (root_valid sha_len l)).2.2
end Go.Proofs.YtjcbohbpkodkoaaGreatDoor

/- Audit: contracts of over; of the reference's Abs, Print, leaf, over. -/
namespace Go.Proofs.YtjcbohbpkodkoaaGreatDoor
open Go.RowKit Go.Maps Num

theorem overT_cat (x1 x2 y1 y2 : List UInt8) : (((((([1] : List UInt8) ++ prt x1) ++ [32]) ++ x2) ++ prt y1) ++ [32]) ++ y2 = overT (x1, x2) (y1, y2) := by unfold overT; simp
/-- a node of the sizes that are looked at -/
def SmN (x : Nd) : Prop := x.1.length ≤ 100 ∧ x.2.length ≤ 1000
theorem alloc_two (w : World) (a b c d : Value) (t : TypeId) : ((w.alloc (.cells #[a, b] t)).alloc (.cells #[c, d] t)).heap[w.heap.size]? = some (.cells #[a, b] t) ∧ ((w.alloc (.cells #[a, b] t)).alloc (.cells #[c, d] t)).heap[w.heap.size + 1]? = some (.cells #[c, d] t) := by
  refine ⟨by rw [heap_alloc_old _ _ (by simp)]; exact heap_alloc_new w _, ?_⟩
  have := heap_alloc_new (w.alloc (.cells #[a, b] t)) (.cells #[c, d] t)
  rwa [show (w.alloc (.cells #[a, b] t)).heap.size = w.heap.size + 1 by simp] at this
theorem alloc_three (w : World) (a b c d p q : Value) (t : TypeId) : (((w.alloc (.cells #[a, b] t)).alloc (.cells #[c, d] t)).alloc (.cells #[p, q] t)).heap[w.heap.size]? = some (.cells #[a, b] t) ∧ (((w.alloc (.cells #[a, b] t)).alloc (.cells #[c, d] t)).alloc (.cells #[p, q] t)).heap[w.heap.size + 1]? = some (.cells #[c, d] t) ∧
    (((w.alloc (.cells #[a, b] t)).alloc (.cells #[c, d] t)).alloc (.cells #[p, q] t)).heap[w.heap.size + 1 + 1]? = some (.cells #[p, q] t) := by
  obtain ⟨h1, h2⟩ := alloc_two w a b c d t
  have h3 := heap_alloc_new ((w.alloc (.cells #[a, b] t)).alloc (.cells #[c, d] t)) (.cells #[p, q] t)
  rw [show ((w.alloc (.cells #[a, b] t)).alloc (.cells #[c, d] t)).heap.size = w.heap.size + 2 by simp] at h3
  exact ⟨(heap_alloc_old _ _ (by simp; omega)).trans h1, (heap_alloc_old _ _ (by simp)).trans h2, h3⟩
set_option maxRecDepth 100000 in
set_option maxHeartbeats 8000000 in
theorem over_any (x1 x2 y1 y2 : List UInt8) (w : World) (hx : SmN (x1, x2)) (hy : SmN (y1, y2)) (ht : Tab w) :
    Calls Tryz.prog 38 #[.agg #[.string ⟨x1.toArray⟩, .string ⟨x2.toArray⟩], .agg #[.string ⟨y1.toArray⟩, .string ⟨y2.toArray⟩]] w (NdPost (overN sha (x1, x2) (y1, y2)) w) := by
  obtain ⟨hx1, hx2⟩ := hx
  obtain ⟨hy1, hy2⟩ := hy
  simp only at hx1 hx2 hy1 hy2
  have HP := Lib.hid (show ∀ W, Below w.heap.size w W → NdPost (overN sha (x1, x2) (y1, y2)) w (.returned (.agg #[.string ⟨(txt (val x1 + val y1)).toArray⟩, .string ⟨(sha (overT (x1, x2) (y1, y2))).toArray⟩])) W from fun W h => ⟨rfl, h⟩)
  have HA := Lib.hid (show ∀ W, Below w.heap.size w W → Calls Tryz.prog 68 #[.string ⟨x1.toArray⟩, .string ⟨y1.toArray⟩] W (StrPost (txt (val x1 + val y1)) W) from fun W h => Add_any ⟨x1.toArray⟩ ⟨y1.toArray⟩ W (by show x1.toArray.size ≤ 120; rw [List.size_toArray]; omega) (by show y1.toArray.size ≤ 120; rw [List.size_toArray]; omega) (ht.below h))
  have HPx := Lib.hid (fun W => Print_any x1 W (by omega))
  have HPy := Lib.hid (fun W => Print_any y1 W (by omega))
  have hpx : (prt x1).length ≤ 102 := by have := prt_len x1; have := can_len x1; omega
  have hpy : (prt y1).length ≤ 102 := by have := prt_len y1; have := can_len y1; omega
  have HS := Lib.hid (fun W => Sha.sum_any ⟨(overT (x1, x2) (y1, y2)).toArray⟩ W (by show (overT (x1, x2) (y1, y2)).toArray.size ≤ _; rw [List.size_toArray]; unfold overT; simp; omega))
  have e5 := overT_cat x1 x2 y1 y2
  rw [show (⟨(overT (x1, x2) (y1, y2)).toArray⟩ : ByteArray).data.toList = overT (x1, x2) (y1, y2) from rfl] at HS
  unfold StrPost at HA HPx HPy
  generalize prt x1 = px at *
  generalize prt y1 = py at *
  generalize txt (val x1 + val y1) = sm at *
  generalize overT (x1, x2) (y1, y2) = T at *
  generalize hD : Sha.sha T = D at *
  rw [show sha T = D from hD] at HP
  clear hD
  obtain ⟨t1, h1⟩ : ∃ t, ([1] : List UInt8) ++ px = t := ⟨_, rfl⟩
  obtain ⟨t2, h2⟩ : ∃ t, t1 ++ [32] = t := ⟨_, rfl⟩
  obtain ⟨t3, h3⟩ : ∃ t, t2 ++ x2 = t := ⟨_, rfl⟩
  obtain ⟨t4, h4⟩ : ∃ t, t3 ++ py = t := ⟨_, rfl⟩
  obtain ⟨t5, h5⟩ : ∃ t, t4 ++ [32] = t := ⟨_, rfl⟩
  rw [h1, h2, h3, h4, h5] at e5
  have l1 : t1.length ≤ 103 := by rw [← h1]; simp; omega
  have l2 : t2.length ≤ 104 := by rw [← h2]; simp; omega
  have l3 : t3.length ≤ 1104 := by rw [← h3]; simp; omega
  have l4 : t4.length ≤ 1206 := by rw [← h4]; simp; omega
  have l5 : t5.length ≤ 1207 := by rw [← h5]; simp; omega
  have k1 := fun W => cat_run [1] px t1 (by simp; omega) h1 W
  have k2 := fun W => cat_run t1 [32] t2 (by simp; omega) h2 W
  have k3 := fun W => cat_run t2 x2 t3 (by omega) h3 W
  have k4 := fun W => cat_run t3 py t4 (by omega) h4 W
  have k5 := fun W => cat_run t4 [32] t5 (by simp; omega) h5 W
  have k6 := fun W => cat_run t5 y2 T (by omega) e5 W
  clear h1 h2 h3 h4 h5 e5 l1 l2 l3 l4 l5 hx1 hx2 hy1 hy2 ht hpx hpy
  have hB0 : Below w.heap.size w (((w.alloc (.cells #[.string ⟨x1.toArray⟩, .string ⟨x2.toArray⟩] 51)).alloc (.cells #[.string ⟨y1.toArray⟩, .string ⟨y2.toArray⟩] 51)).alloc (.cells #[.string ⟨#[]⟩, .string ⟨#[]⟩] 51)) := (((Below.refl _ w).alloc (Nat.le_refl _) _).alloc (by simp) _).alloc (by simp; omega) _
  obtain ⟨y0', y1', y2'⟩ := alloc_three w (.string ⟨x1.toArray⟩) (.string ⟨x2.toArray⟩) (.string ⟨y1.toArray⟩) (.string ⟨y2.toArray⟩) (.string ⟨#[]⟩) (.string ⟨#[]⟩) 51
  have hsz : (((w.alloc (.cells #[.string ⟨x1.toArray⟩, .string ⟨x2.toArray⟩] 51)).alloc (.cells #[.string ⟨y1.toArray⟩, .string ⟨y2.toArray⟩] 51)).alloc (.cells #[.string ⟨#[]⟩, .string ⟨#[]⟩] 51)).heap.size = w.heap.size + 3 := by simp
  have B0 := Lib.hid hB0
  have Y0 := Lib.hid y0'
  have Y1 := Lib.hid y1'
  have Y2 := Lib.hid y2'
  obtain ⟨⟨q0, q1⟩, _⟩ := cells2n y0'
  obtain ⟨⟨r0, r1⟩, _⟩ := cells2n y1'
  obtain ⟨⟨z0, z1⟩, f0, f1⟩ := cells2n y2'
  have SZ := Lib.hid hsz
  clear hB0 y0' y1' y2' hsz
  go_enter Tryz.func38, Tryz.ntmps38
  go_upto_region 1 with fail
  generalize ((w.alloc (.cells #[.string ⟨x1.toArray⟩, .string ⟨x2.toArray⟩] 51)).alloc (.cells #[.string ⟨y1.toArray⟩, .string ⟨y2.toArray⟩] 51)).alloc (.cells #[.string ⟨#[]⟩, .string ⟨#[]⟩] 51) = w1 at *
  have HL := Lib.hid (show w.heap.size < w1.heap.size ∧ w.heap.size + 1 < w1.heap.size ∧ w.heap.size + 1 + 1 < w1.heap.size by have := SZ.out; omega)
  have HNE := Lib.hid (show w.heap.size ≠ w.heap.size + 1 + 1 ∧ w.heap.size + 1 ≠ w.heap.size + 1 + 1 by omega)
  have RB := Lib.hid (show w.heap.size ≤ w.heap.size + 1 + 1 by omega)
  generalize w.heap.size + 1 + 1 = rb at *
  generalize w.heap.size + 1 = yb at *
  have HD := Lib.hid (Below.refl w1.heap.size w1)
  have ARM := Lib.hid (fun W (h : Below w1.heap.size w1 W) => (show Below w.heap.size w W ∧ W.heap[w.heap.size]? = some (.cells #[.string ⟨x1.toArray⟩, .string ⟨x2.toArray⟩] 51) ∧ W.heap[yb]? = some (.cells #[.string ⟨y1.toArray⟩, .string ⟨y2.toArray⟩] 51) ∧ W.heap[rb]? = some (.cells #[.string ⟨#[]⟩, .string ⟨#[]⟩] 51) from
    ⟨below_next B0.out h ⟨rfl, rfl, rfl, rfl⟩, (h.block _ HL.out.1).trans Y0.out, (h.block _ HL.out.2.1).trans Y1.out, (h.block _ HL.out.2.2).trans Y2.out⟩))
  clear B0 Y0 Y1 Y2 SZ
  go_region_held3 (fun w' => w'.cell? ⟨w.heap.size, 0, none⟩ = some (.string ⟨x1.toArray⟩) ∧ w'.cell? ⟨w.heap.size, 1, none⟩ = some (.string ⟨x2.toArray⟩) ∧ w'.cell? ⟨yb, 0, none⟩ = some (.string ⟨y1.toArray⟩) ∧ w'.cell? ⟨yb, 1, none⟩ = some (.string ⟨y2.toArray⟩))
    (first | exact ⟨g0, g1, g2, g3⟩ | exact ⟨q0, q1, r0, r1⟩ | exact ⟨(cell_set2n HNE.out.1 _ _).trans g0, (cell_set2n HNE.out.1 _ _).trans g1, (cell_set2n HNE.out.2 _ _).trans g2, (cell_set2n HNE.out.2 _ _).trans g3⟩ | go_keep)
    (first
      | (go_at_call 68; with_reducible refine (HA.out _ (ARM.out _ ?_).1).mono ?_; · (first | exact HD.out | exact Below.drew HD.out)
         rintro e w' ⟨rfl, hb⟩; have HD := Lib.hid (below_next HD.out hb ⟨rfl, rfl, rfl, rfl⟩); have HQ := ARM.out _ HD.out; obtain ⟨⟨g0, g1⟩, _⟩ := cells2n HQ.2.1; obtain ⟨⟨g2, g3⟩, _⟩ := cells2n HQ.2.2.1; obtain ⟨⟨h0, h1⟩, h2, h3⟩ := cells2n HQ.2.2.2; clear hb HQ)
      | (go_at_call 48; (first | with_reducible refine (HPx.out _).mono ?_ | with_reducible refine (HPy.out _).mono ?_)
         rintro e w' ⟨rfl, hb⟩; have HD := Lib.hid (below_next HD.out hb ⟨rfl, rfl, rfl, rfl⟩); have HQ := ARM.out _ HD.out; obtain ⟨⟨g0, g1⟩, _⟩ := cells2n HQ.2.1; obtain ⟨⟨g2, g3⟩, _⟩ := cells2n HQ.2.2.1; obtain ⟨⟨h0, h1⟩, h2, h3⟩ := cells2n HQ.2.2.2; clear hb HQ)
      | (go_at_call 50; with_reducible refine (HS.out _).mono ?_
         rintro e w' ⟨rfl, hb⟩; have HD := Lib.hid (below_next HD.out hb ⟨rfl, rfl, rfl, rfl⟩); have HQ := ARM.out _ HD.out; obtain ⟨⟨g0, g1⟩, _⟩ := cells2n HQ.2.1; obtain ⟨⟨g2, g3⟩, _⟩ := cells2n HQ.2.2.1; obtain ⟨⟨h0, h1⟩, h2, h3⟩ := cells2n HQ.2.2.2; clear hb HQ))
  all_goals
    go_wp2_with fail
    have HQ := ARM.out _ HD.out
    obtain ⟨⟨q0, q1⟩, _⟩ := cells2n (set2n HQ.2.2.2 (.string ⟨sm.toArray⟩) (.string ⟨D.toArray⟩))
    exact bodyPost_ret (v := .agg #[.string ⟨sm.toArray⟩, .string ⟨D.toArray⟩]) (by simp [results, Tryz.results38, go_sem, q0, q1]) rfl (HP.out _ (below_set2n HQ.1 RB.out _ _))
end Go.Proofs.YtjcbohbpkodkoaaGreatDoor
