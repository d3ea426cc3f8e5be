/- Contract of digest.Sum. -/
import Derived.Test.YtlgpdmejnabinaaWords
import Derived.Deep.DeepMust
namespace Go.Proofs.Ytlgpdmejnabinaa
open Go.RowKit

theorem stepOf_len (st : List Int) (b : List UInt8) (ks : List Int) (h : st.length = 8) : (stepOf st b ks).length = 8 := by rw [stepOf, addAll_len]; exact rounds_len _ _ _ h _
theorem step_call (S : List Int) (hl : S.length = 8) (s : ByteArray) (hs : s.size = 64) (w : World) :
    Calls Try.prog 40 #[.agg ⟨S.map (Value.int .u32)⟩, .string s, .agg KA] w fun e w' => e = .returned (.agg ⟨(stepOf S s.data.toList K64).map (Value.int .u32)⟩) ∧ Below w.heap.size w w' := by
  obtain ⟨a, b, c, d, e, f, g, i, rfl⟩ := list8 S hl
  exact step_any a b c d e f g i _ s K64 w rfl hs rfl
theorem extract_head (r : List UInt8) : (⟨r.toArray⟩ : ByteArray).extract 0 64 = ⟨(r.take 64).toArray⟩ := by apply ByteArray.ext; simp
theorem extract_tail (r : List UInt8) (n : Nat) (h : n = r.length) : (⟨r.toArray⟩ : ByteArray).extract 64 n = ⟨(r.drop 64).toArray⟩ := by subst h; apply ByteArray.ext; simp [List.take_of_length_le]
/-- the state over whole blocks -/
def runBlocks (st : List Int) : Nat → List UInt8 → List Int
  | 0, _ => st
  | n + 1, s => runBlocks (stepOf st (s.take 64) K64) n (s.drop 64)

def strLen : Value → Nat | .string s => s.size | _ => 0
structure SumR (w w3 : World) (P r : List UInt8) (S : List Int) (wr : World) : Prop where
  bel : Below w.heap.size w wr
  low : w.heap.size ≤ w3.heap.size
  size : w3.heap.size + 2 ≤ wr.heap.size
  s : wr.heap[w3.heap.size]? = some (.cells ⟨S.map (Value.int .u32)⟩ 56 (0, 0))
  k : wr.heap[w3.heap.size + 1]? = some (.cells KA 58 (0, 0))
  len : S.length = 8
  m64 : r.length % 64 = 0
  now : ∃ n, P.length = 64 * n + r.length ∧ runBlocks H8 (P.length / 64) P = runBlocks S (r.length / 64) r

theorem SumR.next {w w3 wr w4 : World} {P r : List UInt8} {S : List Int} (h : SumR w w3 P r S wr) (h64 : 64 ≤ r.length) (hb : Below wr.heap.size wr w4)
    (h1 : w4.heap[w3.heap.size]? = some (.cells ⟨S.map (Value.int .u32)⟩ 56 (0, 0))) (h2 : w4.heap[w3.heap.size + 1]? = some (.cells KA 58 (0, 0))) :
    SumR w w3 P (r.drop 64) (stepOf S (r.take 64) K64) (w4.setRow w3.heap.size ⟨(stepOf S (r.take 64) K64).map (Value.int .u32)⟩) := by
  refine ⟨?_, h.low, ?_, setRow_heap _ _ _ _ _ _ h1, ?_, stepOf_len _ _ _ h.len, ?_, ?_⟩
  · have hb' : Below w.heap.size w w4 := h.bel.trans (hb.mono h.bel.size)
    refine hb'.trans ⟨rfl, rfl, rfl, by simp, fun k hk => setRow_other _ _ _ _ (by have := h.low; omega)⟩
  · have := h.size; have := hb.size; simp; omega
  · rw [setRow_other _ _ _ _ (by omega)]; exact h2
  · have := h.m64; simp; omega
  · obtain ⟨n, hn, he⟩ := h.now
    refine ⟨n + 1, by simp; omega, ?_⟩
    rw [he, show r.length / 64 = (r.drop 64).length / 64 + 1 by simp; omega, runBlocks]
theorem padOf_len (s : List UInt8) : (padOf s).length % 64 = 0 := by
  simp only [padOf, padHead, List.length_append, List.length_cons, zeroL_len, lenBytes_len, zerosOf]
  omega
theorem SumR.start {w w3 : World} {P : List UInt8} (hb : Below w.heap.size w w3) (hP : P.length % 64 = 0) (c8 c64 : Array Value) (h8 : c8 = ⟨H8.map (Value.int .u32)⟩) :
    SumR w w3 P P H8 (((w3.alloc (.cells c8 56)).alloc (.cells c64 58)).setRow (w3.heap.size + 1) KA) := by
  subst h8
  refine ⟨?_, hb.size, by simp, ?_, ?_, rfl, hP, 0, by omega, rfl⟩
  · exact ((hb.alloc hb.size _).alloc (by have := hb.size; simp; omega) _).trans ⟨rfl, rfl, rfl, by simp, fun k hk => setRow_other _ _ _ _ (by have := hb.size; omega)⟩
  · rw [setRow_other _ _ _ _ (by omega)]
    exact heap_alloc2_old _ _ _
  · exact setRow_heap _ _ _ _ _ _ (heap_alloc2_new _ _ _)
def outOf (S : List Int) : Nat → List Int
  | 0 => []
  | k + 1 => outOf S k ++ [S.getD k 0 / 16777216 % 256, S.getD k 0 / 65536 % 256, S.getD k 0 / 256 % 256, S.getD k 0 % 256]
theorem outOf_len (S : List Int) (k : Nat) : (outOf S k).length = 4 * k := by
  induction k with
  | zero => rfl
  | succ n ih => simp [outOf, ih]; omega
/-- SHA-256 -/
def sha (s : List UInt8) : List UInt8 := (outOf (runBlocks H8 ((padOf s).length / 64) (padOf s)) 8).map fun n => UInt8.ofNat n.toNat

set_option maxHeartbeats 2000000 in
set_option maxRecDepth 100000 in
theorem sum_any (s : ByteArray) (w : World) (hs : s.size ≤ 140737488351232) :
    Calls Try.prog 14 #[.string s] w fun e w' => e = .returned (.string ⟨(sha s.data.toList).toArray⟩) ∧ Below w.heap.size w w' := by
  go_enter Try.func14, Try.ntmps14
  go_wp2_with fail
  refine (padded_any s _ hs).mono ?_
  rintro e w1 ⟨rfl, hb1⟩
  go_wp2_with fail
  refine (start_any _).mono ?_
  rintro e w2 ⟨rfl, hb2⟩
  go_wp2_with fail
  refine (constants_any _).mono ?_
  rintro e w3 ⟨rfl, hb3⟩
  go_wp2_with (refine wpList_store_row rfl 58 _ _ rfl (w3.heap.size + 1) KA rfl rfl 58 _ (heap_alloc2_new w3 _ _) (by kernel_rfl) (by kernel_rfl) (by kernel_rfl) ?_)
  go_frame
  obtain ⟨P, hP⟩ : ∃ P, P = padOf s.data.toList := ⟨_, rfl⟩
  rw [← hP]
  have HP := Lib.hid hP
  clear hP
  go_loopw [0] (fun v wr => ∃ (r : List UInt8) (S : List Int), SumR w w3 P r S wr ∧ v = .string ⟨r.toArray⟩) (fun v _ => strLen v)
  case atStart =>
    refine ⟨P, H8, ?_, rfl⟩
    have hbb : Below w.heap.size w w3 := (hb1.trans (hb2.mono hb1.size)).trans (hb3.mono (Nat.le_trans hb1.size hb2.size))
    exact SumR.start hbb (by rw [HP.out]; exact padOf_len _) _ _ rfl
  case round =>
    obtain ⟨r, S, hsr, rfl⟩ := hrel
    by_cases hr : r = []
    · subst hr
      go_wp2_with (refine wpList_load_row rfl 56 _ rfl w3.heap.size rfl 56 _ (0, 0) _ hsr.s Try.underlying56 rfl (by rw [List.size_toArray, List.length_map, hsr.len]; kernel_rfl) ?_)
      go_loopw [5, 22] (fun v i wi => ∃ k : Nat, k ≤ 8 ∧ i = .int .i64 (k : Int) ∧ OwnB w.heap.size wi v (outOf S k) ∧ Below w.heap.size w wi) (fun _ i _ => 8 - (intOf i).toNat)
      case atStart => exact ⟨0, by omega, rfl, OwnB.nil _ _, hsr.bel⟩
      case round =>
        obtain ⟨k, hk, rfl, hown, hbw⟩ := hrel
        by_cases hlk : k < 8
        · have hix := index_arr8 S k hsr.len hlk
          have hol := outOf_len S k
          generalize hx : S.getD k 0 = x at *
          generalize ho : outOf S k = O at *
          have HX := Lib.hid (And.intro hx (And.intro ho hol))
          clear hx ho hol
          go_wp2_with (at_builtin; go_must (refine wp_append_bytes rfl (.tmp 25) (.tmp 37) rfl w.heap.size u5 O wr [x / 16777216 % 256, x / 65536 % 256, x / 256 % 256, x % 256] rfl hown rfl hbw.size (by have := HX.out.2.2; simp; omega) ?_); intro v' w5 hown' hbw')
          go_roundw
          case rel =>
            refine ⟨k + 1, by omega, by go_num, ?_, hbw.trans hbw'⟩
            rw [outOf, HX.out.1, HX.out.2.1]
            exact hown'
          case measure => simp [intOf]; omega
        · have hcv := conv_own _ _ _ _ hown
          go_wp2_with fail
          go_ret
          refine ⟨?_, hbw⟩
          have e : strOfNums (outOf S k) = ⟨(sha s.data.toList).toArray⟩ := by
            obtain ⟨n, hn, he⟩ := hsr.now
            obtain rfl : k = 8 := by omega
            rw [sha, ← HP.out, he]
            rfl
          exact congrArg (fun b => Ending.returned (.string b)) e
    · have hne : (r.isEmpty) = false := by simpa using hr
      have hr64 : 64 ≤ r.length := by have := hsr.m64; have : 0 < r.length := List.length_pos_iff.2 hr; omega
      have hri : (64 : Int) ≤ (r.length : Int) := by omega
      go_wp2_with fail
      refine region_st 4 (by kernel_rfl) (by kernel_rfl) ?_
      simp only [List.take_succ_cons, List.take_zero, List.drop_succ_cons, List.drop_zero]
      refine still_load_row rfl 56 _ rfl w3.heap.size rfl 56 _ (0, 0) _ hsr.s Try.underlying56 rfl (by rw [List.size_toArray, List.length_map, hsr.len]; kernel_rfl) ?_
      go_frame
      repeat still_step
      refine still_load_row rfl 58 _ rfl (w3.heap.size + 1) rfl 58 _ (0, 0) _ hsr.k Try.underlying58 rfl (by kernel_rfl) ?_
      go_frame
      refine wpStill_nil ?_
      rw [extract_head r]
      go_wp2_with fail
      refine (step_call S hsr.len ⟨(r.take 64).toArray⟩ (by simp [ByteArray.size]; omega) _).mono ?_
      rintro e w4 ⟨rfl, hb4⟩
      have hb5 : Below wr.heap.size wr w4 := ⟨hb4.os, hb4.tape, hb4.output, hb4.size, hb4.block⟩
      have hs4 : w4.heap[w3.heap.size]? = some (.cells ⟨S.map (Value.int .u32)⟩ 56 (0, 0)) := by rw [hb5.block _ (by have := hsr.size; omega)]; exact hsr.s
      have hk4 : w4.heap[w3.heap.size + 1]? = some (.cells KA 58 (0, 0)) := by rw [hb5.block _ (by have := hsr.size; omega)]; exact hsr.k
      have H4 := Lib.hid (And.intro hs4 hk4)
      clear hs4 hk4 hb4
      go_wp2_with (refine wpList_store_row rfl 56 _ _ rfl w3.heap.size _ rfl rfl 56 _ H4.out.1 (by rw [List.size_toArray, List.length_map, stepOf_len _ _ _ hsr.len]; kernel_rfl) (by simp [stepOf_len _ _ _ hsr.len, hsr.len]) (by simp [Value.oneCell']) ?_)
      refine ⟨⟨r.drop 64, stepOf S (r.take 64) K64, hsr.next hr64 hb5 H4.out.1 H4.out.2, congrArg Value.string (extract_tail r _ rfl)⟩, ?_⟩
      rw [extract_tail r _ rfl]
      simp [strLen, ByteArray.size]
      omega
end Go.Proofs.Ytlgpdmejnabinaa
