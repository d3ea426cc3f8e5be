/- Contract of the reference's Sum: the same digest. -/
import Derived.Test.YtlgpdmejnabinaaOwnX
import Derived.Test.YtlgpdmejnabinaaSumA
namespace Go.Proofs.Ytlgpdmejnabinaa
open Go.RowKit

theorem block_call (S : List Int) (hl : S.length = 8) (s : ByteArray) (hs : s.size = 64) (w : World) :
    Calls Try.prog 43 #[.agg ⟨S.map (Value.int .u32)⟩, .string s] w fun e w' => e = .returned (.agg ⟨(stepOf S s.data.toList K64).map (Value.int .u32)⟩) ∧ Below w.heap.size w w' := by
  obtain ⟨a, b, c, d, e, f, g, i, rfl⟩ := list8 S hl
  exact block_any a b c d e f g i _ s w rfl hs
theorem lenByte_toNat (n c : Nat) (N : Int) (h : (n : Int) * 8 = N) : ((lenByte n c).toNat : Int) = N / 2 ^ c % 256 := by
  rw [← lenByte_of n c N h]
  have h1 : 0 ≤ N / 2 ^ c % 256 := by omega
  have h2 : N / 2 ^ c % 256 < 256 := by omega
  generalize N / 2 ^ c % 256 = x at *
  have : (UInt8.ofNat x.toNat).toNat = x.toNat := by rw [UInt8.toNat_ofNat']; omega
  rw [this]; omega
theorem zeroL_snoc (k : Nat) : zeroL k ++ [0] = zeroL (k + 1) := by
  unfold zeroL
  rw [List.replicate_succ']
def sliceLeft (m : Nat) : Value → Nat | .slice _ n _ => m - n | _ => 0
structure RR (w w5 : World) (g cap : Nat) (P : List UInt8) (i : Nat) (S : List Int) (wr : World) : Prop where
  bel : Below w.heap.size w wr
  low : w.heap.size ≤ w5.heap.size
  sz : w5.heap.size < wr.heap.size
  s : wr.heap[w5.heap.size]? = some (.cells ⟨S.map (Value.int .u32)⟩ 56 (0, 0))
  x : OwnXAt w.heap.size wr g cap (toNums P)
  ne : g < w5.heap.size
  len : S.length = 8
  i64 : i % 64 = 0
  ile : i ≤ P.length
  now : runBlocks H8 (P.length / 64) P = runBlocks S ((P.length - i) / 64) (P.drop i)
theorem row_of_load {w : World} {g : Nat} {t : TypeId} {n : Nat} {l : List Int} (h : w.heap[g]? = some (.cells ⟨l.map (Value.int .u32)⟩ t (0, 0))) (hl : l.length = n) : w.rowIs g t n (W32 l) :=
  ⟨_, h, by simp [hl], fun i hi => by simp [W32, hl, hi]⟩
theorem RR.start {w w5 : World} {g cap : Nat} {P : List UInt8} (hb : Below w.heap.size w w5) (hx : OwnXAt w.heap.size w5 g cap (toNums P)) (_hP : P.length % 64 = 0) (c8 : Array Value) (h8 : c8 = ⟨H8.map (Value.int .u32)⟩) :
    RR w w5 g cap P 0 H8 (w5.alloc (.cells c8 56)) := by
  subst h8
  refine ⟨hb.alloc hb.size _, hb.size, by simp, heap_alloc_new _ _, hx.below ((Below.refl _ _).alloc (Nat.le_refl _) _), hx.lt, rfl, rfl, by omega, rfl⟩
theorem RR.next {w w5 wr w6 : World} {g cap : Nat} {P : List UInt8} {i : Nat} {S : List Int} (h : RR w w5 g cap P i S wr) (h64 : i + 64 ≤ P.length) (hb : Below wr.heap.size wr w6) :
    RR w w5 g cap P (i + 64) (stepOf S ((P.drop i).take 64) K64) (w6.setRow w5.heap.size ⟨(stepOf S ((P.drop i).take 64) K64).map (Value.int .u32)⟩) := by
  have h1 : w6.heap[w5.heap.size]? = some (.cells ⟨S.map (Value.int .u32)⟩ 56 (0, 0)) := by rw [hb.block _ h.sz]; exact h.s
  have hx := h.x.below hb
  have hne := h.ne
  have kept : ∀ k, k ≠ w5.heap.size → (w6.setRow w5.heap.size ⟨(stepOf S ((P.drop i).take 64) K64).map (Value.int .u32)⟩).heap[k]? = w6.heap[k]? := fun k hk => setRow_other _ _ _ _ hk
  refine ⟨?_, h.low, ?_, setRow_heap _ _ _ _ _ _ h1, ?_, hne, stepOf_len _ _ _ h.len, ?_, h64, ?_⟩
  · have hb' : Below w.heap.size w w6 := h.bel.trans (hb.mono h.bel.size)
    exact hb'.trans ⟨rfl, rfl, rfl, by simp, fun k hk => kept k (by have := h.low; omega)⟩
  · have := h.sz; have := hb.size; simp; omega
  · refine ⟨hx.lo, by have := hx.lt; simpa using this, hx.le, hx.max, fun j hj => ?_, fun j hj => ?_⟩
    · rw [World.cell?_of_block (kept g (by omega)), World.frozen?_of_block (kept g (by omega))]; exact hx.free j hj
    · rw [World.cell?_of_block (kept g (by omega))]; exact hx.cells j hj
  · have := h.i64; omega
  · rw [h.now, show (P.length - i) / 64 = (P.length - (i + 64)) / 64 + 1 by omega, runBlocks, List.drop_drop]
def X128 : UInt8 := 128
set_option maxHeartbeats 2000000 in
set_option maxRecDepth 100000 in
theorem refSum_any (s : ByteArray) (w : World) (hs : s.size ≤ 140737488000000) :
    Calls Try.prog 19 #[.string s] w fun e w' => e = .returned (.string ⟨(sha s.data.toList).toArray⟩) ∧ Below w.heap.size w w' := by
  have hcv := Lib.run_convert_string_bytes (P := Try.prog) w 9 53 5 s Try.underlying9 Try.underlying53 Try.underlying5
  have hx0 := OwnX.of_conv w s (by simp only [maxLen]; omega)
  have hb0 := Joins.below_bytesWorld w.heap.size w 5 s (Nat.le_refl _)
  generalize Lib.bytesWorld w 5 s = w0 at *
  generalize grownCap w s.size 0 5 = c0 at *
  obtain ⟨L, hL⟩ : ∃ L, L = s.data.toList := ⟨_, rfl⟩
  have hLl : L.length = s.size := by rw [hL]; rfl
  replace hx0 : OwnX w.heap.size w0 (.slice (some ⟨w.heap.size, 0, none⟩) s.size c0) (toNums L) := by rw [hL]; exact hx0
  have HL := Lib.hid hL
  have HLl := Lib.hid hLl
  clear hL hLl
  go_enter Try.func19, Try.ntmps19
  go_wp2_with (at_builtin; go_must (refine wp_append_x rfl (.tmp 16) (.tmp 17) rfl w.heap.size _ (toNums L) w0 128 rfl hx0 rfl hb0.size (by rw [toNums_len, HLl.out]; omega) ?_); intro v1 w1 hx1 hb1)
  have hbw1 : Below w.heap.size w w1 := hb0.trans hb1
  clear hx0 hb0 hb1 hcv
  go_loopw [4] (fun v wr => ∃ k : Nat, k ≤ zerosOf s.size ∧ OwnX w.heap.size wr v (toNums (L ++ (X128 :: zeroL k))) ∧ Below w.heap.size w wr) (fun v _ => sliceLeft (s.size + 1 + zerosOf s.size) v)
  case atStart => exact ⟨0, by omega, by rw [show L ++ (X128 :: zeroL 0) = L ++ [X128] from rfl, toNums_snoc]; exact hx1, hbw1⟩
  case round =>
    obtain ⟨k, hk, hx, hbw⟩ := hrel
    obtain ⟨g, cap, rfl, hat⟩ := hx
    have hlen : (toNums (L ++ (X128 :: zeroL k))).length = s.size + 1 + k := by rw [toNums_len, List.length_append, List.length_cons, zeroL_len, HLl.out]; omega
    have hz64 : zerosOf s.size < 64 := by unfold zerosOf; omega
    obtain ⟨n, hn⟩ : ∃ n, n = s.size + 1 + k := ⟨_, rfl⟩
    rw [hlen, ← hn]
    have hn63 : n ≤ 140737488100000 := by omega
    have Hlen := Lib.hid (And.intro hlen hn)
    by_cases hlt : k < zerosOf s.size
    · have hdec : ((n : Int) % 64 != 56) = true := by rw [bne_iff_ne]; unfold zerosOf at hlt; omega
      clear hlen hn
      have hown : OwnX w.heap.size wr (.slice (some ⟨g, 0, none⟩) n cap) (toNums (L ++ (X128 :: zeroL k))) := ⟨g, cap, by rw [Hlen.out.1, Hlen.out.2], hat⟩
      go_wp2_with (at_builtin; go_must (refine wp_append_x rfl (.tmp 23) (.tmp 24) rfl w.heap.size _ (toNums (L ++ (X128 :: zeroL k))) wr 0 rfl hown rfl hbw.size (by rw [Hlen.out.1]; omega) ?_); intro v1 w2 hx2 hb2)
      go_roundw
      case rel =>
        refine ⟨k + 1, by omega, ?_, hbw.trans hb2⟩
        rw [show L ++ (X128 :: zeroL (k + 1)) = (L ++ (X128 :: zeroL k)) ++ [0] from by rw [List.append_assoc, List.cons_append, zeroL_snoc], toNums_snoc]
        exact hx2
      case measure =>
        obtain ⟨g2, cap2, rfl, hat2⟩ := hx2
        have := Hlen.out
        simp only [sliceLeft, List.length_append, List.length_cons, List.length_nil]
        omega
    · have hke : k = zerosOf s.size := by omega
      have hdec : ((n : Int) % 64 != 56) = false := by simp; unfold zerosOf at hke; omega
      clear hlen hn
      replace hat : OwnXAt w.heap.size wr g cap (toNums (padHead L)) := by
        have e : padHead L = L ++ (X128 :: zeroL k) := by rw [padHead, HLl.out, hke]; rfl
        rw [e]; exact hat
      have Hlen2 := Lib.hid (show n = (toNums (padHead L)).length by rw [Hlen.out.2, toNums_len, padHead, List.length_append, List.length_cons, zeroL_len, HLl.out, hke]; omega)
      have HK := Lib.hid hke
      clear hke
      go_wp2_with fail
      go_loopw [4, 5] (fun v i wi => ∃ j : Nat, j ≤ 8 ∧ i = .int .i64 (7 - (j : Int)) ∧ OwnX w.heap.size wi v (toNums (padHead L ++ lenBytes s.size j)) ∧ Below w.heap.size w wi) (fun _ i _ => (8 + intOf i).toNat)
      case atStart => exact ⟨0, by omega, rfl, ⟨g, cap, by rw [Hlen2.out, show padHead L ++ lenBytes s.size 0 = padHead L from by simp [lenBytes]], by rw [show padHead L ++ lenBytes s.size 0 = padHead L from by simp [lenBytes]]; exact hat⟩, hbw⟩
      case round =>
        obtain ⟨j, hj, rfl, hx2, hb2⟩ := hrel
        obtain ⟨P, hP⟩ : ∃ P, P = padHead L ++ lenBytes s.size j := ⟨_, rfl⟩
        rw [← hP] at hx2
        have hPl : P.length = n + j := by rw [hP, List.length_append, lenBytes_len]; have := Hlen2.out; rw [toNums_len] at this; omega
        by_cases hlj : j < 8
        · obtain ⟨c, hc⟩ : ∃ c : Nat, 7 - (j : Int) = (c : Int) := ⟨7 - j, by omega⟩
          obtain ⟨m, hm⟩ : ∃ m : Nat, m = 8 * c := ⟨_, rfl⟩
          have hw1 : 8 * (c : Int) = (m : Int) := by omega
          have hm64 : (m : Int) ≤ 64 := by omega
          have hN0 : 0 ≤ (s.size : Int) * 8 := by omega
          have hlb := lenByte_toNat s.size m ((s.size : Int) * 8) rfl
          rw [hc]
          have HC := Lib.hid (And.intro hc (And.intro hm (And.intro hP hPl)))
          obtain ⟨N, hN⟩ : ∃ N : Int, N = (s.size : Int) * 8 := ⟨_, rfl⟩
          rw [← hN] at hlb hN0 ⊢
          have HN := Lib.hid hlb
          clear hc hm hP hPl hlb hN
          go_wp2_with (at_builtin; go_must (refine wp_append_x rfl (.tmp 30) (.tmp 36) rfl w.heap.size _ (toNums P) _ _ rfl hx2 rfl hb2.size (by rw [toNums_len, HC.out.2.2.2]; omega) ?_); intro v1 w2 hx3 hb3)
          go_roundw
          case rel =>
            have := HC.out.1
            refine ⟨j + 1, by omega, congrArg (Value.int .i64) (by omega), ?_, hb2.trans hb3⟩
            rw [lenBytes, ← List.append_assoc, ← HC.out.2.2.1, show 56 - 8 * j = m from by have := HC.out.2.1; omega, toNums_snoc, HN.out]
            exact hx3
          case measure => have := HC.out.1; simp [intOf]; omega
        · have e8 : j = 8 := by omega
          have hP2 : P = padOf L := by rw [hP, e8, padOf, HLl.out]
          obtain ⟨g3, cap3, rfl, hat3⟩ := hx2
          have hPm := padOf_len L
          rw [← hP2] at hPm
          have HP := Lib.hid (And.intro hP2 (And.intro hPm hPl))
          have hPbig : P.length ≤ 140737488200000 := by omega
          rw [toNums_len]
          have hdj : decide ((j : Int) ≤ 7) = false := by simp; omega
          clear hP hPl hP2 hPm e8
          go_wp2_with fail
          refine (starts_any _).mono ?_
          rintro e w5 ⟨rfl, hb5⟩
          have hat5 := hat3.below hb5
          have hbw5 : Below w.heap.size w w5 := hb2.trans (hb5.mono hb2.size)
          go_wp2_with fail
          have hst := RR.start hbw5 hat5 HP.out.2.1 _ rfl
          clear hat3 hat5 hb5 hbw5 hat hb2 hbw hx1 hbw1
          go_loopw [7] (fun i wi => ∃ (k : Nat) (S : List Int), i = .int .i64 (k : Int) ∧ RR w w5 g3 cap3 P k S wi) (fun i _ => P.length - (intOf i).toNat)
          case atStart => exact ⟨0, H8, rfl, hst⟩
          case round =>
            obtain ⟨k, S, rfl, hr⟩ := hrel
            have hkle := hr.ile
            by_cases hlk : k < P.length
            · have hd : decide ((k : Int) < (P.length : Int)) = true := by simp; omega
              have hk64 : k + 64 ≤ P.length := by have := hr.i64; have := HP.out.2.1; omega
              have hcap : P.length ≤ cap3 := by have := hr.x.le; rw [toNums_len] at this; exact this
              have hmx := hr.x.max
              obtain ⟨m, hm⟩ : ∃ m : Nat, m = k + 64 := ⟨_, rfl⟩
              have hw1 : IntKind.i64.wrap ((k : Int) + 64) = (m : Int) := by rw [IntWalk.i64_in _ (by omega)]; omega
              have b1 : (k : Int) ≤ (m : Int) := by omega
              have b2 : (m : Int) ≤ (cap3 : Int) := by omega
              have hcv := conv_part w.heap.size wr.drew g3 cap3 P ⟨hr.x.lo, hr.x.lt, hr.x.le, hr.x.max, hr.x.free, hr.x.cells⟩ k (cap3 - k) hk64
              have hne : cap3 ≠ k := by omega
              have hmk : m - k = 64 := by omega
              have HM := Lib.hid hm
              clear hm
              go_wp2_with fail
              refine region_st 7 (by kernel_rfl) (by kernel_rfl) ?_
              simp only [List.take_succ_cons, List.take_zero, List.drop_succ_cons, List.drop_zero]
              refine still_load_row rfl 56 _ rfl w5.heap.size rfl 56 _ (0, 0) _ hr.s Try.underlying56 rfl (by rw [List.size_toArray, List.length_map, hr.len]; kernel_rfl) ?_
              go_frame
              repeat still_step
              refine wpStill_nil ?_
              clear hcv hw1 hmk hne b1 b2
              go_wp2_with fail
              refine (block_call S hr.len ⟨((P.drop k).take 64).toArray⟩ (by simp [ByteArray.size]; omega) _).mono ?_
              rintro e w6 ⟨rfl, hb6⟩
              have hb7 : Below wr.heap.size wr w6 := ⟨hb6.os, hb6.tape, hb6.output, hb6.size, hb6.block⟩
              have hs6 : w6.heap[w5.heap.size]? = some (.cells ⟨S.map (Value.int .u32)⟩ 56 (0, 0)) := by rw [hb7.block _ hr.sz]; exact hr.s
              have H6 := Lib.hid hs6
              clear hs6 hb6
              go_wp2_with (refine wpList_store_row rfl 56 _ _ rfl w5.heap.size _ rfl rfl 56 _ H6.out (by rw [List.size_toArray, List.length_map, stepOf_len _ _ _ hr.len]; kernel_rfl) (by simp [stepOf_len _ _ _ hr.len, hr.len]) (by simp [Value.oneCell']) ?_)
              refine ⟨⟨k + 64, _, by go_num, hr.next hk64 hb7⟩, ?_⟩
              simp [intOf]
              omega
            · have hd : decide ((k : Int) < (P.length : Int)) = false := by simp; omega
              have hSf : runBlocks H8 (P.length / 64) P = S := by
                rw [hr.now, show (P.length - k) / 64 = 0 by omega, runBlocks]
              have HS := Lib.hid hSf
              clear hSf
              go_wp2_with fail
              go_loopw [8, 9] (fun v i wi => ∃ q : Nat, q ≤ 8 ∧ i = .int .i64 (q : Int) ∧ OwnB (w5.heap.size + 1) wi v (outOf S q) ∧ Below w.heap.size w wi ∧ w5.heap.size + 1 ≤ wi.heap.size ∧ wi.rowIs w5.heap.size 56 8 (W32 S)) (fun _ i _ => 8 - (intOf i).toNat)
              case atStart => exact ⟨0, by omega, rfl, OwnB.nil _ _, hr.bel, hr.sz, row_of_load hr.s hr.len⟩
              case round =>
                obtain ⟨q, hq, rfl, hown, hbq, hszq, hrow⟩ := hrel
                by_cases hlq : q < 8
                · have hdq : decide ((q : Int) < 8) = true := by simp; omega
                  have hb8 : (q : Int) < 8 := by omega
                  have hcell : wr.cell? ⟨w5.heap.size, q, none⟩ = some (.int .u32 (S.getD q 0)) := hrow.cell hlq
                  have hol := outOf_len S q
                  generalize hx : S.getD q 0 = x at *
                  generalize ho : outOf S q = O at *
                  have HX := Lib.hid (And.intro hx (And.intro ho hol))
                  clear hx ho hol
                  go_wp2_with fail
                  go_region_law (refine step_append_bytes rfl (.tmp 57) (.tmp 77) rfl (w5.heap.size + 1) _ O wr.drew [x / 16777216 % 256, x / 65536 % 256, x / 256 % 256, x % 256] rfl hown rfl hszq (by have := HX.out.2.2; simp; omega) ?_; intro v' w7 hown' hbw')
                  all_goals go_wp2_with fail
                  all_goals
                    refine ⟨⟨q + 1, by omega, by go_num, ?_, hbq.drew.trans (hbw'.mono (by have := hr.low; omega)), Nat.le_trans hszq hbw'.size, ?_⟩, by simp [intOf]; omega⟩
                    · rw [outOf, HX.out.1, HX.out.2.1]
                      exact hown'
                    · exact hrow.of_block (hbw'.block _ (by omega))
                · have hcv := conv_own _ _ _ _ hown
                  go_wp2_with fail
                  go_ret
                  refine ⟨?_, hbq⟩
                  have e : strOfNums (outOf S q) = ⟨(sha s.data.toList).toArray⟩ := by
                    obtain rfl : q = 8 := by omega
                    rw [sha, ← HL.out, ← HP.out.1, HS.out]
                    rfl
                  exact congrArg (fun b => Ending.returned (.string b)) e
end Go.Proofs.Ytlgpdmejnabinaa
