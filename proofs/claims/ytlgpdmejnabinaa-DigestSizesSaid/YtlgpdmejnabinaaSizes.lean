/- The walk of DigestSizes. -/
import Derived.Test.YtlgpdmejnabinaaGreat
namespace Go.Proofs.Ytlgpdmejnabinaa
open Go.RowKit

set_option maxRecDepth 100000 in
theorem value_low (c : Int) (w : World) (h1 : 48 ≤ c) (h2 : c ≤ 57) : Calls Try.prog 15 #[.int .u8 c] w fun e w' => e = .returned (.int .i64 (c - 48)) ∧ w' = w := by
  have d1 : decide (48 ≤ c) = true := by simpa using h1
  have d2 : decide (c ≤ 57) = true := by simpa using h2
  go_enter Try.func15, Try.ntmps15
  go_wp2
  go_ret
  exact ⟨rfl, rfl⟩
set_option maxRecDepth 100000 in
theorem value_high (c : Int) (w : World) (h1 : 97 ≤ c) (h2 : c ≤ 102) : Calls Try.prog 15 #[.int .u8 c] w fun e w' => e = .returned (.int .i64 (c - 97 + 10)) ∧ w' = w := by
  have d0 : decide (48 ≤ c) = true := by simp; omega
  have d01 : decide (c ≤ 57) = false := by simp; omega
  have d1 : decide (97 ≤ c) = true := by simpa using h1
  have d2 : decide (c ≤ 102) = true := by simpa using h2
  go_enter Try.func15, Try.ntmps15
  go_wp2
  go_ret
  exact ⟨rfl, rfl⟩
theorem value_digit (p : Nat) (w : World) (h : p < 16) : Calls Try.prog 15 #[.int .u8 (digitOf p)] w fun e w' => e = .returned (.int .i64 (p : Int)) ∧ w' = w := by
  unfold digitOf
  by_cases hp : p < 10
  · rw [if_pos hp]
    have := value_low (48 + (p : Int)) w (by omega) (by omega)
    rwa [show 48 + (p : Int) - 48 = (p : Int) by omega] at this
  · rw [if_neg hp]
    have := value_high (87 + (p : Int)) w (by omega) (by omega)
    rwa [show 87 + (p : Int) - 97 + 10 = (p : Int) by omega] at this
theorem digitOf_byte (p : Nat) (h : p < 16) : ((UInt8.ofNat (digitOf p).toNat).toNat : Int) = digitOf p := by
  iterate 16 (rcases p with _ | p; · rfl)
  omega
theorem hexOf_get (s : List UInt8) (n k : Nat) (h : k < n) : (hexOf s n)[2 * k]? = some (digitOf ((s.getD k 0).toNat / 16)) ∧ (hexOf s n)[2 * k + 1]? = some (digitOf ((s.getD k 0).toNat % 16)) := by
  induction n with
  | zero => omega
  | succ n ih =>
    rw [hexOf]
    by_cases e : k = n
    · subst e
      have hl := hexOf_len s k
      rw [List.getElem?_append_right (by omega), List.getElem?_append_right (by omega), hl, Nat.sub_self, show 2 * k + 1 - 2 * k = 1 by omega]
      exact ⟨rfl, rfl⟩
    · have hl := hexOf_len s n
      rw [List.getElem?_append_left (by omega), List.getElem?_append_left (by omega)]
      exact ih (by omega)
theorem hexL_len (s : List UInt8) : (hexL s).length = 2 * s.length := by simp [hexL, hexOf_len]
theorem sha_len (s : List UInt8) : (sha s).length = 32 := by simp [sha, outOf_len]
theorem index_string (l : List UInt8) (m : Nat) (z : Int) (h : (l[m]?).map (fun b => (b.toNat : Int)) = some z) (w : World) : (Instr.index 9 (.string ⟨l.toArray⟩) (.int .i64 (m : Int))).run Try.prog w = .ok (.int .u8 z) w := by
  have hm : m < l.length := by
    rcases Nat.lt_or_ge m l.length with h' | h'
    · exact h'
    · rw [List.getElem?_eq_none h'] at h; simp at h
  rw [List.getElem?_eq_getElem hm] at h
  simp only [Option.map_some, Option.some.injEq] at h
  have h1 : (m : Int) < (l.length : Int) := by omega
  go_simp
  exact h
theorem strs1 (w : World) (s : ByteArray) : Strs (w.alloc (.cells #[.string s] 9)) (some ⟨w.heap.size, 0, none⟩) 1 1 [s] :=
  ⟨rfl, Nat.le_refl _, by omega, fun _ => ⟨w.heap.size, 0, rfl, by simp, fun k hk => by
    obtain rfl : k = 0 := by omega
    rw [cell_of_row _ _ _ _ _ _ (heap_alloc_new w _)]; rfl⟩⟩
theorem below_alloc1 (w : World) (o : Obj) : Below w.heap.size w (w.alloc o) := (Below.refl _ _).alloc (Nat.le_refl _) _
set_option maxHeartbeats 2000000 in
set_option maxRecDepth 100000 in
theorem sizes_any (s : ByteArray) (w : World) (hs : s.size ≤ 9223372036854775807) : Calls Try.prog 3 #[.string s] w fun e w' => e = .returned (.bool true) ∧ Below w.heap.size w w' := by
  by_cases hbig : 200 < s.size
  · go_enter Try.func3, Try.ntmps3
    go_wp2_with fail
    refine (great_any _ 1 1 [s] _ (strs1 w s) (by simp; omega)).mono ?_
    rintro e w1 ⟨rfl, rfl⟩
    have hg : greatB [s] = true := by simp [greatB, big, hbig]
    rw [hg]
    clear hg
    go_wp2_with fail
    refine (awake_any _).mono ?_
    rintro e w1 ⟨rfl, hb1⟩
    go_wp2_with fail
    go_ret
    exact ⟨rfl, (below_alloc1 _ _).trans (hb1.mono (by simp))⟩
  · go_enter Try.func3, Try.ntmps3
    go_wp2_with fail
    refine (great_any _ 1 1 [s] _ (strs1 w s) (by simp; omega)).mono ?_
    rintro e w1 ⟨rfl, rfl⟩
    have hg : greatB [s] = false := by simp [greatB, big]; omega
    rw [hg]
    clear hg
    go_wp2_with fail
    refine (hex_any s _ (by omega)).mono ?_
    rintro e w1 ⟨rfl, hb1⟩
    obtain ⟨H, hH⟩ : ∃ H, H = hexL s.data.toList := ⟨_, rfl⟩
    have hHl : H.length = 2 * s.size := by rw [hH, hexL_len]; rfl
    rw [← hH]
    have HH := Lib.hid (And.intro hH hHl)
    have hH2 : ((H.length : Int) != 2 * (s.size : Int)) = false := by simp; omega
    clear hH hHl
    go_wp2_with fail
    refine (sum_any s _ (by omega)).mono ?_
    rintro e w2 ⟨rfl, hb2⟩
    have hlen : ((sha s.data.toList).length : Int) = 32 := by rw [sha_len]; rfl
    go_wp2_with fail
    clear hlen hH2
    have hbw : Below w.heap.size w w2 := by
      have b1 : Below w.heap.size w w1 := (below_alloc1 _ _).trans (hb1.mono (by simp))
      exact b1.trans (hb2.mono b1.size)
    clear hb1 hb2
    go_loopw [28] (fun i wr => ∃ k : Nat, k ≤ s.size ∧ i = .int .i64 (k : Int) ∧ Below w.heap.size w wr) (fun i _ => s.size - (intOf i).toNat)
    case atStart => exact ⟨0, by omega, rfl, hbw⟩
    case round =>
      obtain ⟨k, hk, rfl, hbk⟩ := hrel
      by_cases hlk : k < s.size
      · have hd : decide ((k : Int) < (s.size : Int)) = true := by simp; omega
        have hki : (k : Int) < (s.size : Int) := by omega
        obtain ⟨m, hm⟩ : ∃ m : Nat, m = 2 * k := ⟨_, rfl⟩
        obtain ⟨m', hm'⟩ : ∃ m' : Nat, m' = 2 * k + 1 := ⟨_, rfl⟩
        obtain ⟨p, hp⟩ : ∃ p : Nat, p = s[k].toNat / 16 := ⟨_, rfl⟩
        obtain ⟨q, hq⟩ : ∃ q : Nat, q = s[k].toNat % 16 := ⟨_, rfl⟩
        have hb := s[k].toNat_lt
        have hw1 : IntKind.i64.wrap (2 * (k : Int)) = (m : Int) := by rw [IntWalk.i64_in _ (by omega)]; omega
        have hw2 : IntKind.i64.wrap ((m : Int) + 1) = (m' : Int) := by rw [IntWalk.i64_in _ (by omega)]; omega
        have hg := hexOf_get s.data.toList s.data.toList.length k (by simpa using hlk)
        rw [byteArray_getD s k hlk, ← hp, ← hq, ← hm', ← hm] at hg
        have i1 := index_string H m (digitOf p) (by rw [HH.out.1, hexL, List.getElem?_map, hg.1]; exact congrArg some (digitOf_byte p (by omega)))
        have i2 := index_string H m' (digitOf q) (by rw [HH.out.1, hexL, List.getElem?_map, hg.2]; exact congrArg some (digitOf_byte q (by omega)))
        have hp16 : p < 16 := by omega
        have hq16 : q < 16 := by omega
        have dp : decide ((p : Int) < 0) = false := by simp
        have dq : decide ((q : Int) < 0) = false := by simp
        have dv : (16 * (p : Int) + (q : Int) != (s[k].toNat : Int)) = false := by simp; omega
        have hwb : wrap64 (s[k].toNat : Int) = (s[k].toNat : Int) := IntWalk.wrap64_in _ (by have := s[k].toNat_lt; omega)
        clear hg hm hm' hp hq hb
        go_wp2_with fail
        go_quiet ((go_at_call 15; exact Calls.quiet_of_same (value_digit _ _ (by assumption))))
        clear hw1 hw2
        go_wp2_with fail
        go_roundw
        case rel => exact ⟨k + 1, by omega, by go_num, ⟨hbk.os, hbk.tape, hbk.output, hbk.size, hbk.block⟩⟩
        case measure => simp [intOf]; omega
      · go_wp2_with fail
        refine (awake_any _).mono ?_
        rintro e w3 ⟨rfl, hb3⟩
        go_wp2_with fail
        go_ret
        exact ⟨rfl, hbk.trans (hb3.mono hbk.size)⟩
end Go.Proofs.Ytlgpdmejnabinaa
