/- Contracts of the reference's digits and Print. -/
import Derived.Test.YtjkpfjnhgbcnkaaDoorParse
namespace Go.Proofs.YtjkpfjnhgbcnkaaDoor
open Go.RowKit

def quo : Nat → Nat → Nat
  | n, 0 => n
  | n, k + 1 => quo n k / 10
def digs : Nat → Nat → List UInt8
  | _, 0 => []
  | n, k + 1 => dg (quo n k % 10) :: digs n k
theorem quo_le (n k : Nat) : quo n k ≤ n := by
  induction k with
  | zero => exact Nat.le_refl _
  | succ k ih => rw [quo]; omega
theorem digs_len (n k : Nat) : (digs n k).length = k := by
  induction k with
  | zero => rfl
  | succ k ih => simp [digs, ih]
theorem digs4 (n : Nat) (h : n < 10000) : digs n 4 = dig4 n := by
  simp only [digs, quo, dig4]
  rw [show n / 10 / 10 / 10 % 10 = n / 1000 by omega, show n / 10 / 10 % 10 = n / 100 % 10 by omega]
theorem digs2 (n : Nat) (h : n < 100) : digs n 2 = dig2 n := by
  simp only [digs, quo, dig2]
  rw [show n / 10 % 10 = n / 10 by omega]
theorem conv1 (w : World) (z : Int) : (convert 55 9 (.slice (some ⟨w.heap.size, 0, none⟩) 1 1)).run Tryd.prog (w.alloc (.cells #[.int .u8 z] 5)) = .ok (.string ⟨#[UInt8.ofNat z.toNat]⟩) (w.alloc (.cells #[.int .u8 z] 5)) := by
  have := run_convert_bytes_arg (P := Tryd.prog) (w.alloc (.cells #[.int .u8 z] 5)) 55 5 Tryd.underlying55 Tryd.underlying5 w.heap.size 0 1 1 [z] rfl (fun i hi => by
    obtain rfl : i = 0 := by omega
    rw [cell_of_row _ _ _ _ _ _ (heap_alloc_new w _)]; rfl) 9 Tryd.underlying9
  exact this
set_option maxHeartbeats 1000000 in
theorem digits_any (n : Nat) (c : Nat) (w : World) (hn : n ≤ 100000) (hc : c ≤ 10) : Calls Tryd.prog 41 #[.int .i64 (n : Int), .int .i64 (c : Int)] w fun e w' => e = .returned (.string ⟨(digs n c).toArray⟩) ∧ Below w.heap.size w w' := by
  go_enter Tryd.func41, Tryd.ntmps41
  go_wp2_with fail
  go_loopw [0, 5, 6] (fun v s i wr => ∃ k : Nat, k ≤ c ∧ i = .int .i64 (k : Int) ∧ v = .int .i64 (quo n k : Int) ∧ s = .string ⟨(digs n k).toArray⟩ ∧ Below w.heap.size w wr) (fun _ _ i _ => c - (intOf i).toNat)
  case atStart => exact ⟨0, by omega, rfl, rfl, rfl, Below.refl _ _⟩
  case round =>
    obtain ⟨k, hk, rfl, rfl, rfl, hb⟩ := hrel
    have hq := quo_le n k
    have HL := digs_len n k
    by_cases hlt : k < c
    · have HQ := Lib.hid (show quo n (k + 1) = quo n k / 10 from rfl)
      have HD := Lib.hid (show digs n (k + 1) = dg (quo n k % 10) :: digs n k from rfl)
      generalize quo n k = q at *
      generalize digs n k = L at *
      have hLl : L.length ≤ 10 := by omega
      clear HL
      have hcv := conv1 wr
      go_wp2_with fail
      go_roundw
      case rel =>
        refine ⟨k + 1, by omega, by go_num, by rw [HQ.out]; go_num, ?_, hb.alloc (by have := hb.size; omega) _⟩
        rw [HD.out]
        exact congrArg Value.string (by apply ByteArray.ext; simp [dg])
      case measure => simp [intOf]; omega
    · have he := Lib.hid (show k = c by omega)
      clear HL
      go_wp2_with fail
      go_ret
      exact ⟨by rw [← he.out]; rfl, hb⟩
theorem digits4 (y : Int) (w : World) (h0 : 0 ≤ y) (h1 : y < 10000) : Calls Tryd.prog 41 #[.int .i64 y, .int .i64 4] w fun e w' => e = .returned (.string ⟨(dig4 y.toNat).toArray⟩) ∧ Below w.heap.size w w' := by
  have := digits_any y.toNat 4 w (by omega) (by omega)
  rw [Int.toNat_of_nonneg h0, digs4 _ (by omega)] at this
  exact this
theorem digits2 (y : Int) (w : World) (h0 : 0 ≤ y) (h1 : y < 100) : Calls Tryd.prog 41 #[.int .i64 y, .int .i64 2] w fun e w' => e = .returned (.string ⟨(dig2 y.toNat).toArray⟩) ∧ Below w.heap.size w w' := by
  have := digits_any y.toNat 2 w (by omega) (by omega)
  rw [Int.toNat_of_nonneg h0, digs2 _ (by omega)] at this
  exact this
theorem rPrint_any (d : Int) (w : World) : Calls Tryd.prog 29 #[.int .i64 d] w (RetS (prS d) (dayE d) w) := by
  cases hd : okDay d
  · have HN := Lib.hid (show prS d = [] ∧ dayE d = 13 by simp [prS, dayE, hd])
    go_enter Tryd.func29, Tryd.ntmps29
    go_wp2_with (go_at_call 23; refine (rParts_no _ _ (by assumption)).mono ?_; rintro e w' ⟨rfl, hb⟩)
    go_ret2
    exact ⟨by rw [HN.out.1, HN.out.2]; rfl, hb⟩
  · obtain ⟨d0, d1⟩ := (okDay_iff d).1 hd
    have hv := (date_valid d d0 d1).1
    have y0 := hv.y0; have y1 := hv.y1; have m0 := hv.m0; have m1 := hv.m1; have q0 := hv.d0; have q1 := hv.d1
    have hl := len_lo (yOf d) (mOf d)
    have HN := Lib.hid (show prS d = textL (yOf d) (mOf d) (dOf d) ∧ dayE d = 0 by simp [prS, dayE, hd])
    have hT := Lib.hid (show textL (yOf d) (mOf d) (dOf d) = dig4 (yOf d).toNat ++ [45] ++ dig2 (mOf d).toNat ++ [45] ++ dig2 (dOf d).toNat from rfl)
    have x1 := fun w => digits4 (yOf d) w (by omega) (by omega)
    have x2 := fun w => digits2 (mOf d) w (by omega) (by omega)
    have x3 := fun w => digits2 (dOf d) w (by omega) (by omega)
    have l1 : (dig4 (yOf d).toNat).length ≤ 4 := Nat.le_refl _
    have l2 : (dig2 (mOf d).toNat).length ≤ 2 := Nat.le_refl _
    have l3 : (dig2 (dOf d).toNat).length ≤ 2 := Nat.le_refl _
    generalize dig4 (yOf d).toNat = A at *
    generalize dig2 (mOf d).toNat = B at *
    generalize dig2 (dOf d).toNat = C at *
    have X := Lib.hid (And.intro x1 (And.intro x2 x3))
    clear hv x1 x2 x3
    go_enter Tryd.func29, Tryd.ntmps29
    go_wp2_with fail
    refine (rParts_yes _ _ hd).mono ?_
    rintro e w1 ⟨rfl, hb1⟩
    go_wp2_with fail
    refine (X.out.1 _).mono ?_
    rintro e w2 ⟨rfl, hb2⟩
    have b2 := hb1.trans (hb2.mono hb1.size)
    go_wp2_with fail
    refine (X.out.2.1 _).mono ?_
    rintro e w3 ⟨rfl, hb3⟩
    have b3 := b2.trans (hb3.mono b2.size)
    go_wp2_with fail
    refine (X.out.2.2 _).mono ?_
    rintro e w4 ⟨rfl, hb4⟩
    go_wp2_with fail
    go_ret2
    refine ⟨?_, b3.trans (hb4.mono b3.size)⟩
    rw [HN.out.1, HN.out.2, hT.out]
    simp
    apply ByteArray.ext
    simp
end Go.Proofs.YtjkpfjnhgbcnkaaDoor
