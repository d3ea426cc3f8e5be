/- Contract of digest.padded. -/
import Derived.Test.YtlgpdmejnabinaaSum
import Derived.Test.YtlgpdmejnabinaaShelf
namespace Go.Proofs.Ytlgpdmejnabinaa
open Go.RowKit

def zerosOf (n : Nat) : Nat := (119 - n % 64) % 64
/-- the i-th last byte of the length in bits -/
def lenByte (n i : Nat) : UInt8 := UInt8.ofNat (n * 8 / 2 ^ i)
def lenBytes (n : Nat) : Nat → List UInt8
  | 0 => []
  | j + 1 => lenBytes n j ++ [lenByte n (56 - 8 * j)]
def zeroL (r : Nat) : List UInt8 := List.replicate r 0
theorem zeroL_len (r : Nat) : (zeroL r).length = r := by simp [zeroL]
theorem repeat_zero (r : Nat) : Lib.repeatL [0] r = zeroL r := by
  induction r with
  | zero => rfl
  | succ n ih => rw [Lib.repeatL, ih]; rfl
theorem zeros_any (r : Nat) (w : World) (h : r ≤ 64) : Calls Try.prog 54 #[.string ⟨#[0]⟩, .int .i64 r] w fun e w' => e = .returned (.string ⟨(zeroL r).toArray⟩) ∧ Below w.heap.size w w' := by
  have := Try.strings_Repeat ⟨#[0]⟩ r w (by omega) (by show 1 * r ≤ _; omega)
  rw [show (⟨#[0]⟩ : ByteArray).data.toList = [0] from rfl, repeat_zero] at this
  exact this
theorem lenBytes_len (n j : Nat) : (lenBytes n j).length = j := by
  induction j with
  | zero => rfl
  | succ n ih => simp [lenBytes, ih]
theorem conv1 (w : World) (z : Int) : (convert 53 9 (.slice (some ⟨w.heap.size, 0, none⟩) 1 1)).run Try.prog (w.alloc (.cells #[.int .u8 z] 5)) = .ok (.string ⟨#[UInt8.ofNat z.toNat]⟩) (w.alloc (.cells #[.int .u8 z] 5)) := by
  have := run_convert_bytes_arg (P := Try.prog) (w.alloc (.cells #[.int .u8 z] 5)) 53 5 Try.underlying53 Try.underlying5 w.heap.size 0 1 1 [z] rfl (fun i hi => by
    obtain rfl : i = 0 := by omega
    rw [cell_of_row _ _ _ _ _ _ (heap_alloc_new w _)]; rfl) 9 Try.underlying9
  exact this
theorem lenByte_of (n c : Nat) (N : Int) (h : (n : Int) * 8 = N) : UInt8.ofNat (N / 2 ^ c % 256).toNat = lenByte n c := by
  subst h
  have e : ((n : Int) * 8 / 2 ^ c % 256).toNat = n * 8 / 2 ^ c % 256 := by
    have : ((n : Int) * 8 / 2 ^ c % 256) = ((n * 8 / 2 ^ c % 256 : Nat) : Int) := by rw [Int.natCast_emod, Int.natCast_ediv, Int.natCast_mul, Int.natCast_pow]; rfl
    rw [this]; rfl
  rw [e, lenByte]
  apply UInt8.toNat_inj.1
  simp
def padHead (s : List UInt8) : List UInt8 := s ++ (128 :: zeroL (zerosOf s.length))
def padOf (s : List UInt8) : List UInt8 := padHead s ++ lenBytes s.length 8

set_option maxHeartbeats 1000000 in
set_option maxRecDepth 100000 in
theorem padded_any (s : ByteArray) (w : World) (hs : s.size ≤ 140737488351232) :
    Calls Try.prog 37 #[.string s] w fun e w' => e = .returned (.string ⟨(padOf s.data.toList).toArray⟩) ∧ Below w.heap.size w w' := by
  obtain ⟨r, hr⟩ : ∃ r : Nat, r = zerosOf s.size := ⟨_, rfl⟩
  have hr64 : r < 64 := by rw [hr, zerosOf]; omega
  have hw : (119 - (s.size : Int) % 64) % 64 = (r : Int) := by rw [hr, zerosOf]; omega
  have HR := Lib.hid hr
  clear hr
  go_enter Try.func37, Try.ntmps37
  go_wp2_with fail
  refine (zeros_any r w (by omega)).mono ?_
  rintro e w1 ⟨rfl, hb1⟩
  have hl : (zeroL r).length ≤ 64 := by rw [zeroL_len]; omega
  go_wp2_with fail
  go_loopw [0, 4] (fun v i wr => ∃ j : Nat, j ≤ 8 ∧ i = .int .i64 (56 - 8 * (j : Int)) ∧ v = .string ⟨(padHead s.data.toList ++ lenBytes s.size j).toArray⟩ ∧ Below w.heap.size w wr) (fun _ i _ => (64 + intOf i).toNat)
  case atStart =>
    refine ⟨0, by omega, rfl, ?_, hb1⟩
    have : padHead s.data.toList = s.data.toList ++ (128 :: zeroL r) := by rw [HR.out]; rfl
    rw [this]
    exact congrArg Value.string (by apply ByteArray.ext; simp [lenBytes])
  case round =>
    obtain ⟨j, hj, rfl, rfl, hb⟩ := hrel
    obtain ⟨P, hP⟩ : ∃ P, P = padHead s.data.toList ++ lenBytes s.size j := ⟨_, rfl⟩
    rw [← hP]
    have HP := Lib.hid hP
    clear hP
    by_cases hlt : j < 8
    · obtain ⟨c, hc⟩ : ∃ c : Nat, 56 - 8 * (j : Int) = (c : Int) := ⟨56 - 8 * j, by omega⟩
      have hc64 : (c : Int) ≤ 64 := by omega
      have hPl : P.length ≤ 140737488352000 := by rw [HP.out]; simp only [List.length_append, lenBytes_len, padHead, List.length_cons, zeroL_len]; simp [zerosOf]; omega
      rw [hc]
      have HC := Lib.hid hc
      clear hc hw
      obtain ⟨N, hN⟩ : ∃ N : Int, (s.size : Int) * 8 = N := ⟨_, rfl⟩
      have hN0 : 0 ≤ N := by omega
      rw [hN]
      have HN := Lib.hid hN
      clear hN
      have hcv := conv1 wr
      go_wp2_with fail
      go_roundw
      case rel =>
        refine ⟨j + 1, by omega, ?_, ?_, hb.alloc (by have := hb.size; omega) _⟩
        · have := HC.out
          exact congrArg (Value.int .i64) (by push_cast; omega)
        · rw [lenByte_of s.size c N HN.out]
          have e : padHead s.data.toList ++ lenBytes s.size (j + 1) = P ++ [lenByte s.size c] := by
            rw [lenBytes, ← List.append_assoc, ← HP.out, show 56 - 8 * j = c from by have := HC.out; omega]
          rw [e]
          exact congrArg Value.string (by apply ByteArray.ext; simp)
      case measure => have := HC.out; simp [intOf]; omega
    · go_wp2_with fail
      go_ret
      refine ⟨?_, hb⟩
      have e : P = padOf s.data.toList := by
        obtain rfl : j = 8 := by omega
        rw [HP.out]; rfl
      subst e
      rfl
end Go.Proofs.Ytlgpdmejnabinaa
