/- Contract of digest.Hex. -/
import Derived.Test.YtlgpdmejnabinaaSumA
namespace Go.Proofs.Ytlgpdmejnabinaa
open Go.RowKit

def digitOf (p : Nat) : Int := if p < 10 then 48 + (p : Int) else 87 + (p : Int)
set_option maxRecDepth 10000 in
theorem index_digit (p : Nat) (h : p < 16) (w : World) : (Instr.index 9 (.string ⟨#[48, 49, 50, 51, 52, 53, 54, 55, 56, 57, 97, 98, 99, 100, 101, 102]⟩) (.int .u8 (p : Int))).run Try.prog w = .ok (.int .u8 (digitOf p)) w := by
  iterate 16 (rcases p with _ | p; · rfl)
  omega
def hexOf (s : List UInt8) : Nat → List Int
  | 0 => []
  | k + 1 => hexOf s k ++ [digitOf ((s.getD k 0).toNat / 16), digitOf ((s.getD k 0).toNat % 16)]
theorem hexOf_len (s : List UInt8) (k : Nat) : (hexOf s k).length = 2 * k := by
  induction k with
  | zero => rfl
  | succ n ih => simp [hexOf, ih]; omega
def hexL (s : List UInt8) : List UInt8 := (hexOf s s.length).map fun n => UInt8.ofNat n.toNat
theorem byteArray_getD (s : ByteArray) (k : Nat) (h : k < s.size) : s.data.toList.getD k 0 = s[k] := by
  rw [List.getD_eq_getElem?_getD, List.getElem?_eq_getElem (by simpa using h)]; rfl

set_option maxHeartbeats 2000000 in
set_option maxRecDepth 100000 in
theorem hex_any (s : ByteArray) (w : World) (hs : s.size ≤ 1000000) :
    Calls Try.prog 13 #[.string s] w fun e w' => e = .returned (.string ⟨(hexL s.data.toList).toArray⟩) ∧ Below w.heap.size w w' := by
  go_enter Try.func13, Try.ntmps13
  go_wp2_with fail
  go_loopw [3, 7] (fun v i wr => ∃ (k : Nat), k ≤ s.size ∧ i = .int .i64 (k : Int) ∧ OwnB w.heap.size wr v (hexOf s.data.toList k) ∧ Below w.heap.size w wr) (fun _ i _ => s.size - (intOf i).toNat)
  case atStart => exact ⟨0, by omega, rfl, OwnB.nil _ _, Below.refl _ _⟩
  case round =>
    obtain ⟨k, hk, rfl, hown, hbw⟩ := hrel
    by_cases hlk : k < s.size
    · have hd : decide ((k : Int) < (s.size : Int)) = true := by simp; omega
      have hki : (k : Int) < (s.size : Int) := by omega
      obtain ⟨p, hp⟩ : ∃ p : Nat, p = s[k].toNat / 16 := ⟨_, rfl⟩
      obtain ⟨q, hq⟩ : ∃ q : Nat, q = s[k].toNat % 16 := ⟨_, rfl⟩
      have hb := s[k].toNat_lt
      have hp1 : (s[k].toNat : Int) / 16 = (p : Int) := by omega
      have hq1 : bits .and .u8 (s[k].toNat : Int) 15 = (q : Int) := by
        rw [show (15 : Int) = ((15 : Nat) : Int) from rfl, u8_and_nat _ _ (by omega) (by omega), nat_mask4, hq]
      have ip := index_digit p (by omega)
      have iq := index_digit q (by omega)
      have hol := hexOf_len s.data.toList k
      generalize ho : hexOf s.data.toList k = O at *
      have HX := Lib.hid (And.intro ho (And.intro hol (And.intro hp hq)))
      clear ho hol hp hq hb
      go_wp2_with fail
      go_region_law (refine step_append_bytes rfl (.tmp 10) (.tmp 21) rfl w.heap.size u3 O wr.drew [digitOf p, digitOf q] rfl hown rfl hbw.size (by have := HX.out.2.1; simp; omega) ?_; intro v' w5 hown' hbw')
      all_goals go_wp2_with fail
      all_goals
        refine ⟨⟨k + 1, by omega, by go_num, ?_, hbw.drew.trans hbw'⟩, by simp [intOf]; omega⟩
        rw [hexOf, HX.out.1, byteArray_getD s k hlk, ← HX.out.2.2.1, ← HX.out.2.2.2]
        exact hown'
    · have hcv := conv_own _ _ _ _ hown
      go_wp2_with fail
      go_ret
      refine ⟨?_, hbw⟩
      have e : strOfNums (hexOf s.data.toList k) = ⟨(hexL s.data.toList).toArray⟩ := by
        obtain rfl : k = s.size := by omega
        rfl
      exact congrArg (fun b => Ending.returned (.string b)) e
end Go.Proofs.Ytlgpdmejnabinaa
