/- The reference's rot, starts, roots; how its words are made. -/
import Derived.Test.YtlgpdmejnabinaaWords
namespace Go.Proofs.Ytlgpdmejnabinaa
open Go.RowKit

theorem bits_or_comm (a b : Int) : bits .or .u32 a b = bits .or .u32 b a := by
  show IntKind.u32.wrap ((BitVec.ofInt 32 a ||| BitVec.ofInt 32 b).toNat : Int) = IntKind.u32.wrap ((BitVec.ofInt 32 b ||| BitVec.ofInt 32 a).toNat : Int)
  rw [BitVec.or_comm]
set_option maxHeartbeats 400000 in
theorem rrot_core (x : Int) (n m : Nat) (w : World) (hn : n ≤ 32) (hm : m ≤ 32) (hs : IntKind.i64.wrap (32 - (n : Int)) = (m : Int)) :
    Calls Try.prog 56 #[.int .u32 x, .int .i64 (n : Int)] w fun e w' => e = .returned (.int .u32 (bits .or .u32 (x / 2 ^ n) (IntKind.u32.wrap (x * 2 ^ m)))) ∧ ∃ k, w' = w.drewN k := by
  have hb1 : (m : Int) ≤ 32 := by omega
  have hb2 : (n : Int) ≤ 32 := by omega
  go_enter Try.func56, Try.ntmps56
  go_wp2_with fail
  go_quiet (fail)
  go_wp2_with fail
  go_ret
  exact ⟨rfl, _, rfl⟩
theorem rrot_any (x : Int) (n : Int) (w : World) (h1 : 1 ≤ n) (h2 : n ≤ 31) :
    Calls Try.prog 56 #[.int .u32 x, .int .i64 n] w fun e w' => e = .returned (.int .u32 (rotr x n.toNat)) ∧ ∃ k, w' = w.drewN k := by
  obtain ⟨k, rfl⟩ := Int.eq_ofNat_of_zero_le (show 0 ≤ n by omega)
  have h := rrot_core x k (32 - k) w (by omega) (by omega) (by rw [IntWalk.i64_in _ (by omega)]; omega)
  rw [bits_or_comm, IntKind.wrap_u32] at h
  exact h
theorem quietAdd2 {P : Program} {f : FuncId} {args : Array Value} {w : World} {a n : Nat} {v : Value}
    (h : Calls P f args (w.drewN (a + n)) fun e w' => e = .returned v ∧ ∃ m, w' = (w.drewN (a + n)).drewN m) :
    Calls P f args (w.drewN (a + n)) fun e w'' => e = .returned v ∧ ∃ m, w'' = w.drewN (a + m) :=
  h.mono fun _ _ ⟨he, m, hm⟩ => ⟨he, n + m, by rw [hm, World.drewN_drewN, Nat.add_assoc]⟩
theorem quietOf2 {P : Program} {f : FuncId} {args : Array Value} {w : World} {n : Nat} {v : Value}
    (h : Calls P f args (w.drewN n) fun e w' => e = .returned v ∧ ∃ m, w' = (w.drewN n).drewN m) :
    Calls P f args (w.drewN n) fun e w'' => e = .returned v ∧ ∃ m, w'' = w.drewN m :=
  h.mono fun _ _ ⟨he, m, hm⟩ => ⟨he, n + m, by rw [hm, World.drewN_drewN]⟩
set_option maxHeartbeats 1000000 in
set_option maxRecDepth 100000 in
theorem starts_any (w : World) : Calls Try.prog 42 #[] w fun e w' => e = .returned (.agg #[.int .u32 1779033703, .int .u32 3144134277, .int .u32 1013904242, .int .u32 2773480762, .int .u32 1359893119, .int .u32 2600822924, .int .u32 528734635, .int .u32 1541459225]) ∧ Below w.heap.size w w' := by
  go_enter Try.func42, Try.ntmps42
  go_wp2
  refine bodyPost_ret (results_cell_row (p := 0) (ty := 56) rfl _ _ w.heap.size 56 _ (0, 0) _ rfl (heap_alloc_new w _) Try.underlying56 rfl (by kernel_rfl)) rfl ⟨rfl, (Below.refl _ _).alloc (Nat.le_refl _) _⟩
set_option maxHeartbeats 1000000 in
set_option maxRecDepth 100000 in
theorem roots_any (w : World) : Calls Try.prog 57 #[] w fun e w' => e = .returned (.agg KA) ∧ Below w.heap.size w w' := by
  go_enter Try.func57, Try.ntmps57
  go_wp2_with (first
    | (refine build_is rfl 58 _ rfl KA (by kernel_rfl) ?_)
    | (refine wpList_store_row rfl 58 _ _ rfl w.heap.size KA rfl rfl 58 _ (heap_alloc_new w _) (by kernel_rfl) (by kernel_rfl) (by kernel_rfl) ?_))
  rw [World.setRow_alloc_new]
  refine bodyPost_ret (results_cell_row (p := 0) (ty := 58) rfl _ _ w.heap.size 58 KA (0, 0) _ rfl (heap_alloc_new w _) Try.underlying58 rfl (by kernel_rfl)) rfl ⟨rfl, (Below.refl _ _).alloc (Nat.le_refl _) _⟩

/-- the reference's word -/
def refWord (s : List UInt8) (t : Nat) : Int := bits .or .u32 (bits .or .u32 (bits .or .u32 (byteAt s (4 * t) * 16777216 % 4294967296) (byteAt s (4 * t + 1) * 65536 % 4294967296)) (byteAt s (4 * t + 2) * 256 % 4294967296)) (byteAt s (4 * t + 3))
theorem or_join (i a b : Nat) (ha : a < 4294967296) (hb : b < 4294967296) (hx : a % 2 ^ i = 0) (hy : b < 2 ^ i) : bits .or .u32 (a : Int) (b : Int) = ((a + b : Nat) : Int) := by
  rw [u32_or_nat a b ha hb, nat_join i a b hx hy]
theorem byteAt_nat (s : List UInt8) (i : Nat) : ∃ b : Nat, b < 256 ∧ byteAt s i = (b : Int) := ⟨_, (s.getD i 0).toNat_lt, rfl⟩
theorem or_eq (i : Nat) (x y z : Int) (a b : Nat) (hx : x = (a : Int)) (hy : y = (b : Int)) (ha : a < 4294967296) (hb : b < 4294967296) (h0 : a % 2 ^ i = 0) (h1 : b < 2 ^ i) (hz : z = ((a + b : Nat) : Int)) : bits .or .u32 x y = z := by
  subst hx hy hz
  exact or_join i a b ha hb h0 h1
theorem refWord_eq (s : List UInt8) (t : Nat) : refWord s t = part s t 4 := by
  obtain ⟨b0, h0, e0⟩ := byteAt_nat s (4 * t)
  obtain ⟨b1, h1, e1⟩ := byteAt_nat s (4 * t + 1)
  obtain ⟨b2, h2, e2⟩ := byteAt_nat s (4 * t + 2)
  obtain ⟨b3, h3, e3⟩ := byteAt_nat s (4 * t + 3)
  have l : refWord s t = ((b0 * 16777216 + b1 * 65536 + b2 * 256 + b3 : Nat) : Int) := by
    unfold refWord
    rw [e0, e1, e2, e3]
    refine or_eq 8 _ _ _ (b0 * 16777216 + b1 * 65536 + b2 * 256) b3 ?_ rfl (by omega) (by omega) (by omega) (by omega) rfl
    refine or_eq 16 _ _ _ (b0 * 16777216 + b1 * 65536) (b2 * 256) ?_ (by omega) (by omega) (by omega) (by omega) (by omega) rfl
    exact or_eq 24 _ _ _ (b0 * 16777216) (b1 * 65536) (by omega) (by omega) (by omega) (by omega) (by omega) (by omega) rfl
  have p1 : part s t 1 = (b0 : Int) := by
    rw [part, part, show 4 * t + 0 = 4 * t from rfl, e0]
    exact or_eq 8 _ _ _ 0 b0 (by omega) rfl (by omega) (by omega) (by omega) (by omega) (by omega)
  have p2 : part s t 2 = ((b0 * 256 + b1 : Nat) : Int) := by
    rw [part, p1, e1]
    exact or_eq 8 _ _ _ (b0 * 256) b1 (by omega) rfl (by omega) (by omega) (by omega) (by omega) rfl
  have p3 : part s t 3 = (((b0 * 256 + b1) * 256 + b2 : Nat) : Int) := by
    rw [part, p2, e2]
    exact or_eq 8 _ _ _ ((b0 * 256 + b1) * 256) b2 (by omega) rfl (by omega) (by omega) (by omega) (by omega) rfl
  rw [l, part, p3, e3]
  exact (or_eq 8 _ _ _ (((b0 * 256 + b1) * 256 + b2) * 256) b3 (by omega) rfl (by omega) (by omega) (by omega) (by omega) (by omega)).symm
end Go.Proofs.Ytlgpdmejnabinaa
