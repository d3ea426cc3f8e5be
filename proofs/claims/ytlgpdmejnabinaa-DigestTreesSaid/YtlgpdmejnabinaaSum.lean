/- Contracts of digest.start, constants. -/
import Derived.Test.YtlgpdmejnabinaaStep
import Derived.Deep.WholeRow
namespace Go.Proofs.Ytlgpdmejnabinaa
open Go.RowKit

set_option maxHeartbeats 1000000 in
set_option maxRecDepth 100000 in
theorem start_any (w : World) : Calls Try.prog 38 #[] w fun e w' => e = .returned (.agg #[.int .u32 1779033703, .int .u32 3144134277, .int .u32 1013904242, .int .u32 2773480762, .int .u32 1359893119, .int .u32 2600822924, .int .u32 528734635, .int .u32 1541459225]) ∧ Below w.heap.size w w' := by
  go_enter Try.func38, Try.ntmps38
  go_wp2
  refine bodyPost_ret (results_cell_row (p := 0) (ty := 56) rfl _ _ w.heap.size 56 _ (0, 0) _ rfl (heap_alloc_new w _) Try.underlying56 rfl (by kernel_rfl)) rfl ⟨rfl, (Below.refl _ _).alloc (Nat.le_refl _) _⟩

theorem build_is {P : Program} {ops : Array Oper} {rest : List Oper} {o : Oper} {a : Act} {w : World} {Q : Exit → Act → World → Prop} (hg : o.guard = none) (t : TypeId) (parts : Array (Nat × Operand)) (ho : o.op = .build t parts)
    (cs : Array Value) (hf : P.built t (parts.map fun (i, x) => (i, a.eval x)).toList = some cs)
    (h : wpList P ops Q rest (a.put o.dst (.agg cs)) w) : wpList P ops Q (o :: rest) a w :=
  wpList_build hg t parts ho (by rw [hf]; rfl) (by rw [hf]; exact h)
def KA : Array Value := ⟨K64.map (Value.int .u32)⟩

set_option maxHeartbeats 1000000 in
set_option maxRecDepth 100000 in
theorem constants_any (w : World) : Calls Try.prog 39 #[] w fun e w' => e = .returned (.agg KA) ∧ Below w.heap.size w w' := by
  go_enter Try.func39, Try.ntmps39
  go_wp2_with (first
    | (refine build_is rfl 58 _ rfl KA (by kernel_rfl) ?_)
    | (refine wpList_store_row rfl 58 _ _ rfl w.heap.size KA rfl rfl 58 _ (heap_alloc_new w _) (by kernel_rfl) (by kernel_rfl) (by kernel_rfl) ?_))
  rw [World.setRow_alloc_new]
  refine bodyPost_ret (results_cell_row (p := 0) (ty := 58) rfl _ _ w.heap.size 58 KA (0, 0) _ rfl (heap_alloc_new w _) Try.underlying58 rfl (by kernel_rfl)) rfl ⟨rfl, (Below.refl _ _).alloc (Nat.le_refl _) _⟩
end Go.Proofs.Ytlgpdmejnabinaa
