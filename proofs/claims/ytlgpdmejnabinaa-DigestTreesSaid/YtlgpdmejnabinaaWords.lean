/- Small words for memory: appends of bytes to a slice of the call's own, whole rows, an index into an array value. -/
import Derived.Test.YtlgpdmejnabinaaPad
import Derived.Maps.RangeWalk
import Derived.Deep.RegionLaw
import Derived.Deep.DeepMust
namespace Go.Proofs.Ytlgpdmejnabinaa
open Go.RowKit

theorem still_load_row {P : Program} {ops : Array Oper} {rest : List Oper} {o : Oper} {a : Act} {w : World} {Q : Act → Prop} (hgd : o.guard = none) (ty : TypeId) (x : Operand) (ho : o.op = .load ty x)
    (g : Nat) (hx : a.eval x = .pointer (some ⟨g, 0, none⟩)) (t : TypeId) (cs : Array Value) (fr : Nat × Nat) (d : TypeDesc) (hg : w.heap[g]? = some (.cells cs t fr))
    (hu : P.underlying ty = some d) (hd : (match d with | .struct _ | .array _ _ => true | _ => false) = true) (hi : (P.info? ty).map (·.size) = some cs.size)
    (h : wpStill P ops w Q rest (a.put o.dst (.agg cs))) : wpStill P ops w Q (o :: rest) a := by
  have hw : Region.wanted o (yielded ops a.tmps) = true := by simp [Region.wanted, hgd]
  unfold wpStill
  rw [if_pos hw]
  unfold Oper.still execOp
  simp only [ho, hx, Instr.loadAt, Instr.sureAddr, Sem.run_bind, Sem.run_pure, Result.andThen_ok, run_loadVar_row w g t ty cs fr d hg hu hd hi]
  rw [Oper.stillUpon_value]
  exact h

def U8s (ns : List Int) : List Value := ns.map (Value.int .u8)
/-- v is a slice of bytes of the call's own (from block B on), with the numbers ns. -/
def OwnB (B : Nat) (w : World) (v : Value) (ns : List Int) : Prop := w.ownsRow B 5 1 v ns.length (U8s ns)
theorem info5 : (Try.prog.info? 5).map (fun i => (i.zero, i.size, i.bytes)) = some (some (.int .u8 0), 1, 1) := by kernel_rfl
theorem OwnB.nil (B : Nat) (w : World) : OwnB B w (.slice none 0 0) [] := ⟨by simp [U8s], .inl ⟨rfl, rfl⟩⟩

theorem op_append_bytes {o : Oper} {a : Act} {K : Act → World → Prop} {Q : Exit → Act → World → Prop} (s x : Operand)
    (ho : o.op = .call { callee := .builtin .append, args := #[s, x], argTypes := #[53, 53] })
    (B : Nat) (v : Value) (ns : List Int) (w : World) (zs : List Int) (hs : a.eval s = v) (hown : OwnB B w v ns) (hx : a.eval x = .slice (some ⟨w.heap.size, 0, none⟩) zs.length zs.length)
    (hB : B ≤ w.heap.size) (hn : ns.length + zs.length ≤ 140737488355328)
    (h : ∀ v' w', OwnB B w' v' (ns ++ zs) → Below B w w' → K (a.put o.dst v') w') : o.wp Try.prog a (w.alloc (.cells ⟨U8s zs⟩ 5)) K Q := by
  obtain ⟨i0, hi, hz0, hz1, hz2⟩ := info_parts info5
  refine wp_append_own _ s x 53 ho B 5 i0 (.int .u8 0) 1 1 Try.underlying53 hi hz0 hz1 hz2 rfl (by decide) v ns.length (U8s ns) hs (World.ownsRow.alloc hown _) ⟨w.heap.size, 0, none⟩ zs.length zs.length (U8s zs) hx (by simp [U8s]) ?_ ?_ ?_ ?_ ?_ ?_
  · intro j u hu
    have hadd : (⟨w.heap.size, 0, none⟩ : Addr).add j = ⟨w.heap.size, j, none⟩ := by unfold Addr.add; split <;> simp_all
    rw [hadd, cell_of_row _ _ _ _ _ _ (heap_alloc_new w _)]
    simpa using hu
  · intro u hu
    simp only [U8s, List.mem_map] at hu
    obtain ⟨z, _, rfl⟩ := hu
    rfl
  · simp only [maxLen]; omega
  · omega
  · simp; omega
  · intro v' w' h2 h3 _
    refine h v' w' ?_ ?_
    · unfold OwnB
      rw [List.length_append]
      simpa [U8s] using h2
    · have hlt := World.ownsRow.lt hown
      exact ((Below.refl B w).alloc hB _).grown h3 (by simp; omega) (fun k hk => (hlt k hk).1)
theorem wp_append_bytes {ops : Array Oper} {rest : List Oper} {o : Oper} {a : Act} {Q : Exit → Act → World → Prop} (hgd : o.guard = none) (s x : Operand)
    (ho : o.op = .call { callee := .builtin .append, args := #[s, x], argTypes := #[53, 53] })
    (B : Nat) (v : Value) (ns : List Int) (w : World) (zs : List Int) (hs : a.eval s = v) (hown : OwnB B w v ns) (hx : a.eval x = .slice (some ⟨w.heap.size, 0, none⟩) zs.length zs.length)
    (hB : B ≤ w.heap.size) (hn : ns.length + zs.length ≤ 140737488355328)
    (h : ∀ v' w', OwnB B w' v' (ns ++ zs) → Below B w w' → wpList Try.prog ops Q rest (a.put o.dst v') w') : wpList Try.prog ops Q (o :: rest) a (w.alloc (.cells ⟨U8s zs⟩ 5)) :=
  wpList_plain hgd fun _ hK => op_append_bytes s x ho B v ns w zs hs hown hx hB hn fun v' w' h2 h3 => hK _ _ (h v' w' h2 h3)
theorem step_append_bytes {ops : Array Oper} {o : Oper} {a : Act} {K : Act → World → Prop} {Q : Exit → Act → World → Prop} {E : Prop} (hgd : o.guard = none) (s x : Operand)
    (ho : o.op = .call { callee := .builtin .append, args := #[s, x], argTypes := #[53, 53] })
    (B : Nat) (v : Value) (ns : List Int) (w : World) (zs : List Int) (hs : a.eval s = v) (hown : OwnB B w v ns) (hx : a.eval x = .slice (some ⟨w.heap.size, 0, none⟩) zs.length zs.length)
    (hB : B ≤ w.heap.size) (hn : ns.length + zs.length ≤ 140737488355328)
    (h : ∀ v' w', OwnB B w' v' (ns ++ zs) → Below B w w' → K (a.put o.dst v') w') :
    if Region.wanted o (yielded ops a.tmps) = true then Oper.wp Try.prog o a (w.alloc (.cells ⟨U8s zs⟩ 5)) K Q else E := by
  have hw : Region.wanted o (yielded ops a.tmps) = true := by simp [Region.wanted, hgd]
  rw [if_pos hw]
  exact op_append_bytes s x ho B v ns w zs hs hown hx hB hn h
theorem conv_own (B : Nat) (w : World) (v : Value) (ns : List Int) (h : OwnB B w v ns) : (convert 53 9 v).run Try.prog w = .ok (.string (strOfNums ns)) w := by
  rcases h.2 with ⟨rfl, h0⟩ | ⟨g, cap, cur, rfl, _, hg, hc, _, hsz, htake⟩
  · have : ns = [] := List.eq_nil_of_length_eq_zero h0
    subst this
    rw [run_convert_bytes_nil w 53 5 Try.underlying53 Try.underlying5 0 0 9 Try.underlying9]
    rfl
  · exact run_convert_bytes_arg w 53 5 Try.underlying53 Try.underlying5 g 0 ns.length cap ns rfl (fun i hi => by
      rw [Nat.zero_add, cell_of_row _ _ _ _ _ _ hg]
      have h1 : (cur.toList.take (ns.length * 1))[i]? = (U8s ns)[i]? := by rw [htake]
      rw [List.getElem?_take, if_pos (by omega)] at h1
      rw [← Array.getElem?_toList, h1]
      simp [U8s, hi]) 9 Try.underlying9

theorem index_arr8 (S : List Int) (k : Nat) (hl : S.length = 8) (hk : k < 8) (w : World) : (Instr.index 56 (.agg ⟨S.map (Value.int .u32)⟩) (.int .i64 (k : Int))).run Try.prog w = .ok (.int .u32 (S.getD k 0)) w := by
  obtain ⟨a, b, c, d, e, f, g, i, rfl⟩ := list8 S hl
  rcases k with _ | _ | _ | _ | _ | _ | _ | _ | k
  all_goals first | omega | rfl
end Go.Proofs.Ytlgpdmejnabinaa
