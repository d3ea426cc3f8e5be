/- A slice of bytes of the call's own, told cell by cell (its block may bear the mark of a conversion). -/
import Derived.Test.YtlgpdmejnabinaaBlock
import Derived.Lib.ConvBytes
import Derived.Lib.SmallJoins
namespace Go.Proofs.Ytlgpdmejnabinaa
open Go.RowKit

structure OwnXAt (B : Nat) (w : World) (g cap : Nat) (ns : List Int) : Prop where
  lo : B ≤ g
  lt : g < w.heap.size
  le : ns.length ≤ cap
  max : cap ≤ maxLen
  free : ∀ j, j < cap → (w.cell? ⟨g, j, none⟩).isSome = true ∧ w.frozen? ⟨g, j, none⟩ = false
  cells : ∀ j, j < ns.length → w.cell? ⟨g, j, none⟩ = some (.int .u8 (ns.getD j 0))
def OwnX (B : Nat) (w : World) (v : Value) (ns : List Int) : Prop := ∃ g cap, v = .slice (some ⟨g, 0, none⟩) ns.length cap ∧ OwnXAt B w g cap ns

theorem OwnXAt.below {B : Nat} {w w' : World} {g cap : Nat} {ns : List Int} (h : OwnXAt B w g cap ns) (hb : Below w.heap.size w w') : OwnXAt B w' g cap ns :=
  ⟨h.lo, Nat.lt_of_lt_of_le h.lt hb.size, h.le, h.max, fun j hj => by rw [hb.cell (by simpa using h.lt), hb.frozen (by simpa using h.lt)]; exact h.free j hj,
    fun j hj => by rw [hb.cell (by simpa using h.lt)]; exact h.cells j hj⟩
theorem OwnX.below {B : Nat} {w w' : World} {v : Value} {ns : List Int} (h : OwnX B w v ns) (hb : Below w.heap.size w w') : OwnX B w' v ns := by
  obtain ⟨g, cap, hv, hx⟩ := h
  exact ⟨g, cap, hv, hx.below hb⟩
theorem OwnX.of_conv (w : World) (s : ByteArray) (hs : s.size ≤ maxLen) : OwnX w.heap.size (Lib.bytesWorld w 5 s) (.slice (some ⟨w.heap.size, 0, none⟩) s.size (grownCap w s.size 0 5)) (s.data.toList.map fun b => (b.toNat : Int)) := by
  have hge := grownCap_ge w s.size 0 5
  have hnew := Lib.bytesWorld_at_new w 5 s
  have hsz : (Lib.bytesCells w 5 s).size = grownCap w s.size 0 5 := by
    simp [Lib.bytesCells]; show s.size + (grownCap w s.size 0 5 - s.size) = _; omega
  refine ⟨w.heap.size, _, by simp; rfl, Nat.le_refl _, by rw [Lib.bytesWorld_size]; omega, by simpa using hge, grownCap_le_maxLen _ _ _ _ hs, fun j hj => ⟨?_, ?_⟩, fun j hj => ?_⟩
  · rw [cell_of_row _ _ _ _ _ _ hnew, Array.getElem?_eq_getElem (by omega)]; rfl
  · simp only [World.frozen?, hnew]
    simp
    omega
  · have hj' : j < s.size := by simpa using hj
    rw [Lib.bytesWorld_cell w 5 s j hj']
    simp [hj']

theorem getD_append_left (a b : List Int) (j : Nat) (h : j < a.length) : (a ++ b).getD j 0 = a.getD j 0 := by
  rw [List.getD_eq_getElem?_getD, List.getD_eq_getElem?_getD, List.getElem?_append_left h]
theorem op_append_x {o : Oper} {a : Act} {K : Act → World → Prop} {Q : Exit → Act → World → Prop} (s x : Operand)
    (ho : o.op = .call { callee := .builtin .append, args := #[s, x], argTypes := #[53, 53] })
    (B : Nat) (v : Value) (ns : List Int) (w : World) (z : Int) (hs : a.eval s = v) (hown : OwnX B w v ns) (hx : a.eval x = .slice (some ⟨w.heap.size, 0, none⟩) 1 1)
    (hB : B ≤ w.heap.size) (hn : ns.length + 1 ≤ 140737488355328)
    (h : ∀ v' w', OwnX B w' v' (ns ++ [z]) → Below B w w' → K (a.put o.dst v') w') : o.wp Try.prog a (w.alloc (.cells #[.int .u8 z] 5)) K Q := by
  obtain ⟨i0, hi, hz0, hz1, hz2⟩ := info_parts info5
  obtain ⟨g, cap, rfl, hw⟩ := hown
  have hb1 : Below w.heap.size w (w.alloc (.cells #[.int .u8 z] 5)) := (Below.refl _ _).alloc (Nat.le_refl _) _
  have hw1 := hw.below hb1
  have hnews : ∀ j u, [Value.int .u8 z][j]? = some u → (w.alloc (.cells #[.int .u8 z] 5)).cell? ((⟨w.heap.size, 0, none⟩ : Addr).add j) = some u := by
    intro j u hu
    have hadd : (⟨w.heap.size, 0, none⟩ : Addr).add j = ⟨w.heap.size, j, none⟩ := by unfold Addr.add; split <;> simp_all
    rw [hadd, cell_of_row _ _ _ _ _ _ (heap_alloc_new w _)]
    simpa using hu
  have h1 : ∀ u ∈ [Value.int .u8 z], u.oneCell' = true := by intro u hu; simp at hu; subst hu; rfl
  have fin : ∀ v' w', OwnX B w' v' (ns ++ [z]) → Below B w w' → (Builtin.append_ #[53, 53] o.type #[.slice (some ⟨g, 0, none⟩) ns.length cap, .slice (some ⟨w.heap.size, 0, none⟩) 1 1]).run Try.prog (w.alloc (.cells #[.int .u8 z] 5)) = .ok v' w' → o.wp Try.prog a (w.alloc (.cells #[.int .u8 z] 5)) K Q := by
    intro v' w' h2 h3 hrun
    unfold Oper.wp execOp
    simp only [ho, resolve, invoke, builtin, Sem.run_bind, Sem.run_pure, Result.andThen_ok, List.map_toArray, List.map_cons, List.map_nil, hs, hx, hrun]
    exact h v' w' h2 h3
  by_cases hroom : ns.length + 1 ≤ cap
  · have hrun := run_append_room_cells (P := Try.prog) (w.alloc (.cells #[.int .u8 z] 5)) 53 o.type 5 i0 Try.underlying53 hi g 0 ns.length cap ⟨w.heap.size, 0, none⟩ 1 1 [.int .u8 z] (by simp [hz1]) hnews h1 hroom
      (fun j hj => by rw [hz1]; simp at hj; subst hj; simpa using (hw1.free ns.length (by omega)).1) (fun j hj => by rw [hz1]; simp at hj; subst hj; simpa using (hw1.free ns.length (by omega)).2)
    rw [hz1] at hrun
    simp only [Nat.mul_one, Nat.zero_add, World.setCells] at hrun
    obtain ⟨u0, hsome⟩ := Option.isSome_iff_exists.1 (hw1.free ns.length (by omega)).1
    refine fin _ _ ?_ ?_ hrun
    · refine ⟨g, cap, by simp, hw.lo, ?_, by simp; omega, hw.max, fun j hj => ⟨?_, ?_⟩, fun j hj => ?_⟩
      · have := hw1.lt; simpa [World.setCell] using this
      · by_cases e : j = ns.length
        · subst e
          rw [World.cell?_setCell_same _ _ _ hsome]; rfl
        · rw [World.cell?_setCell_other _ _ _ _ (by simp)]; exact (hw1.free j hj).1
      · rw [World.frozen?_setCell]; exact (hw1.free j hj).2
      · by_cases e : j = ns.length
        · subst e
          rw [World.cell?_setCell_same _ _ _ hsome]; simp
        · have hj' : j < ns.length := by simp at hj; omega
          rw [World.cell?_setCell_other _ _ _ _ (by simp), hw1.cells j hj', getD_append_left _ _ _ hj']
    · exact ((Below.refl B w).alloc hB _).setCell (by simpa using hw.lo) _
  · obtain ⟨v', w', hrun, h2, h3⟩ := run_append_arg_grows (P := Try.prog) (w.alloc (.cells #[.int .u8 z] 5)) 53 o.type 5 i0 (.int .u8 0) 1 1 Try.underlying53 hi hz0 hz1 hz2 rfl (by decide) ⟨g, 0, none⟩ ns.length cap (U8s ns) (by simp [U8s])
      (fun j u hu => by
        have hadd : (⟨g, 0, none⟩ : Addr).add j = ⟨g, j, none⟩ := by unfold Addr.add; split <;> simp_all
        have hj : j < ns.length := by
          rcases Nat.lt_or_ge j ns.length with h' | h'
          · exact h'
          · rw [List.getElem?_eq_none (by simpa [U8s] using h')] at hu; cases hu
        rw [hadd, hw1.cells j hj]
        simp [U8s, hj] at hu
        simp [hj, hu])
      ⟨w.heap.size, 0, none⟩ 1 1 [.int .u8 z] (by simp) hnews (by omega) (by simp only [maxLen]; omega) (by omega)
    refine fin _ _ ?_ ?_ hrun
    · rcases h2.2 with ⟨_, h0⟩ | ⟨g', cap', cur, rfl, hB', hg', hc', hm', hsz', htake⟩
      · omega
      · refine ⟨g', cap', by simp, ?_, ?_, by simpa using hc', hm', fun j hj => ⟨?_, ?_⟩, fun j hj => ?_⟩
        · simp at hB'; omega
        · rcases Nat.lt_or_ge g' w'.heap.size with h' | h'
          · exact h'
          · rw [Array.getElem?_eq_none h'] at hg'; cases hg'
        · rw [cell_of_row _ _ _ _ _ _ hg', Array.getElem?_eq_getElem (by omega)]; rfl
        · exact frozen_of_row _ _ _ _ _ hg'
        · rw [cell_of_row _ _ _ _ _ _ hg']
          simp at hj
          have h1 : (cur.toList.take ((ns.length + 1) * 1))[j]? = (U8s ns ++ [.int .u8 z])[j]? := by rw [htake]
          rw [List.getElem?_take, if_pos (by omega)] at h1
          rw [← Array.getElem?_toList, h1, show U8s ns ++ [Value.int .u8 z] = U8s (ns ++ [z]) from by simp [U8s], U8s, List.getElem?_map, List.getD_eq_getElem?_getD, List.getElem?_eq_getElem (by simpa using hj)]
          rfl
    · exact ((Below.refl B w).alloc hB _).grown h3 (by simp; omega) (by simp)
theorem wp_append_x {ops : Array Oper} {rest : List Oper} {o : Oper} {a : Act} {Q : Exit → Act → World → Prop} (hgd : o.guard = none) (s x : Operand)
    (ho : o.op = .call { callee := .builtin .append, args := #[s, x], argTypes := #[53, 53] })
    (B : Nat) (v : Value) (ns : List Int) (w : World) (z : Int) (hs : a.eval s = v) (hown : OwnX B w v ns) (hx : a.eval x = .slice (some ⟨w.heap.size, 0, none⟩) 1 1)
    (hB : B ≤ w.heap.size) (hn : ns.length + 1 ≤ 140737488355328)
    (h : ∀ v' w', OwnX B w' v' (ns ++ [z]) → Below B w w' → wpList Try.prog ops Q rest (a.put o.dst v') w') : wpList Try.prog ops Q (o :: rest) a (w.alloc (.cells #[.int .u8 z] 5)) :=
  wpList_plain hgd fun _ hK => op_append_x s x ho B v ns w z hs hown hx hB hn fun v' w' h2 h3 => hK _ _ (h v' w' h2 h3)
def toNums (l : List UInt8) : List Int := l.map fun b => (b.toNat : Int)
theorem toNums_snoc (l : List UInt8) (b : UInt8) : toNums (l ++ [b]) = toNums l ++ [(b.toNat : Int)] := by simp [toNums]
theorem toNums_len (l : List UInt8) : (toNums l).length = l.length := by simp [toNums]
/-- a part of the slice, as a string -/
theorem conv_part (B : Nat) (w : World) (g cap : Nat) (L : List UInt8) (h : OwnXAt B w g cap (toNums L)) (i c : Nat) (hi : i + 64 ≤ L.length) :
    (convert 53 9 (.slice (some ⟨g, i, none⟩) 64 c)).run Try.prog w = .ok (.string ⟨((L.drop i).take 64).toArray⟩) w := by
  have hl : ((L.drop i).take 64).length = 64 := by simp; omega
  have := run_convert_bytes_arg (P := Try.prog) w 53 5 Try.underlying53 Try.underlying5 g i 64 c (toNums ((L.drop i).take 64)) (by rw [toNums_len, hl]) (fun k hk => by
    rw [h.cells (i + k) (by rw [toNums_len]; omega)]
    simp only [toNums, List.getD_eq_getElem?_getD, List.getElem?_map, List.getElem?_take, List.getElem?_drop, if_pos hk]) 9 Try.underlying9
  rw [this]
  congr 2
  apply ByteArray.ext
  apply Array.toList_inj.1
  rw [strOfNums_data, toNums, List.map_map]
  simp
  refine List.ext_getElem (by simp) fun k h1 h2 => by simp
end Go.Proofs.Ytlgpdmejnabinaa
