/- Slices of accounts of the call's own. -/
import Derived.Test.YtklmgogppljolaaPartsP
import Derived.Test.YtklmgogppljolaaRefS
namespace Go.Proofs.Ytklmgogppljolaa
open Go.RowKit

def encA (a : Acc) : List Value := [.string ⟨a.1.toArray⟩, .int .i64 a.2]
def AVs (l : List Acc) : List Value := l.flatMap encA
theorem avs_len (l : List Acc) : (AVs l).length = l.length * 2 := by
  induction l with
  | nil => rfl
  | cons a l ih => rw [AVs, List.flatMap_cons, List.length_append, ← AVs, ih]; simp [encA]; omega
theorem avs_get : ∀ (l : List Acc) (k : Nat), k < l.length → (AVs l)[k * 2]? = some (.string ⟨(accAt l k).1.toArray⟩) ∧ (AVs l)[k * 2 + 1]? = some (.int .i64 (accAt l k).2)
  | [], k, h => by simp at h
  | a :: l, 0, _ => ⟨rfl, rfl⟩
  | a :: l, k + 1, h => by
    have ih := avs_get l k (by simpa using h)
    have e : AVs (a :: l) = encA a ++ AVs l := by rw [AVs, List.flatMap_cons]; rfl
    rw [e, show (k + 1) * 2 = k * 2 + 1 + 1 by omega]
    simp only [encA, List.cons_append, List.nil_append, List.getElem?_cons_succ]
    exact ih
theorem avs_app (l m : List Acc) : AVs (l ++ m) = AVs l ++ AVs m := by simp [AVs]
/-- v is a slice of accounts of the call's own (from block B on), with the accounts l. -/
def OwnA (B : Nat) (w : World) (v : Value) (l : List Acc) : Prop := w.ownsRow B 26 2 v l.length (AVs l)
theorem OwnA.nil (B : Nat) (w : World) : OwnA B w (.slice none 0 0) [] := ⟨rfl, .inl ⟨rfl, rfl⟩⟩
theorem OwnA.accs {B : Nat} {w : World} {v : Value} {l : List Acc} (h : OwnA B w v l) : ∃ A c, v = .slice A l.length c ∧ Accs w A l.length c l := by
  rcases h.2 with ⟨rfl, h0⟩ | ⟨g, cap, cur, rfl, _, hg, hc, hm, hsz, htake⟩
  · exact ⟨none, 0, by rw [h0], rfl, by omega, by omega, fun hh => by omega⟩
  · refine ⟨_, _, rfl, rfl, hc, by unfold maxLen at hm; omega, fun _ => ⟨g, 0, rfl, ?_, fun k hk => ?_⟩⟩
    · rcases Nat.lt_or_ge g w.heap.size with h' | h'
      · exact h'
      · rw [Array.getElem?_eq_none h'] at hg; cases hg
    · obtain ⟨a1, a2⟩ := avs_get l k hk
      have h1 : ∀ j, j < l.length * 2 → cur[j]? = (AVs l)[j]? := fun j hj => by
        rw [← htake, List.getElem?_take, if_pos hj, Array.getElem?_toList]
      rw [Nat.zero_add, cell_of_row _ _ _ _ _ _ hg, cell_of_row _ _ _ _ _ _ hg, h1 _ (by omega), h1 _ (by omega)]
      exact ⟨a1, a2⟩
theorem OwnA.below {B : Nat} {w w' : World} {v : Value} {l : List Acc} (h : OwnA B w v l) (hb : Below w.heap.size w w') : OwnA B w' v l := by
  rcases h.2 with ⟨rfl, h0⟩ | ⟨g, cap, cur, rfl, hB, hg, hr⟩
  · exact ⟨h.1, .inl ⟨rfl, h0⟩⟩
  · refine ⟨h.1, .inr ⟨g, cap, cur, rfl, hB, ?_, hr⟩⟩
    rw [hb.block]
    · exact hg
    · rcases Nat.lt_or_ge g w.heap.size with h' | h'
      · exact h'
      · rw [Array.getElem?_eq_none h'] at hg; cases hg
theorem info26 : (Try.prog.info? 26).map (fun i => (i.zero, i.size, i.bytes)) = some (some (.agg #[.string ⟨#[]⟩, .int .i64 0]), 2, 24) := by kernel_rfl
theorem op_append_accs {o : Oper} {a : Act} {K : Act → World → Prop} {Q : Exit → Act → World → Prop} (s x : Operand)
    (ho : o.op = .call { callee := .builtin .append, args := #[s, x], argTypes := #[22, 22] })
    (B : Nat) (v : Value) (ns : List Acc) (w : World) (zs : List Acc) (hs : a.eval s = v) (hown : OwnA B w v ns) (hx : a.eval x = .slice (some ⟨w.heap.size, 0, none⟩) zs.length zs.length)
    (hB : B ≤ w.heap.size) (hn : ns.length + zs.length ≤ 1000000)
    (h : ∀ v' w', OwnA B w' v' (ns ++ zs) → Below B w w' → K (a.put o.dst v') w') : o.wp Try.prog a (w.alloc (.cells ⟨AVs zs⟩ 26)) K Q := by
  obtain ⟨i0, hi, hz0, hz1, hz2⟩ := info_parts info26
  refine wp_append_own _ s x 22 ho B 26 i0 (.agg #[.string ⟨#[]⟩, .int .i64 0]) 2 24 Try.underlying22 hi hz0 hz1 hz2 rfl (by decide) v ns.length (AVs ns) hs (World.ownsRow.alloc hown _) ⟨w.heap.size, 0, none⟩ zs.length zs.length (AVs zs) hx (avs_len zs) ?_ ?_ ?_ ?_ ?_ ?_
  · intro j u hu
    have hadd : (⟨w.heap.size, 0, none⟩ : Addr).add j = ⟨w.heap.size, j, none⟩ := by unfold Addr.add; split <;> simp_all
    rw [hadd, cell_of_row _ _ _ _ _ _ (heap_alloc_new w _)]
    simpa using hu
  · intro u hu
    simp only [AVs, List.mem_flatMap] at hu
    obtain ⟨z, _, hz⟩ := hu
    simp only [encA, List.mem_cons, List.not_mem_nil, or_false] at hz
    rcases hz with rfl | rfl <;> rfl
  · simp only [maxLen]; omega
  · omega
  · simp; omega
  · intro v' w' h2 h3 _
    refine h v' w' ?_ ?_
    · unfold OwnA
      rw [List.length_append, avs_app]
      exact h2
    · have hlt := World.ownsRow.lt hown
      exact ((Below.refl B w).alloc hB _).grown h3 (by simp; omega) (fun k hk => (hlt k hk).1)
theorem wp_append_accs {ops : Array Oper} {rest : List Oper} {o : Oper} {a : Act} {Q : Exit → Act → World → Prop} (hgd : o.guard = none) (s x : Operand)
    (ho : o.op = .call { callee := .builtin .append, args := #[s, x], argTypes := #[22, 22] })
    (B : Nat) (v : Value) (ns : List Acc) (w : World) (zs : List Acc) (hs : a.eval s = v) (hown : OwnA B w v ns) (hx : a.eval x = .slice (some ⟨w.heap.size, 0, none⟩) zs.length zs.length)
    (hB : B ≤ w.heap.size) (hn : ns.length + zs.length ≤ 1000000)
    (h : ∀ v' w', OwnA B w' v' (ns ++ zs) → Below B w w' → wpList Try.prog ops Q rest (a.put o.dst v') w') : wpList Try.prog ops Q (o :: rest) a (w.alloc (.cells ⟨AVs zs⟩ 26)) :=
  wpList_plain hgd fun _ hK => op_append_accs s x ho B v ns w zs hs hown hx hB hn fun v' w' h2 h3 => hK _ _ (h v' w' h2 h3)
end Go.Proofs.Ytklmgogppljolaa
