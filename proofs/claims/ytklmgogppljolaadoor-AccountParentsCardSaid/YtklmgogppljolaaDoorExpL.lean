/- The contract of Expand: the loop. -/
import Derived.Test.YtklmgogppljolaaDoorExp
namespace Go.Proofs.YtklmgogppljolaaDoor
open Go.RowKit Go.Shelf
attribute [local go_sem] Oper.semAt_some

theorem info9 : (Tryd.prog.info? 9).map (fun i => (i.zero, i.size, i.bytes)) = some (some (.string ⟨#[]⟩), 1, 16) := by kernel_rfl
theorem segs_len : ∀ (l : List UInt8), (segs l).length ≤ l.length + 1
  | [] => by simp [segs]
  | c :: r => by
    have ih := segs_len r
    rw [segs]
    split
    · simp; omega
    · split
      · simp
      · rename_i h t e
        rw [e] at ih
        simp at ih ⊢
        omega
theorem seg_len_le : ∀ (l : List UInt8), ∀ x ∈ segs l, x.length ≤ l.length
  | [], x, h => by simp [segs] at h; simp [h]
  | c :: r, x, h => by
    have ih := seg_len_le r
    rw [segs] at h
    split at h
    · rcases List.mem_cons.1 h with rfl | h
      · simp
      · have := ih x h; simp; omega
    · split at h
      · simp at h; simp [h]
      · rename_i hd t e
        rw [e] at ih
        rcases List.mem_cons.1 h with rfl | h
        · have := ih hd (by simp); simp; omega
        · have := ih x (by simp [h]); simp; omega
theorem join_cons (x y : List UInt8) (r : List (List UInt8)) (sep : List UInt8) : Lib.join (x :: y :: r) sep = x ++ (sep ++ Lib.join (y :: r) sep) := by
  simp [Lib.join, List.intercalate, List.intersperse]
theorem join_len (sep : List UInt8) (M : Nat) : ∀ (xs : List (List UInt8)), (∀ x ∈ xs, x.length ≤ M) → (Lib.join xs sep).length ≤ xs.length * (M + sep.length)
  | [], _ => by simp [Lib.join]
  | [x], h => by have := h x (by simp); simp [Lib.join]; omega
  | x :: y :: r, h => by
    have ih := join_len sep M (y :: r) (fun z hz => h z (by simp [hz]))
    have := h x (by simp)
    rw [join_cons]
    simp only [List.length_append, List.length_cons] at ih ⊢
    rw [Nat.add_mul _ 1]
    omega
/-- what the loop keeps -/
structure LI (B : Nat) (W0 : World) (one two : List UInt8) (pre : List Seg) (W : World) : Prop where
  ne : ∀ x ∈ pre, rep one two x.1 ≠ []
  out : ∃ v, Boxed W B 28 v ∧ W.ownsRow (B + 2) 9 1 v pre.length (pre.map fun x => .string ⟨(rep one two x.1).toArray⟩)
  bel : Below B W0 W
structure LX (b : Nat) (w : World) (one two : List UInt8) (pre : List Seg) (W : World) : Prop where
  ex : ∃ x ∈ pre, rep one two x.1 = []
  r6 : Boxed W b 9 (.string ⟨#[]⟩)
  r7 : Boxed W (b + 1) 24 (.int .i64 9)
  bel : Below b w W
theorem LI.own {B : Nat} {W0 : World} (hz : W0.heap.size = B + 2) (one two : List UInt8) : OwnFrom W0.heap.size (LI B W0 one two) := by
  intro s A A' row hs hg hr
  obtain ⟨h1, ⟨v, hv, hrow⟩, h3⟩ := hs
  have hne : ∀ k, k < B + 2 → some k ≠ row := fun k hk e => by have := (hr k e.symm).1; omega
  refine ⟨h1, ⟨v, hv.kept hg (hne _ (by omega)), hrow.kept hg ?_⟩, h3.grown hg (by have := h3.size; omega) (fun k e => by have := (hr k e).1; omega)⟩
  rcases hrow.2 with ⟨rfl, _⟩ | ⟨g, cap, cur, rfl, hbg, hgb, _⟩
  · exact .inl rfl
  · refine .inr fun e => ?_
    obtain ⟨o, ho, hc⟩ := (hr g e.symm).2
    rw [hgb] at ho; cases ho; cases hc
theorem LI.box {B : Nat} {W0 : World} (hz : W0.heap.size = B + 2) (one two : List UInt8) : ∀ s A A', LI B W0 one two s A → A.grownBy A' (some (B + 1)) → LI B W0 one two s A' := by
  intro s A A' hs hg
  obtain ⟨h1, ⟨v, hv, hrow⟩, h3⟩ := hs
  refine ⟨h1, ⟨v, hv.kept hg (by simp), hrow.kept hg ?_⟩, h3.grown hg (by have := h3.size; omega) (fun k e => by cases e; omega)⟩
  rcases hrow.2 with ⟨rfl, _⟩ | ⟨g, cap, cur, rfl, hbg, hgb, _⟩
  · exact .inl rfl
  · refine .inr fun e => ?_
    have : g = B + 1 := by simpa [Value.ownBlock] using e
    omega
theorem LX.kept {b : Nat} {w : World} {one two : List UInt8} {s : List Seg} {A A' : World} {row : Option Nat} (h : LX b w one two s A) (hb : b = w.heap.size) (hg : A.grownBy A' row) (hr : ∀ r, row = some r → b + 1 < r) : LX b w one two s A' :=
  ⟨h.ex, h.r6.kept hg (fun e => by have := hr _ e.symm; omega), h.r7.kept hg (fun e => by have := hr _ e.symm; omega), h.bel.grown hg (by have := h.bel.size; omega) (fun k e => by have := hr k e; omega)⟩
def exS (t one two : List UInt8) : List UInt8 := Lib.join ((segs t).map (rep one two)) [46]
end Go.Proofs.YtklmgogppljolaaDoor
