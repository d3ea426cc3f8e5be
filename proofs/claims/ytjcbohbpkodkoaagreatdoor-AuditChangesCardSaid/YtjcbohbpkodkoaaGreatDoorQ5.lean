/- Slices of the call's own, and slices that are read, whatever their elements. -/
import Derived.Test.YtjcbohbpkodkoaaGreatDoorQ4
import Derived.Test.YtjcbohbpkodkoaaGreatDoorQ1
import Derived.Laws.OwnMore
import Derived.Lib.AppendZeros
import Derived.Maps.AppendAt
import Derived.DeepKeys4
import Derived.RangeFuncNested
import Derived.RangeFuncBound
import Derived.RangeFuncCalls
import Derived.RangeFuncLeaves
import Derived.RangeFuncBox
import Derived.Sort.MapsRangeIn
import Derived.Sort.KeysCollected
import Derived.Maps.OwnIn
import Derived.Shelf.Abstract
import Derived.Shelf.RegionOpen
import Derived.WalkKit
import Derived.OwnWalkIn
import Derived.TacticsInMore
import Derived.LoopNIn
import Derived.LoopIn
import Derived.Shelf.SlSortCmp.NoneTotal
import Derived.Test.YtjcbohbpkodkoaaGreatDoorChecked
import Derived.Shelf.SlSortCmp.WholeK
import Derived.Laws.AppendOwn
import Derived.Below
namespace Go.Proofs.YtjcbohbpkodkoaaGreatDoor
open Go.RowKit Go.Maps Num

theorem grown_tr {w w1 w2 : World} {row : Option Nat} (h : w.grownBy w1 row) (h2 : w1.grownBy w2 row) : w.grownBy w2 row :=
  ⟨h2.os.trans h.os, h2.tape.trans h.tape, h2.output.trans h.output, Nat.le_trans h.size h2.size, fun k hk hr => (h2.block k (Nat.lt_of_lt_of_le hk h.size) hr).trans (h.block k hk hr)⟩
theorem grown_refl (w : World) (row : Option Nat) : w.grownBy w row := ⟨rfl, rfl, rfl, Nat.le_refl _, fun _ _ _ => rfl⟩
theorem grown_below {w w1 w2 : World} {row : Option Nat} (h : w.grownBy w1 row) (hb : Below w1.heap.size w1 w2) : w.grownBy w2 row :=
  grown_tr h ⟨hb.os, hb.tape, hb.output, hb.size, fun k hk _ => hb.block k hk⟩
/-- how elements lie in a slice: the slice's type, the element's, its zero value, its cells, its bytes -/
structure Row (α : Type) where
  S : TypeId
  E : TypeId
  z : Value
  k : Nat
  by_ : Nat
  enc : α → List Value
structure Row.Ok {α : Type} (R : Row α) : Prop where
  hS : Tryz.prog.underlying R.S = some (.slice R.E)
  info : (Tryz.prog.info? R.E).map (fun i => (i.zero, i.size, i.bytes)) = some (some R.z, R.k, R.by_)
  zc : R.z.cells.size = R.k
  k0 : 0 < R.k
  b1 : R.by_ ≤ 128
  hk : ∀ x, (R.enc x).length = R.k
  h1 : ∀ x, ∀ v ∈ R.enc x, v.oneCell' = true
namespace Row
variable {α : Type} {R : Row α}
def vs (R : Row α) (l : List α) : List Value := l.flatMap R.enc
theorem vs_nil : R.vs [] = [] := rfl
theorem vs_cons (x : α) (l : List α) : R.vs (x :: l) = R.enc x ++ R.vs l := rfl
theorem vs_append (a b : List α) : R.vs (a ++ b) = R.vs a ++ R.vs b := List.flatMap_append
theorem vs_len (ok : R.Ok) (l : List α) : (R.vs l).length = l.length * R.k := by
  induction l with
  | nil => simp [vs]
  | cons x r ih => rw [vs_cons, List.length_append, ih, ok.hk, List.length_cons, Nat.add_mul]; omega
theorem vs_at (ok : R.Ok) (x0 : α) (l : List α) (i j : Nat) (hi : i < l.length) (hj : j < R.k) : (R.vs l)[i * R.k + j]? = (R.enc (l.getD i x0))[j]? := by
  induction l generalizing i with
  | nil => cases hi
  | cons x r ih =>
    rw [vs_cons]
    cases i with
    | zero => rw [List.getElem?_append_left (by rw [ok.hk]; omega)]; simp
    | succ i =>
      rw [List.getElem?_append_right (by rw [ok.hk, Nat.add_mul]; omega), ok.hk, show (i + 1) * R.k + j - R.k = i * R.k + j by rw [Nat.add_mul]; omega, ih i (by simpa using hi)]
      simp
theorem vs_one (ok : R.Ok) (l : List α) : ∀ u ∈ R.vs l, u.oneCell' = true := by
  intro u hu
  obtain ⟨x, _, hx⟩ := List.mem_flatMap.1 hu
  exact ok.h1 x u hx
/-- the slice '.slice A n c' reads as l -/
structure Rds (R : Row α) (w : World) (A : Option Addr) (n c : Nat) (l : List α) : Prop where
  len : l.length = n
  cap : n ≤ c
  top : c ≤ maxLen
  at_ : 0 < n → ∃ b o, A = some ⟨b, o, none⟩ ∧ b < w.heap.size ∧ ∀ (j : Nat) (u : Value), (R.vs l)[j]? = some u → w.cell? ⟨b, o + j, none⟩ = some u
theorem Rds.below {w w' : World} {A : Option Addr} {n c : Nat} {l : List α} (h : R.Rds w A n c l) (hb : Below w.heap.size w w') : R.Rds w' A n c l :=
  ⟨h.len, h.cap, h.top, fun h0 => by
    obtain ⟨b, o, e, hlt, hc⟩ := h.at_ h0
    exact ⟨b, o, e, Nat.lt_of_lt_of_le hlt hb.size, fun j u hu => (hb.cell (p := ⟨b, o + j, none⟩) hlt).trans (hc j u hu)⟩⟩
/-- a slice of the call's own, from block B on -/
def Own (R : Row α) (B : Nat) (w : World) (v : Value) (l : List α) : Prop := w.ownsRow B R.E R.k v l.length (R.vs l)
namespace Own
variable {B : Nat} {w w' : World} {v : Value} {l : List α}
theorem nil (B : Nat) (w : World) : R.Own B w (.slice none 0 0) [] := World.ownsRow_nil w B R.E R.k
theorem slice (h : R.Own B w v l) : ∃ A c, v = .slice A l.length c := by
  rcases h.2 with ⟨rfl, h0⟩ | ⟨g, cap, cur, rfl, _⟩
  · exact ⟨_, _, by rw [h0]⟩
  · exact ⟨_, _, rfl⟩
theorem rds (h : R.Own B w v l) : ∃ A c, v = .slice A l.length c ∧ R.Rds w A l.length c l := by
  rcases h.2 with ⟨rfl, h0⟩ | ⟨g, cap, cur, rfl, _, hg, hc, hm, hsz, htake⟩
  · exact ⟨none, 0, by rw [h0], rfl, by omega, by omega, fun hh => by omega⟩
  · refine ⟨_, _, rfl, rfl, hc, hm, fun _ => ⟨g, 0, rfl, ?_, fun j u hu => ?_⟩⟩
    · rcases Nat.lt_or_ge g w.heap.size with h' | h'
      · exact h'
      · rw [Array.getElem?_eq_none h'] at hg; cases hg
    · have hj := (List.getElem?_eq_some_iff.1 hu).1
      rw [← htake, List.getElem?_take] at hu
      split at hu
      · rw [Nat.zero_add, cell_of_row _ _ _ _ _ _ hg, ← hu, Array.getElem?_toList]
      · cases hu
theorem kept {row : Option Nat} (h : R.Own B w v l) (hg : w.grownBy w' row) (hr : ∀ k, row = some k → k < B) : R.Own B w' v l :=
  World.ownsRow.kept h hg (by
    cases hv : v.ownBlock with
    | none => exact .inl rfl
    | some g =>
      refine .inr fun e => ?_
      have := hr g e.symm
      have := (World.ownsRow.lt h g hv).1
      omega)
theorem kept' {row : Option Nat} (h : R.Own B w v l) (hg : w.grownBy w' row) (hr : v.ownBlock = none ∨ v.ownBlock ≠ row) : R.Own B w' v l := World.ownsRow.kept h hg hr
theorem below (h : R.Own B w v l) (hb : Below w.heap.size w w') : R.Own B w' v l := h.kept (row := none) (grown_of_below hb) (fun _ e => by cases e)
theorem own (h : R.Own B w v l) : ∀ k, v.ownBlock = some k → B ≤ k ∧ k < w.heap.size := fun k hk => World.ownsRow.lt h k hk
theorem mono {B' : Nat} (h : R.Own B w v l) (hb : B' ≤ B) : R.Own B' w v l := by
  rcases h.2 with ⟨rfl, h0⟩ | ⟨g, cap, cur, rfl, hB, hr⟩
  · exact ⟨h.1, .inl ⟨rfl, h0⟩⟩
  · exact ⟨h.1, .inr ⟨g, cap, cur, rfl, Nat.le_trans hb hB, hr⟩⟩
theorem alloc (h : R.Own B w v l) (o : Obj) : R.Own B (w.alloc o) v l := World.ownsRow.alloc h o
theorem dr (h : R.Own B w v l) (k : Nat) : R.Own B (w.drewN k) v l := h
/-- what was set up anew from the heap's size on, and kept, is the call's own of any lower block -/
theorem pos (h : R.Own B w v l) (hne : 0 < l.length) : ∃ g cap, v = .slice (some ⟨g, 0, none⟩) l.length cap ∧ B ≤ g ∧ g < w.heap.size ∧ l.length ≤ cap ∧ cap ≤ maxLen ∧ ∀ j, j < cap * R.k → (w.cell? ⟨g, j, none⟩).isSome = true ∧ w.frozen? ⟨g, j, none⟩ = false := by
  rcases h.2 with ⟨_, h0⟩ | ⟨g, cap, cur, hv, hB, hg, hc, hm, hsz, htake⟩
  · omega
  · refine ⟨g, cap, hv, hB, ?_, hc, hm, fun j hj => ⟨?_, frozen_of_row _ _ _ _ _ hg⟩⟩
    · rcases Nat.lt_or_ge g w.heap.size with h' | h'
      · exact h'
      · rw [Array.getElem?_eq_none h'] at hg; cases hg
    · rw [cell_of_row _ _ _ _ _ _ hg, Array.getElem?_eq_getElem (by omega)]; rfl
end Own
theorem run_append_none (ok : R.Ok) (w : World) (B : Nat) (ty : TypeId) (v : Value) (n : Nat) (xs : List Value) (hown : w.ownsRow B R.E R.k v n xs) (c : Nat) : (Builtin.append_ #[R.S, R.S] ty #[v, .slice none 0 c]).run Tryz.prog w = .ok v w := by
  obtain ⟨i0, hi, hz0, hz1, hz2⟩ := info_parts ok.info
  rcases hown.2 with ⟨rfl, rfl⟩ | ⟨g, cap, cur, rfl, _, _, hnc, _⟩
  · simp [Builtin.append_, run_underlying ok.hS, sizeOf, typeInfo, hi, Builtin.lenOf, Builtin.firstCells]
  · simp [Builtin.append_, run_underlying ok.hS, sizeOf, typeInfo, hi, Builtin.lenOf, Builtin.firstCells, hnc, storeCells]
/-- append(s, t...) -/
theorem run_append (ok : R.Ok) (B : Nat) (ty : TypeId) (v : Value) (ns : List α) (w : World) (A : Option Addr) (m c : Nat) (zs : List α) (hown : R.Own B w v ns) (hz : R.Rds w A m c zs) (hB : B ≤ w.heap.size) (hn : ns.length + m ≤ 1000000) :
    ∃ v' w', (Builtin.append_ #[R.S, R.S] ty #[v, .slice A m c]).run Tryz.prog w = .ok v' w' ∧ R.Own B w' v' (ns ++ zs) ∧ w.grownBy w' v.ownBlock ∧ (v'.ownBlock = v.ownBlock ∨ v'.ownBlock = some w.heap.size) := by
  obtain ⟨i0, hi, hz0, hz1, hz2⟩ := info_parts ok.info
  by_cases hA : ∃ ad, A = some ad
  · obtain ⟨ad, rfl⟩ := hA
    have hb := ok.b1
    obtain ⟨v', w', hr, h2, h3, _, h5⟩ := run_append_own_at (P := Tryz.prog) w B R.S ty R.E i0 _ R.k R.by_ ok.hS hi hz0 hz1 hz2 ok.zc ok.k0 v ns.length (R.vs ns) hown ad m c (R.vs zs) (by rw [vs_len ok, hz.len]) (fun j u hu => by
        have hj := (List.getElem?_eq_some_iff.1 hu).1
        rw [vs_len ok, hz.len] at hj
        obtain ⟨b, off, e, _, hc⟩ := hz.at_ (by
          rcases Nat.eq_zero_or_pos m with h0 | h0
          · rw [h0] at hj; omega
          · exact h0)
        cases e
        have hadd : (⟨b, off, none⟩ : Addr).add j = ⟨b, off + j, none⟩ := by unfold Addr.add; split <;> simp_all
        rw [hadd]
        exact hc j u hu) (vs_one ok zs) (by simp only [maxLen]; omega) (by
        have h64 : (ns.length + m) * R.by_ ≤ 1000000 * 128 := Nat.mul_le_mul hn hb
        omega) hB
    refine ⟨v', w', hr, ?_, h3, h5⟩
    unfold Own
    rw [List.length_append, hz.len, vs_append]
    exact h2
  · have hA2 : A = none := by
      cases A with
      | none => rfl
      | some ad => exact absurd ⟨ad, rfl⟩ hA
    subst hA2
    have hm : m = 0 := by
      rcases Nat.eq_zero_or_pos m with h0 | h0
      · exact h0
      · obtain ⟨b, off, e, _⟩ := hz.at_ h0
        cases e
    subst hm
    have : zs = [] := List.eq_nil_of_length_eq_zero hz.len
    subst this
    exact ⟨v, w, run_append_none ok w B ty v _ _ hown c, by rw [List.append_nil]; exact hown, ⟨rfl, rfl, rfl, Nat.le_refl _, fun _ _ _ => rfl⟩, .inl rfl⟩
theorem op_append (ok : R.Ok) {o : Oper} {a : Act} {K : Act → World → Prop} {Q : Exit → Act → World → Prop} (s x : Operand)
    (ho : o.op = .call { callee := .builtin .append, args := #[s, x], argTypes := #[R.S, R.S] })
    (B : Nat) (v : Value) (ns : List α) (w : World) (A : Option Addr) (m c : Nat) (zs : List α) (hs : a.eval s = v) (hown : R.Own B w v ns) (hx : a.eval x = .slice A m c) (hz : R.Rds w A m c zs)
    (hB : B ≤ w.heap.size) (hn : ns.length + m ≤ 1000000)
    (h : ∀ v' w', R.Own B w' v' (ns ++ zs) → w.grownBy w' v.ownBlock → (v'.ownBlock = v.ownBlock ∨ v'.ownBlock = some w.heap.size) → K (a.put o.dst v') w') : o.wp Tryz.prog a w K Q := by
  obtain ⟨v', w', hr, h2, h3, h5⟩ := run_append ok B o.type v ns w A m c zs hown hz hB hn
  unfold Oper.wp execOp
  simp only [ho, resolve, invoke, builtin, Sem.run_bind, Sem.run_pure, Result.andThen_ok, List.map_toArray, List.map_cons, List.map_nil, hs, hx, hr]
  exact h v' w' h2 h3 h5
theorem wp_append (ok : R.Ok) {ops : Array Oper} {rest : List Oper} {o : Oper} {a : Act} {Q : Exit → Act → World → Prop} (hgd : o.guard = none) (s x : Operand)
    (ho : o.op = .call { callee := .builtin .append, args := #[s, x], argTypes := #[R.S, R.S] })
    (B : Nat) (v : Value) (ns : List α) (w : World) (A : Option Addr) (m c : Nat) (zs : List α) (hs : a.eval s = v) (hown : R.Own B w v ns) (hx : a.eval x = .slice A m c) (hz : R.Rds w A m c zs)
    (hB : B ≤ w.heap.size) (hn : ns.length + m ≤ 1000000)
    (h : ∀ v' w', R.Own B w' v' (ns ++ zs) → w.grownBy w' v.ownBlock → (v'.ownBlock = v.ownBlock ∨ v'.ownBlock = some w.heap.size) → wpList Tryz.prog ops Q rest (a.put o.dst v') w') : wpList Tryz.prog ops Q (o :: rest) a w :=
  wpList_plain hgd fun _ hK => op_append ok s x ho B v ns w A m c zs hs hown hx hz hB hn fun v' w' h2 h3 h5 => hK _ _ (h v' w' h2 h3 h5)
theorem step_append (ok : R.Ok) {ops : Array Oper} {o : Oper} {a : Act} {K : Act → World → Prop} {Q : Exit → Act → World → Prop} {E : Prop} (hgd : o.guard = none) (s x : Operand)
    (ho : o.op = .call { callee := .builtin .append, args := #[s, x], argTypes := #[R.S, R.S] })
    (B : Nat) (v : Value) (ns : List α) (w : World) (A : Option Addr) (m c : Nat) (zs : List α) (hs : a.eval s = v) (hown : R.Own B w v ns) (hx : a.eval x = .slice A m c) (hz : R.Rds w A m c zs)
    (hB : B ≤ w.heap.size) (hn : ns.length + m ≤ 1000000)
    (h : ∀ v' w', R.Own B w' v' (ns ++ zs) → w.grownBy w' v.ownBlock → (v'.ownBlock = v.ownBlock ∨ v'.ownBlock = some w.heap.size) → K (a.put o.dst v') w') :
    if Region.wanted o (yielded ops a.tmps) = true then Oper.wp Tryz.prog o a w K Q else E := by
  have hw : Region.wanted o (yielded ops a.tmps) = true := by simp [Region.wanted, hgd]
  rw [if_pos hw]
  exact op_append ok s x ho B v ns w A m c zs hs hown hx hz hB hn h
/-- one element in a block of its own -/
theorem rds_one (_ok : R.Ok) (w : World) (x : α) (t : TypeId) : R.Rds (w.alloc (.cells (R.enc x).toArray t)) (some ⟨w.heap.size, 0, none⟩) 1 1 [x] :=
  ⟨rfl, Nat.le_refl _, by unfold maxLen; omega, fun _ => ⟨w.heap.size, 0, rfl, by simp, fun j u hu => by
    rw [Nat.zero_add, cell_of_row _ _ _ _ _ _ (heap_alloc_new w _)]
    rw [vs_cons, vs_nil, List.append_nil] at hu
    simpa using hu⟩⟩
/-- append(s, x): x lies in a block of its own -/
theorem op_append1 (ok : R.Ok) {o : Oper} {a : Act} {K : Act → World → Prop} {Q : Exit → Act → World → Prop} (s t : Operand)
    (ho : o.op = .call { callee := .builtin .append, args := #[s, t], argTypes := #[R.S, R.S] })
    (B : Nat) (v : Value) (ns : List α) (w : World) (x : α) (cs : Array Value) (E' : TypeId) (hcs : cs = (R.enc x).toArray) (hE : E' = R.E) (hs : a.eval s = v) (hown : R.Own B w v ns) (hx : a.eval t = .slice (some ⟨w.heap.size, 0, none⟩) 1 1)
    (hB : B ≤ w.heap.size) (hn : ns.length + 1 ≤ 1000000)
    (h : ∀ v' w', R.Own B w' v' (ns ++ [x]) → w.grownBy w' v.ownBlock → (v'.ownBlock = v.ownBlock ∨ ∃ g, v'.ownBlock = some g ∧ w.heap.size ≤ g) → K (a.put o.dst v') w') : o.wp Tryz.prog a (w.alloc (.cells cs E')) K Q := by
  subst hcs hE
  refine op_append ok s t ho B v ns (w.alloc (.cells (R.enc x).toArray R.E)) _ 1 1 [x] hs (hown.alloc _) hx (rds_one ok w x R.E) (by simp; omega) hn fun v' w' h1 h2 h3 => h v' w' h1 (grown_tr (World.grownBy_alloc w _ _) h2) ?_
  rcases h3 with h3 | h3
  · exact .inl h3
  · exact .inr ⟨_, h3, by simp⟩
theorem wp_append1 (ok : R.Ok) {ops : Array Oper} {rest : List Oper} {o : Oper} {a : Act} {Q : Exit → Act → World → Prop} (hgd : o.guard = none) (s t : Operand)
    (ho : o.op = .call { callee := .builtin .append, args := #[s, t], argTypes := #[R.S, R.S] })
    (B : Nat) (v : Value) (ns : List α) (w : World) (x : α) (cs : Array Value) (E' : TypeId) (hcs : cs = (R.enc x).toArray) (hE : E' = R.E) (hs : a.eval s = v) (hown : R.Own B w v ns) (hx : a.eval t = .slice (some ⟨w.heap.size, 0, none⟩) 1 1)
    (hB : B ≤ w.heap.size) (hn : ns.length + 1 ≤ 1000000)
    (h : ∀ v' w', R.Own B w' v' (ns ++ [x]) → w.grownBy w' v.ownBlock → (v'.ownBlock = v.ownBlock ∨ ∃ g, v'.ownBlock = some g ∧ w.heap.size ≤ g) → wpList Tryz.prog ops Q rest (a.put o.dst v') w') : wpList Tryz.prog ops Q (o :: rest) a (w.alloc (.cells cs E')) :=
  wpList_plain hgd fun _ hK => op_append1 ok s t ho B v ns w x cs E' hcs hE hs hown hx hB hn fun v' w' h2 h3 h5 => hK _ _ (h v' w' h2 h3 h5)
theorem step_append1 (ok : R.Ok) {ops : Array Oper} {o : Oper} {a : Act} {K : Act → World → Prop} {Q : Exit → Act → World → Prop} {E : Prop} (hgd : o.guard = none) (s t : Operand)
    (ho : o.op = .call { callee := .builtin .append, args := #[s, t], argTypes := #[R.S, R.S] })
    (B : Nat) (v : Value) (ns : List α) (w : World) (x : α) (cs : Array Value) (E' : TypeId) (hcs : cs = (R.enc x).toArray) (hE : E' = R.E) (hs : a.eval s = v) (hown : R.Own B w v ns) (hx : a.eval t = .slice (some ⟨w.heap.size, 0, none⟩) 1 1)
    (hB : B ≤ w.heap.size) (hn : ns.length + 1 ≤ 1000000)
    (h : ∀ v' w', R.Own B w' v' (ns ++ [x]) → w.grownBy w' v.ownBlock → (v'.ownBlock = v.ownBlock ∨ ∃ g, v'.ownBlock = some g ∧ w.heap.size ≤ g) → K (a.put o.dst v') w') :
    if Region.wanted o (yielded ops a.tmps) = true then Oper.wp Tryz.prog o a (w.alloc (.cells cs E')) K Q else E := by
  have hw : Region.wanted o (yielded ops a.tmps) = true := by simp [Region.wanted, hgd]
  rw [if_pos hw]
  exact op_append1 ok s t ho B v ns w x cs E' hcs hE hs hown hx hB hn h
theorem step_append1d (ok : R.Ok) {ops : Array Oper} {o : Oper} {a : Act} {K : Act → World → Prop} {Q : Exit → Act → World → Prop} {E : Prop} (hgd : o.guard = none) (s t : Operand)
    (ho : o.op = .call { callee := .builtin .append, args := #[s, t], argTypes := #[R.S, R.S] })
    (B : Nat) (v : Value) (ns : List α) (w : World) (x : α) (cs : Array Value) (E' : TypeId) (hcs : cs = (R.enc x).toArray) (hE : E' = R.E) (hs : a.eval s = v) (hown : R.Own B w v ns) (hx : a.eval t = .slice (some ⟨w.heap.size, 0, none⟩) 1 1)
    (hB : B ≤ w.heap.size) (hn : ns.length + 1 ≤ 1000000)
    (h : ∀ v' w', R.Own B w' v' (ns ++ [x]) → w.grownBy w' v.ownBlock → (v'.ownBlock = v.ownBlock ∨ ∃ g, v'.ownBlock = some g ∧ w.heap.size ≤ g) → K (a.put o.dst v') w') :
    if Region.wanted o (yielded ops a.tmps) = true then Oper.wp Tryz.prog o a (w.alloc (.cells cs E')).drew K Q else E := by
  have hw : Region.wanted o (yielded ops a.tmps) = true := by simp [Region.wanted, hgd]
  rw [if_pos hw]
  subst hcs hE
  have hr := rds_one ok w x R.E
  refine op_append ok s t ho B v ns (w.alloc (.cells (R.enc x).toArray R.E)).drew _ 1 1 [x] hs (hown.alloc _) hx ⟨hr.len, hr.cap, hr.top, hr.at_⟩ (by show B ≤ (w.alloc (.cells (R.enc x).toArray R.E)).heap.size; simp; omega) hn fun v' w' h1 h2 h3 => h v' w' h1 (grown_tr (World.grownBy_alloc w (.cells (R.enc x).toArray R.E) _) ⟨h2.os, h2.tape, h2.output, h2.size, h2.block⟩) ?_
  rcases h3 with h3 | h3
  · exact .inl h3
  · exact .inr ⟨_, h3, by show w.heap.size ≤ (w.alloc (.cells (R.enc x).toArray R.E)).heap.size; simp⟩
/-- a part of a slice that is read -/
theorem Rds.drop (ok : R.Ok) {w : World} {b o n c : Nat} {l : List α} (h : R.Rds w (some ⟨b, o, none⟩) n c l) (i : Nat) (hi : i ≤ n) : R.Rds w (some ⟨b, o + i * R.k, none⟩) (n - i) (c - i) (l.drop i) := by
  have hl := h.len
  have hcap := h.cap
  have htop := h.top
  refine ⟨by rw [List.length_drop, hl], by omega, by omega, fun h0 => ?_⟩
  obtain ⟨b', o', e, hlt, hc⟩ := h.at_ (by omega)
  cases e
  refine ⟨b, _, rfl, hlt, fun j u hu => ?_⟩
  have e1 : R.vs l = R.vs (l.take i) ++ R.vs (l.drop i) := by rw [← vs_append, List.take_append_drop]
  have e2 : (R.vs (l.take i)).length = i * R.k := by rw [vs_len ok, List.length_take, hl, Nat.min_eq_left hi]
  have := hc (i * R.k + j) u (by rw [e1, List.getElem?_append_right (by rw [e2]; omega), e2, Nat.add_sub_cancel_left]; exact hu)
  rw [show o + i * R.k + j = o + (i * R.k + j) by omega]
  exact this
theorem Rds.take (_ok : R.Ok) {w : World} {A : Option Addr} {n c : Nat} {l : List α} (h : R.Rds w A n c l) (i : Nat) (hi : i ≤ n) : R.Rds w A i c (l.take i) := by
  have hl := h.len
  have hcap := h.cap
  have htop := h.top
  refine ⟨by rw [List.length_take, hl]; omega, by omega, by omega, fun h0 => ?_⟩
  obtain ⟨b, o, e, hlt, hc⟩ := h.at_ (by omega)
  refine ⟨b, o, e, hlt, fun j u hu => hc j u ?_⟩
  have e1 : R.vs l = R.vs (l.take i) ++ R.vs (l.drop i) := by rw [← vs_append, List.take_append_drop]
  rw [e1, List.getElem?_append_left (List.getElem?_eq_some_iff.1 hu).1]
  exact hu
/-- one element that is read -/
theorem Rds.cell (ok : R.Ok) (x0 : α) {w : World} {b o n c : Nat} {l : List α} (h : R.Rds w (some ⟨b, o, none⟩) n c l) (i j : Nat) (u : Value) (hi : i < n) (hu : (R.enc (l.getD i x0))[j]? = some u) : w.cell? ⟨b, o + i * R.k + j, none⟩ = some u := by
  obtain ⟨b', o', e, _, hc⟩ := h.at_ (by omega)
  cases e
  have hj : j < R.k := by rw [← ok.hk (l.getD i x0)]; exact (List.getElem?_eq_some_iff.1 hu).1
  have := hc (i * R.k + j) u (by rw [vs_at ok x0 l i j (by rw [h.len]; exact hi) hj]; exact hu)
  rw [show o + i * R.k + j = o + (i * R.k + j) by omega]
  exact this
theorem Rds.nil (w : World) (A : Option Addr) (c : Nat) (hc : c ≤ maxLen) : R.Rds w A 0 c [] := ⟨rfl, Nat.zero_le _, hc, fun h => by omega⟩
theorem size_run (ok : R.Ok) (W : World) : (sizeOf R.E).run Tryz.prog W = .ok R.k W := by
  obtain ⟨i0, hi, hz0, hz1, hz2⟩ := info_parts ok.info
  simp [sizeOf, typeInfo, hi, hz1]
theorem elem_of (ok : R.Ok) : Tryz.prog.elem R.S = R.E := by simp [Program.elem, ok.hS]
/-- s[i:] -/
theorem run_from (ok : R.Ok) {w : World} {A : Option Addr} {n c : Nat} {l : List α} (h : R.Rds w A n c l) (i : Nat) (hi : i ≤ n) :
    ∃ A', (∀ W, (Instr.sliceAt R.S (.slice A n c) (some (.int .i64 (i : Int))) none none).run Tryz.prog W = .ok (.slice A' (n - i) (c - i)) W) ∧ R.Rds w A' (n - i) (c - i) (l.drop i) := by
  have hcap := h.cap
  refine ⟨if c = i then A else A.map (·.add (i * R.k)), fun W => ?_, ?_⟩
  · rw [run_sliceAt_slice W R.S _ _ _ _ (by rw [elem_of ok]; exact ok.hS), run_slice_l W R.S A n c (by rw [elem_of ok]; exact ok.hS) .i64 (i : Int) (by omega) (by omega), elem_of ok, size_run ok W]
    simp [Result.andThen, sliced]
  · by_cases h0 : n - i = 0
    · have hl : l.drop i = [] := List.drop_of_length_le (by rw [h.len]; omega)
      rw [hl, h0]
      exact Rds.nil w _ _ (by have := h.top; omega)
    · rw [if_neg (by omega)]
      obtain ⟨b, o, rfl, _⟩ := h.at_ (by omega)
      have hadd : (⟨b, o, none⟩ : Addr).add (i * R.k) = ⟨b, o + i * R.k, none⟩ := by unfold Addr.add; split <;> simp_all
      rw [Option.map_some, hadd]
      exact h.drop ok i hi
/-- s[:i] -/
theorem run_upto (ok : R.Ok) {w : World} {A : Option Addr} {n c : Nat} {l : List α} (h : R.Rds w A n c l) (i : Nat) (hi : i ≤ n) :
    ∃ A', (∀ W, (Instr.sliceAt R.S (.slice A n c) none (some (.int .i64 (i : Int))) none).run Tryz.prog W = .ok (.slice A' i c) W) ∧ R.Rds w A' i c (l.take i) := by
  have hcap := h.cap
  refine ⟨if c = 0 then A else A.map (·.add (0 * R.k)), fun W => ?_, ?_⟩
  · rw [run_sliceAt_slice W R.S _ _ _ _ (by rw [elem_of ok]; exact ok.hS), run_slice_h W R.S A n c (by rw [elem_of ok]; exact ok.hS) .i64 (i : Int) (by omega) (by omega), elem_of ok, size_run ok W]
    simp [Result.andThen, sliced]
  · by_cases h0 : n = 0
    · have hi0 : i = 0 := by omega
      subst hi0
      rw [List.take_zero]
      exact Rds.nil w _ _ h.top
    · rw [if_neg (by omega)]
      obtain ⟨b, o, rfl, _⟩ := h.at_ (by omega)
      have hadd : (⟨b, o, none⟩ : Addr).add (0 * R.k) = ⟨b, o, none⟩ := by unfold Addr.add; split <;> simp_all
      rw [Option.map_some, hadd]
      exact h.take ok i hi
theorem vs_set3 (hk : ∀ x : α, (R.enc x).length = 3) (l : List α) (i : Nat) (x : α) (a b c : Value) (hi : i < l.length) (hx : R.enc x = [a, b, c]) : (((R.vs l).set (i * 3) a).set (i * 3 + 1) b).set (i * 3 + 2) c = R.vs (l.set i x) := by
  induction l generalizing i with
  | nil => cases hi
  | cons y r ih =>
    obtain ⟨y0, y1, y2, hy⟩ : ∃ y0 y1 y2, R.enc y = [y0, y1, y2] := by
      have h := hk y
      match he : R.enc y, h with
      | [p, q, s], _ => exact ⟨p, q, s, rfl⟩
    rw [vs_cons, hy]
    cases i with
    | zero => rw [List.set_cons_zero, vs_cons, hx]; rfl
    | succ i =>
      rw [List.set_cons_succ, vs_cons, hy, ← ih i (by simpa using hi), show (i + 1) * 3 = i * 3 + 3 by omega]
      rfl
/-- an element of a slice of the call's own is written -/
theorem Own.set3 (hk : ∀ x : α, (R.enc x).length = 3) (_h3 : R.k = 3) {B : Nat} {w : World} {g n cap : Nat} {l : List α} (h : R.Own B w (.slice (some ⟨g, 0, none⟩) n cap) l) (i : Nat) (x : α) (a b c : Value) (hi : i < l.length) (hx : R.enc x = [a, b, c]) :
    R.Own B (((w.setCell ⟨g, i * 3, none⟩ a).setCell ⟨g, i * 3 + 1, none⟩ b).setCell ⟨g, i * 3 + 2, none⟩ c) (.slice (some ⟨g, 0, none⟩) n cap) (l.set i x) ∧ w.grownBy (((w.setCell ⟨g, i * 3, none⟩ a).setCell ⟨g, i * 3 + 1, none⟩ b).setCell ⟨g, i * 3 + 2, none⟩ c) (some g) := by
  have hn : n = l.length := by
    rcases h.2 with ⟨e, _⟩ | ⟨g', cap', cur, e, _⟩
    · cases e
    · injection e
  subst hn
  have h' : w.ownsRow B R.E R.k (.slice (some ⟨g, 0, none⟩) l.length cap) l.length (R.vs l) := h
  obtain ⟨s1, t1⟩ := h'.stored (i * 3) a
  obtain ⟨s2, t2⟩ := s1.stored (i * 3 + 1) b
  obtain ⟨s3, t3⟩ := s2.stored (i * 3 + 2) c
  rw [vs_set3 hk l i x a b c hi hx] at s3
  refine ⟨?_, grown_tr (grown_tr t1 t2) t3⟩
  unfold Own
  rw [List.length_set]
  exact s3
theorem Own.frz {B : Nat} {w : World} {g n cap : Nat} {l : List α} (h : R.Own B w (.slice (some ⟨g, 0, none⟩) n cap) l) (j : Nat) : w.frozen? ⟨g, j, none⟩ = false := by
  have hn : n = l.length := by
    rcases h.2 with ⟨e, _⟩ | ⟨g', cap', cur, e, _⟩
    · cases e
    · injection e
  subst hn
  exact World.ownsRow.frozenAt h j
end Row
end Go.Proofs.YtjcbohbpkodkoaaGreatDoor

/- Lists of entries in memory. -/
namespace Go.Proofs.YtjcbohbpkodkoaaGreatDoor
open Go.RowKit Go.Maps Num

def BoolPost (b : Bool) (w : World) (e : Ending) (w' : World) : Prop := e = .returned (.bool b) ∧ Below w.heap.size w w'
abbrev En : Type := Int × List UInt8 × List Ln
set_option synthInstance.maxHeartbeats 200000 in
set_option synthInstance.maxSize 1000 in
instance decEn : DecidableEq En := inferInstanceAs (DecidableEq (Int × List UInt8 × List Ln))
instance decEns : DecidableEq (List En) := fun a b => @instDecidableEqList En decEn a b
def en0 : En := (0, [], [])
/-- The slice value '.slice A n c' reads as the entries l in w. -/
structure Ens (w : World) (A : Option Addr) (n c : Nat) (l : List En) : Prop where
  len : l.length = n
  cap : n ≤ c
  top : c ≤ maxLen
  small : n ≤ 1000
  at_ : 0 < n → ∃ b o, A = some ⟨b, o, none⟩ ∧ b < w.heap.size ∧ ∀ k, k < n → w.cell? ⟨b, o + k * 3, none⟩ = some (.int .i64 (l.getD k en0).1) ∧ w.cell? ⟨b, o + k * 3 + 1, none⟩ = some (.string ⟨(l.getD k en0).2.1.toArray⟩) ∧
    ∃ A' n' c', w.cell? ⟨b, o + k * 3 + 2, none⟩ = some (.slice A' n' c') ∧ Lns w A' n' c' (l.getD k en0).2.2
theorem Ens.below {w w' : World} {A : Option Addr} {n c : Nat} {l : List En} (h : Ens w A n c l) (hb : Below w.heap.size w w') : Ens w' A n c l :=
  ⟨h.len, h.cap, h.top, h.small, fun h0 => by
    obtain ⟨b, o, e, hlt, hc⟩ := h.at_ h0
    refine ⟨b, o, e, Nat.lt_of_lt_of_le hlt hb.size, fun k hk => ?_⟩
    obtain ⟨c0, c1, A', n', c', c2, hl⟩ := hc k hk
    exact ⟨(hb.cell (p := ⟨b, o + k * 3, none⟩) hlt).trans c0, (hb.cell (p := ⟨b, o + k * 3 + 1, none⟩) hlt).trans c1, A', n', c', (hb.cell (p := ⟨b, o + k * 3 + 2, none⟩) hlt).trans c2, hl.below hb⟩⟩
theorem take_en (l : List En) (k : Nat) (h : k < l.length) : l.take (k + 1) = l.take k ++ [l.getD k en0] := by
  rw [List.take_succ_eq_append_getElem h, List.getD_eq_getElem?_getD, List.getElem?_eq_getElem h]; rfl
end Go.Proofs.YtjcbohbpkodkoaaGreatDoor

/- Rows of lines, entries, keys. -/
namespace Go.Proofs.YtjcbohbpkodkoaaGreatDoor
open Go.RowKit Go.Maps Num

abbrev rowL : Row Ln := ⟨38, 68, .agg #[.string ⟨#[]⟩, .string ⟨#[]⟩, .string ⟨#[]⟩], 3, 48, LV⟩
theorem rowL_ok : rowL.Ok where
  hS := Tryz.underlying38
  info := by kernel_rfl
  zc := rfl
  k0 := by decide
  b1 := by decide
  hk _ := rfl
  h1 x v hv := by
    simp only [LV, List.mem_cons, List.not_mem_nil, or_false] at hv
    rcases hv with rfl | rfl | rfl <;> rfl
/-- an entry as it lies, and as it reads -/
abbrev Raw := Int × List UInt8 × Option Addr × Nat × Nat
abbrev RE := Raw × En
def rawA (r : Raw) : Option Addr := r.2.2.1
def rawN (r : Raw) : Nat := r.2.2.2.1
def rawC (r : Raw) : Nat := r.2.2.2.2
def encE (p : RE) : List Value := [.int .i64 p.1.1, .string ⟨p.1.2.1.toArray⟩, .slice (rawA p.1) (rawN p.1) (rawC p.1)]
abbrev rowE : Row RE := ⟨81, 40, .agg #[.int .i64 0, .string ⟨#[]⟩, .slice none 0 0], 3, 48, encE⟩
theorem rowE_ok : rowE.Ok where
  hS := Tryz.underlying81
  info := by kernel_rfl
  zc := rfl
  k0 := by decide
  b1 := by decide
  hk _ := rfl
  h1 x v hv := by
    simp only [encE, List.mem_cons, List.not_mem_nil, or_false] at hv
    rcases hv with rfl | rfl | rfl <;> rfl
def encK (q : Ky) : List Value := [.string ⟨q.1.toArray⟩, .string ⟨q.2.toArray⟩]
abbrev rowK : Row Ky := ⟨173, 140, .agg #[.string ⟨#[]⟩, .string ⟨#[]⟩], 2, 32, encK⟩
theorem rowK_ok : rowK.Ok where
  hS := Tryz.underlying173
  info := by kernel_rfl
  zc := rfl
  k0 := by decide
  b1 := by decide
  hk _ := rfl
  h1 x v hv := by
    simp only [encK, List.mem_cons, List.not_mem_nil, or_false] at hv
    rcases hv with rfl | rfl <;> rfl
/-! lines -/
theorem Lns.rds {w : World} {A : Option Addr} {n c : Nat} {l : List Ln} (h : Lns w A n c l) : rowL.Rds w A n c l :=
  ⟨h.len, h.cap, h.top, fun h0 => by
    obtain ⟨b, o, e, hlt, hc⟩ := h.at_ h0
    refine ⟨b, o, e, hlt, fun j u hu => ?_⟩
    have hj := (List.getElem?_eq_some_iff.1 hu).1
    rw [Row.vs_len rowL_ok, h.len] at hj
    have hj2 : j / 3 < n := by have : j < n * 3 := hj; omega
    have e1 := Row.vs_at rowL_ok ln0 l (j / 3) (j % 3) (by rw [h.len]; exact hj2) (by show j % 3 < 3; omega)
    rw [show j / 3 * rowL.k + j % 3 = j by show j / 3 * 3 + j % 3 = j; omega, hu] at e1
    obtain ⟨c0, c1, c2⟩ := hc (j / 3) hj2
    have h3 : j % 3 < 3 := by omega
    generalize hq : j % 3 = q at *
    rw [show o + j = o + j / 3 * 3 + q by omega]
    rcases q with _ | _ | _ | q
    · rw [Nat.add_zero, c0]; exact e1.symm
    · rw [c1]; exact e1.symm
    · rw [c2]; exact e1.symm
    · omega⟩
theorem Lns.of_rds {w : World} {A : Option Addr} {n c : Nat} {l : List Ln} (h : rowL.Rds w A n c l) (hn : n ≤ 1000) (hs : ∀ x ∈ l, Sml x) : Lns w A n c l :=
  ⟨h.len, h.cap, h.top, hn, hs, fun h0 => by
    obtain ⟨b, o, rfl, hlt, _⟩ := h.at_ h0
    exact ⟨b, o, rfl, hlt, fun k hk => ⟨h.cell rowL_ok ln0 k 0 _ hk rfl, h.cell rowL_ok ln0 k 1 _ hk rfl, h.cell rowL_ok ln0 k 2 _ hk rfl⟩⟩⟩
/-! entries -/
/-- what the entry reads as -/
def RdE (w : World) (p : RE) : Prop := p.1.1 = p.2.1 ∧ p.1.2.1 = p.2.2.1 ∧ Lns w (rawA p.1) (rawN p.1) (rawC p.1) p.2.2.2
theorem RdE.below {w w' : World} {p : RE} (h : RdE w p) (hb : Below w.heap.size w w') : RdE w' p := ⟨h.1, h.2.1, h.2.2.below hb⟩
def re0 : RE := ((0, [], none, 0, 0), en0)
/-- the slice reads as the entries -/
structure Res (w : World) (A : Option Addr) (n c : Nat) (ps : List RE) : Prop where
  rds : rowE.Rds w A n c ps
  all : ∀ p ∈ ps, RdE w p
theorem Res.below {w w' : World} {A : Option Addr} {n c : Nat} {ps : List RE} (h : Res w A n c ps) (hb : Below w.heap.size w w') : Res w' A n c ps :=
  ⟨h.rds.below hb, fun p hp => (h.all p hp).below hb⟩
theorem Ens.res {w : World} {A : Option Addr} {n c : Nat} {l : List En} (h : Ens w A n c l) : ∃ ps : List RE, ps.map Prod.snd = l ∧ Res w A n c ps := by
  by_cases h0 : 0 < n
  case neg =>
    have hl : l = [] := List.eq_nil_of_length_eq_zero (by rw [h.len]; omega)
    subst hl
    exact ⟨[], rfl, ⟨h.len, h.cap, h.top, fun hh => absurd hh h0⟩, fun p hp => by cases hp⟩
  obtain ⟨b, o, rfl, hlt, hc⟩ := h.at_ h0
  have hx : ∀ k, ∃ t : Option Addr × Nat × Nat, k < n → w.cell? ⟨b, o + k * 3 + 2, none⟩ = some (.slice t.1 t.2.1 t.2.2) ∧ Lns w t.1 t.2.1 t.2.2 (l.getD k en0).2.2 := by
    intro k
    by_cases hk : k < n
    · obtain ⟨_, _, A', n', c', c2, hl⟩ := hc k hk
      exact ⟨(A', n', c'), fun _ => ⟨c2, hl⟩⟩
    · exact ⟨(none, 0, 0), fun h => absurd h hk⟩
  obtain ⟨f, hf⟩ := Classical.axiomOfChoice hx
  have hlen := h.len
  refine ⟨(List.range n).map fun k => (((l.getD k en0).1, (l.getD k en0).2.1, f k), l.getD k en0), ?_, ⟨by simp, h.cap, h.top, fun _ => ⟨b, o, rfl, hlt, fun j u hu => ?_⟩⟩, fun p hp => ?_⟩
  · rw [List.map_map]
    refine List.ext_getElem (by simp [hlen]) fun k h1 h2 => ?_
    simp [h2]
  · have hj := (List.getElem?_eq_some_iff.1 hu).1
    rw [Row.vs_len rowE_ok, List.length_map, List.length_range] at hj
    have hj2 : j / 3 < n := by have : j < n * 3 := hj; omega
    have e1 := Row.vs_at rowE_ok re0 ((List.range n).map fun k => (((l.getD k en0).1, (l.getD k en0).2.1, f k), l.getD k en0)) (j / 3) (j % 3) (by simpa using hj2) (by show j % 3 < 3; omega)
    rw [show j / 3 * rowE.k + j % 3 = j by show j / 3 * 3 + j % 3 = j; omega, hu] at e1
    have e2 : ((List.range n).map fun k => (((l.getD k en0).1, (l.getD k en0).2.1, f k), l.getD k en0)).getD (j / 3) re0 = (((l.getD (j / 3) en0).1, (l.getD (j / 3) en0).2.1, f (j / 3)), l.getD (j / 3) en0) := by
      rw [List.getD_eq_getElem?_getD, List.getElem?_map, List.getElem?_range hj2]; rfl
    rw [e2] at e1
    obtain ⟨c0, c1, _⟩ := hc (j / 3) hj2
    have c2 := (hf (j / 3) hj2).1
    have h3 : j % 3 < 3 := by omega
    generalize hq : j % 3 = q at *
    rw [show o + j = o + j / 3 * 3 + q by omega]
    rcases q with _ | _ | _ | q
    · rw [Nat.add_zero, c0]; exact e1.symm
    · rw [c1]; exact e1.symm
    · rw [c2]; exact e1.symm
    · omega
  · obtain ⟨k, hk, rfl⟩ := List.mem_map.1 hp
    exact ⟨rfl, rfl, (hf k (List.mem_range.1 hk)).2⟩
theorem Res.ens {w : World} {A : Option Addr} {n c : Nat} {ps : List RE} (h : Res w A n c ps) (hn : n ≤ 1000) : Ens w A n c (ps.map Prod.snd) :=
  ⟨by rw [List.length_map]; exact h.rds.len, h.rds.cap, h.rds.top, hn, fun h0 => by
    obtain ⟨b, o, rfl, hlt, _⟩ := h.rds.at_ h0
    refine ⟨b, o, rfl, hlt, fun k hk => ?_⟩
    have hk2 : k < ps.length := by rw [h.rds.len]; exact hk
    have e : (ps.map Prod.snd).getD k en0 = (ps.getD k re0).2 := by
      rw [List.getD_eq_getElem?_getD, List.getElem?_map, List.getD_eq_getElem?_getD, List.getElem?_eq_getElem hk2]; rfl
    have hm : ps.getD k re0 ∈ ps := by
      rw [List.getD_eq_getElem?_getD, List.getElem?_eq_getElem hk2]
      exact List.getElem_mem hk2
    obtain ⟨r1, r2, r3⟩ := h.all _ hm
    have c0 := h.rds.cell rowE_ok re0 k 0 _ hk rfl
    have c1 := h.rds.cell rowE_ok re0 k 1 _ hk rfl
    have c2 := h.rds.cell rowE_ok re0 k 2 _ hk rfl
    rw [e, ← r1, ← r2]
    exact ⟨c0, c1, _, _, _, c2, r3⟩⟩
theorem rds_cells3 {w : World} {b o n c : Nat} {ps : List RE} (h : rowE.Rds w (some ⟨b, o, none⟩) n c ps) (k : Nat) (hk : k < n) :
    w.cell? ⟨b, o + k * 3, none⟩ = some (.int .i64 (ps.getD k re0).1.1) ∧ w.cell? ⟨b, o + k * 3 + 1, none⟩ = some (.string ⟨(ps.getD k re0).1.2.1.toArray⟩) ∧ w.cell? ⟨b, o + k * 3 + 2, none⟩ = some (.slice (ps.getD k re0).1.2.2.1 (ps.getD k re0).1.2.2.2.1 (ps.getD k re0).1.2.2.2.2) :=
  ⟨h.cell rowE_ok re0 k 0 _ hk rfl, h.cell rowE_ok re0 k 1 _ hk rfl, h.cell rowE_ok re0 k 2 _ hk rfl⟩
theorem own_cells3 {w : World} {B g n cap : Nat} {ps : List RE} (h : rowE.Own B w (.slice (some ⟨g, 0, none⟩) n cap) ps) (k : Nat) (hk : k < n) :
    w.cell? ⟨g, k * 3, none⟩ = some (.int .i64 (ps.getD k re0).1.1) ∧ w.cell? ⟨g, k * 3 + 1, none⟩ = some (.string ⟨(ps.getD k re0).1.2.1.toArray⟩) ∧ w.cell? ⟨g, k * 3 + 2, none⟩ = some (.slice (ps.getD k re0).1.2.2.1 (ps.getD k re0).1.2.2.2.1 (ps.getD k re0).1.2.2.2.2) := by
  obtain ⟨A, c, e, hr⟩ := h.rds
  injection e with e1 e2 e3
  subst e1 e2 e3
  have := rds_cells3 hr k hk
  simpa only [Nat.zero_add] using this
theorem own_len {w : World} {B g n cap : Nat} {ps : List RE} (h : rowE.Own B w (.slice (some ⟨g, 0, none⟩) n cap) ps) : ps.length = n := by
  obtain ⟨A, c, e, hr⟩ := h.rds
  injection e with e1 e2 e3
  exact e2.symm
end Go.Proofs.YtjcbohbpkodkoaaGreatDoor

/- Keys of Normal's map: accounts in currencies. -/
namespace Go.Proofs.YtjcbohbpkodkoaaGreatDoor
open Go.RowKit Go.Maps Num
theorem laidOut : laidOutB Tryz.prog = true := by kernel_rfl
theorem row75 : 140 < Tryz.prog.types.size := of_decide_eq_true (by kernel_rfl)
theorem wide75 : (match Tryz.prog.underlying 140 with | some (.array _ _) | some (.struct _) => true | _ => false) = true := by rw [Tryz.underlying140]
set_option maxRecDepth 100000 in
theorem keyed75 : Keyed Tryz.prog 140 := Keyed.of_law (deep_law_laid laidOut (m := 2) (by omega) row75 (by kernel_rfl) wide75)
theorem cells75 : Tryz.prog.cellsOf 140 = 2 := by kernel_rfl
theorem cells9 : Tryz.prog.cellsOf 9 = 1 := by kernel_rfl
theorem kt75 : Tryz.prog.keyType 140 = true := by kernel_rfl
set_option maxRecDepth 100000 in
theorem lits9 (d : Nat) (s : List UInt8) (hs : s.length ≤ 100000) : Tryz.prog.keyLits (d + 1) 9 [.string ⟨s.toArray⟩] = some [.string s] := by
  have : (⟨s.toArray⟩ : ByteArray).size ≤ maxLen := by unfold maxLen; show s.length ≤ _; omega
  unfold Program.keyLits
  rw [Tryz.underlying9]
  simp [this]
set_option maxRecDepth 100000 in
theorem lits75 (d : Nat) (a c : List UInt8) (ha : a.length ≤ 100000) (hc : c.length ≤ 100000) : Tryz.prog.keyLits (d + 2) 140 [.string ⟨a.toArray⟩, .string ⟨c.toArray⟩] = some [.string a, .string c] := by
  unfold Program.keyLits
  rw [Tryz.underlying140]
  simp [cells75, cells9, lits9, ha, hc]
/-- how the map tells a key -/
def kb (q : Ky) : List UInt8 := keyBytes [.string q.1, .string q.2]
set_option maxRecDepth 100000 in
theorem key75 (a c : List UInt8) (ha : a.length ≤ 100000) (hc : c.length ≤ 100000) : keyOf Tryz.prog 140 (.agg #[.string ⟨a.toArray⟩, .string ⟨c.toArray⟩]) = some (.string (kb (a, c))) := by
  obtain ⟨d, hd⟩ : ∃ d, Tryz.prog.types.size + 1 = d + 2 := ⟨Tryz.prog.types.size - 1, by have := row75; omega⟩
  have hf : (Value.agg #[.string ⟨a.toArray⟩, .string ⟨c.toArray⟩]).formed Tryz.prog 140 = true := by simp [Value.formed, Tryz.underlying140, cells75]
  have hc' : (Value.agg #[.string ⟨a.toArray⟩, .string ⟨c.toArray⟩]).cells.toList = [.string ⟨a.toArray⟩, .string ⟨c.toArray⟩] := by simp [Value.cells]
  unfold keyOf
  rw [Tryz.underlying140]
  simp only
  rw [kt75, hf, hc', hd, lits75 d a c ha hc]
  rfl
theorem kb_inj {a c a' c' : List UInt8} (h1 : a.length ≤ 100000) (h2 : c.length ≤ 100000) (h3 : a'.length ≤ 100000) (h4 : c'.length ≤ 100000) (h : kb (a, c) = kb (a', c')) : (a, c) = (a', c') := by
  have e := keyed75.inj (key75 a c h1 h2) (by rw [h]; exact key75 a' c' h3 h4)
  simpa using e
end Go.Proofs.YtjcbohbpkodkoaaGreatDoor

/- Contracts of maps.Keys at the map of sums, its iterator, slices.AppendSeq and Collect at keys. -/
namespace Go.Proofs.YtjcbohbpkodkoaaGreatDoor
open Go.RowKit Go.Maps Go.Shelf Num
attribute [local go_sem] Oper.semAt_some

theorem encK_inj {p q : Ky} (h : Value.agg (encK p).toArray = .agg (encK q).toArray) : p = q := by
  obtain ⟨p1, p2⟩ := p
  obtain ⟨q1, q2⟩ := q
  simp [encK] at h
  rw [h.1, h.2]
set_option maxRecDepth 100000 in
theorem lits9_inv {d : Nat} {x : Value} {z : List Lit} (h : Tryz.prog.keyLits (d + 1) 9 [x] = some z) : ∃ s : List UInt8, x = .string ⟨s.toArray⟩ ∧ z = [.string s] := by
  unfold Program.keyLits at h
  rw [Tryz.underlying9] at h
  cases x with
  | string s =>
    simp only at h
    split at h
    · exact ⟨s.data.toList, rfl, (Option.some.inj h).symm⟩
    · cases h
  | _ => simp at h
set_option maxRecDepth 100000 in
theorem key75_inv {v : Value} {kl : Lit} (h : keyOf Tryz.prog 140 v = some kl) : ∃ q : Ky, v = .agg (encK q).toArray ∧ kl = .string (kb q) := by
  obtain ⟨d, hd⟩ : ∃ d, Tryz.prog.types.size + 1 = d + 2 := ⟨Tryz.prog.types.size - 1, by have := row75; omega⟩
  unfold keyOf at h
  rw [Tryz.underlying140] at h
  simp only at h
  rw [kt75] at h
  split at h
  case isFalse => cases h
  rename_i hf
  rw [Bool.true_and] at hf
  cases v with
  | agg cs =>
    simp only [Value.formed, Tryz.underlying140, cells75, beq_iff_eq] at hf
    obtain ⟨x, y, e⟩ : ∃ x y, cs = #[x, y] := by
      match cs, hf with
      | ⟨[x, y]⟩, _ => exact ⟨x, y, rfl⟩
    subst e
    have hc : (Value.agg #[x, y]).cells.toList = [x, y] := by simp [Value.cells]
    rw [hd, hc] at h
    cases hl : Tryz.prog.keyLits (d + 2) 140 [x, y] with
    | none => rw [hl] at h; cases h
    | some ls =>
      rw [hl] at h
      unfold Program.keyLits at hl
      rw [Tryz.underlying140] at hl
      simp [cells75, cells9] at hl
      cases h1 : Tryz.prog.keyLits (d + 1) 9 [x] with
      | none => rw [h1] at hl; cases hl
      | some a =>
        cases h2 : Tryz.prog.keyLits (d + 1) 9 [y] with
        | none => rw [h1, h2] at hl; cases hl
        | some b =>
          rw [h1, h2] at hl
          obtain ⟨s1, rfl, rfl⟩ := lits9_inv h1
          obtain ⟨s2, rfl, rfl⟩ := lits9_inv h2
          have e1 := Option.some.inj hl
          have e2 := Option.some.inj h
          exact ⟨(s1, s2), rfl, by rw [← e2, ← e1]; rfl⟩
  | _ => simp [Value.formed, Tryz.underlying140] at hf
/-- the keys met so far: no one twice; a key is there just where the map has it and it is no longer to come -/
def ColK (D : DataW Nat) (left : Lit → Bool) (ss : List Ky) : Prop := (ss.map kb).Nodup ∧ (∀ k, k ∈ ss.map kb ↔ (has D (.string k) = true ∧ left (.string k) = false)) ∧ ∀ q ∈ ss, keyOf Tryz.prog 140 (.agg (encK q).toArray) = some (.string (kb q))
theorem ColK.start (D : DataW Nat) : ColK D (has D) [] := ⟨List.nodup_nil, fun k => by cases has D (.string k) <;> simp, fun q hq => by cases hq⟩
theorem ColK.step {D : DataW Nat} {left : Lit → Bool} {ss : List Ky} (h : ColK D left ss) {q : Ky} {y : DataW Nat} (hky : keyOf Tryz.prog 140 (.agg (encK q).toArray) = some (.string (kb q))) (hlk : left (.string (kb q)) = true) (hat : ∀ zd, D.atKey (.string (kb q)) zd = y) : ColK D (fun z => left z && !z.sameKey (.string (kb q))) (ss ++ [q]) := by
  have hhas : has D (.string (kb q)) = true := has_true_of_atKey hat
  have hnew : kb q ∉ ss.map kb := fun hx => by have := ((h.2.1 (kb q)).1 hx).2; rw [hlk] at this; cases this
  rw [ColK, List.map_append]
  refine ⟨List.nodup_append.2 ⟨h.1, by simp, fun a ha b hb => by simp at hb; subst hb; exact fun e => hnew (e ▸ ha)⟩, fun y => ?_, fun p hp => ?_⟩
  · by_cases hy : y = kb q
    · subst hy; simp [hhas, Lit.sameKey]
    · rw [List.mem_append, h.2.1 y]; simp [hy, Lit.sameKey]
  · rcases List.mem_append.1 hp with hp | hp
    · exact h.2.2 p hp
    · rw [List.mem_singleton.1 hp]; exact hky
/-- what the iterator gave: each key of the map once -/
def KeysD (D : DataW Nat) (ss : List Ky) : Prop := (ss.map kb).Nodup ∧ (∀ k, k ∈ ss.map kb ↔ has D (.string k) = true) ∧ ss.length ≤ Maps.size D ∧ ∀ q ∈ ss, keyOf Tryz.prog 140 (.agg (encK q).toArray) = some (.string (kb q))
set_option maxRecDepth 100000 in
set_option maxHeartbeats 2000000 in
theorem keys_in (d : Nat) (hd : 1 ≤ d) (l Bm b nn : Nat) (D : DataW Nat) (J Jx : List Ky → World → Prop)
    (hY : ∀ pre x W, J pre W → pre.length < Maps.size D → YieldAt Fence.wide (d - 1) Tryz.prog l #[.agg (encK x).toArray] W fun e W' =>
      (e = .returned (.bool true) ∧ J (pre ++ [x]) W' ∧ KeepsWalks W W') ∨ (e = .returned (.bool false) ∧ Jx (pre ++ [x]) W'))
    (W : World) (hJ : AbidesFrom W.heap.size J) (hm : W.cell? ⟨Bm, 0, none⟩ = some (.map (some b))) (hown : W.ownsMap Tryz.prog 140 (plainElem Tryz.prog 46) b nn D) (h0 : J [] W) :
    CallsIn Fence.wide d Tryz.prog 173 #[.func (.yield l) #[] #[], .pointer (some ⟨Bm, 0, none⟩)] W fun e W' => (∃ v, e = .returned v) ∧ ((∃ ss : List Ky, KeysD D ss ∧ J ss W') ∨ (∃ pre : List Ky, True ∧ Jx pre W')) := by
  refine callsIn_of_wp Tryz.func173 rfl trivial ?_ rfl
  simp only [Tryz.ntmps173, List.size_toArray, List.length_cons, List.length_nil, Nat.reduceAdd, Nat.reduceSub, Array.replicate_succ, Array.replicate_zero, List.push_toArray, List.append_toArray, List.nil_append, List.cons_append]
  gi_wp2_with (first
    | (gi_at_range; refine wpListIn_range_own _ rfl _ 137 rfl 140 46 keyed75 Tryz.underlying137 _ b nn _ rfl hown ?_; intro w0 hrg0 hg0 hs0)
    | gi_in)
  go_frame
  gi_loopw [3] (fun _ wr => ∃ (left : Lit → Bool) (cnt : Nat) (ss : List Ky), wr.ranges Tryz.prog 140 (plainElem Tryz.prog 46) b W.heap.size nn D left cnt ∧ ss.length + cnt ≤ Maps.size D ∧ ColK D left ss ∧ J ss wr ∧ W.heap.size < wr.heap.size)
    (fun _ wr => wr.rangeLeft b W.heap.size)
  case atStart =>
    exact ⟨_, _, [], hrg0, by simp, ColK.start D, hJ [] W w0 none h0 hg0 (fun r e => by cases e), by omega⟩
  case round =>
    obtain ⟨left, cnt, ss, hrg, hcs, hC, hJs, hlt0⟩ := hrel
    gi_wp2_with (first
      | (gi_at_next; refine wpListIn_next_ranges _ rfl _ rfl 140 keyed75 (plainElem Tryz.prog 46) (fun q : Ky => Value.agg (encK q).toArray) Value.string (fun key kl hk => by obtain ⟨q, hq, _⟩ := key75_inv hk; exact ⟨q, hq⟩) (fun v y hv => by obtain ⟨c, rfl, _⟩ := plain_str_inv hv; exact ⟨c, rfl⟩) b W.heap.size nn _ _ _ rfl hrg ?_ ?_)
      | gi_in)
    · intro hc0 hl0
      gi_wp2
      go_end0
      exact ⟨⟨_, rfl⟩, .inl ⟨ss, ⟨hC.1, fun k => by rw [hC.2.1 k, hl0]; simp, by omega, hC.2.2⟩, hJs⟩⟩
    · intro xa xc c kl yd yp w2 cnt2 hkey hlk hv hat hrg2 hlt hg2 hs2 hen
      obtain ⟨x, hx⟩ : ∃ x : Ky, x = (xa, xc) := ⟨_, rfl⟩
      rw [← hx] at hkey hen ⊢
      obtain ⟨x', ex, rfl⟩ := key75_inv hkey
      obtain rfl : x = x' := encK_inj ex
      have hJ2 : J ss w2 := hJ ss wr w2 (some W.heap.size) hJs hg2 (fun r e => by cases e; exact ⟨Nat.le_refl _, hrg.iter_walk⟩)
      have hJ3 : J ss (w2.alloc (.cells (encK x).toArray 140)) := hJ ss w2 _ none hJ2 (World.grownBy_alloc _ _ _) (fun r e => by cases e)
      obtain ⟨fn, tmps, assign, body, hy, hR⟩ := hY ss x (w2.alloc (.cells (encK x).toArray 140)) hJ3 (by omega)
      have hrg3 := hrg2.of_walks (KeepsWalks.alloc w2 (.cells (encK x).toArray 140))
      have hC2 := hC.step hkey hlk hat
      have hsz : W.heap.size < (w2.alloc (.cells (encK x).toArray 140)).heap.size := by simp; omega
      have hme := hrg.left_eq
      clear hs2 hC hJ2 hJ3 hkey
      subst hx
      simp only [encK] at *
      gi_wp2
      refine hR.mono ?_
      rintro e W3 (⟨rfl, hJ3, hk3⟩ | ⟨rfl, hJx3⟩)
      · gi_wp2
        have hrg4 := hrg3.of_walks hk3
        go_roundw
        case rel => exact ⟨_, cnt2, ss ++ [(xa, xc)], hrg4, by simp; omega, hC2, hJ3, Nat.lt_of_lt_of_le hsz hk3.size⟩
        case measure => rw [hrg4.left_eq, hme]; exact hlt
      · gi_wp2
        refine bodyPost_ret (results_none rfl _ _ _) rfl ?_
        exact ⟨⟨_, rfl⟩, .inr ⟨ss ++ [(xa, xc)], trivial, hJx3⟩⟩
theorem keys_stops (d : Nat) (hd : 1 ≤ d) (Bm b nn : Nat) (D : DataW Nat) (w : World) (hBm : Bm < w.heap.size) (hm : w.cell? ⟨Bm, 0, none⟩ = some (.map (some b))) (hown : w.ownsMap Tryz.prog 140 (plainElem Tryz.prog 46) b nn D) :
    SeqStopsK Fence.wide d Tryz.prog 173 #[.pointer (some ⟨Bm, 0, none⟩)] (fun q : Ky => #[Value.agg (encK q).toArray]) KeepsWalks (KeysD D) (fun _ => True) (Maps.size D) w := fun l J Jx W hW hJ _ hY h0 => by
  have hown' : W.ownsMap Tryz.prog 140 (plainElem Tryz.prog 46) b nn D := hown.kept (grown_of_below hW) (by simp)
  exact keys_in d hd l Bm b nn D J Jx hY W hJ ((hW.cell (p := ⟨Bm, 0, none⟩) hBm).trans hm) hown' h0
theorem Keys_any (b : Nat) (w : World) : Calls Tryz.prog 134 #[.map (some b)] w fun e w' => e = .returned (.func (.func 173) #[] #[.pointer (some ⟨w.heap.size, 0, none⟩)]) ∧ w' = w.alloc (.cells #[.map (some b)] 137) := by
  go_enter Tryz.func134, Tryz.ntmps134
  go_wp2
  go_ret
  exact ⟨rfl, rfl⟩
/-- what the collecting loop keeps: the slice in its box -/
structure CoI (w : World) (pre : List Ky) (W : World) : Prop where
  box : ∃ v, Boxed W w.heap.size 173 v ∧ rowK.Own w.heap.size W v pre
  bel : Below w.heap.size w W
theorem own_ne {α : Type} {R : Row α} {B : Nat} {W : World} {v : Value} {l : List α} (h : R.Own B W v l) {row : Option Nat} (hr : ∀ r, row = some r → ∃ o : Obj, W.heap[r]? = some o ∧ o.isCells = false) : v.ownBlock = none ∨ v.ownBlock ≠ row := by
  rcases h.2 with ⟨rfl, _⟩ | ⟨g, cap, cur, rfl, _, hg, _⟩
  · exact .inl rfl
  · refine .inr fun e => ?_
    obtain ⟨o, ho, hc⟩ := hr g e.symm
    rw [hg] at ho; cases ho; cases hc
theorem CoI.own (w : World) (B : Nat) (hB : w.heap.size < B) : OwnFrom B (CoI w) := fun s A C row hs hg hr => by
  obtain ⟨v, hb, ho⟩ := hs.box
  refine ⟨⟨v, hb.kept hg (fun e => ?_), ho.kept' hg (own_ne ho fun r e => (hr r e).2)⟩, hs.bel.grown hg hs.bel.size (fun k e => by have := (hr k e).1; omega)⟩
  obtain ⟨o, h1, h2⟩ := (hr _ e.symm).2
  have h3 : A.heap[w.heap.size]? = some (.cells #[v] 173 (0, 0)) := hb
  rw [h3] at h1; cases h1; cases h2
/-- the round's variable lies in a block of its own -/
def CoA (w : World) (tm : Value → Value → Array Value) (x : Ky) (a : Act) (W : World) : Prop :=
  ∃ b, w.heap.size < b ∧ W.heap[b]? = some (.cells (encK x).toArray 140 (0, 0)) ∧ a = { tmps := tm (.pointer (some ⟨b, 0, none⟩)) (.agg (encK x).toArray), defers := [] }
theorem CoA.own (w : World) (tm : Value → Value → Array Value) (x : Ky) (a : Act) (B : Nat) : OwnFrom B (fun (_ : Unit) W => CoA w tm x a W) := fun s A C row hs hg hr => by
  obtain ⟨b, h1, h2, h3⟩ := hs
  refine ⟨b, h1, ?_, h3⟩
  rw [hg.block b (Array.getElem?_eq_some_iff.1 h2).1 (fun e => ?_)]
  · exact h2
  · obtain ⟨o, h4, h5⟩ := (hr _ e.symm).2
    rw [h2] at h4; cases h4; cases h5
theorem boxed_setCell {W : World} {B : Nat} {t : TypeId} {v : Value} (h : Boxed W B t v) (v' : Value) : Boxed (W.setCell ⟨B, 0, none⟩ v') B t v' := h.set v'
theorem wpIn_append1 {α : Type} {R : Row α} (ok : R.Ok) {F : Fence} {nF : Nat} {ops : Array Oper} {rest : List Oper} {o : Oper} {a : Act} {Q : Exit → Act → World → Prop} (hgd : o.guard = none) (s t : Operand)
    (ho : o.op = .call { callee := .builtin .append, args := #[s, t], argTypes := #[R.S, R.S] })
    (B : Nat) (v : Value) (ns : List α) (w : World) (x : α) (cs : Array Value) (E' : TypeId) (hcs : cs = (R.enc x).toArray) (hE : E' = R.E) (hs : a.eval s = v) (hown : R.Own B w v ns) (hx : a.eval t = .slice (some ⟨w.heap.size, 0, none⟩) 1 1)
    (hB : B ≤ w.heap.size) (hn : ns.length + 1 ≤ 1000000)
    (h : ∀ v' w', R.Own B w' v' (ns ++ [x]) → (w.alloc (.cells cs E')).grownBy w' v.ownBlock → wpListIn F nF Tryz.prog ops Q rest (a.put o.dst v') w') : wpListIn F nF Tryz.prog ops Q (o :: rest) a (w.alloc (.cells cs E')) := by
  refine wpListIn_plain hgd fun K hK => ?_
  subst hcs hE
  obtain ⟨v', w', hr, h2, h3, h5⟩ := Row.run_append ok B o.type v ns (w.alloc (.cells (R.enc x).toArray R.E)) _ 1 1 [x] (hown.alloc _) (Row.rds_one ok w x R.E) (by simp; omega) hn
  unfold Oper.wpIn
  refine ⟨by simp [Oper.about, ho, resolve, Target.leads, Sem.run_pure], ?_⟩
  rw [Oper.semAt_plain F _ _ (by rw [ho]; intro c hc'; cases hc')]
  simp [execOp, ho, resolve, invoke, builtin, hs, hx, hr, Result.andThen]
  exact hK _ _ (h v' w' h2 h3)
set_option maxRecDepth 100000 in
set_option maxHeartbeats 4000000 in
theorem appSeq_in (d : Nat) (hd : 3 ≤ d) (gf : Nat) (lb : Array Value) (S : List Ky → Prop) (N : Nat) (hN : N ≤ 10000) (w : World) (eg : ∀ args w, (callFunc gf args).run Tryz.prog w = .ok (.enter gf args) w)
    (hseq : SeqStopsK Fence.wide (d - 1) Tryz.prog gf lb (fun q : Ky => #[Value.agg (encK q).toArray]) KeepsWalks S (fun _ => True) N w) (_hS : ∀ ss, S ss → ss.length ≤ N) :
    CallsIn Fence.wide d Tryz.prog 198 #[.slice none 0 0, .func (.func gf) #[] lb] w fun e w' => ∃ v ss, e = .returned v ∧ S ss ∧ rowK.Own w.heap.size w' v ss ∧ Below w.heap.size w w' := by
  refine callsIn_of_wp_marks Tryz.func198 rfl trivial ?_ rfl
  simp only [Tryz.ntmps198, List.size_toArray, List.length_cons, List.length_nil, Nat.reduceAdd, Nat.reduceSub, Array.replicate_succ, Array.replicate_zero, List.push_toArray, List.append_toArray, List.nil_append, List.cons_append]
  gi_wp2
  have hb0 : Below w.heap.size w (w.alloc (.cells #[.slice none 0 0] 173)) := (Below.refl _ w).alloc (Nat.le_refl _) _
  refine wpIn_rangeFunc_ownH rfl (by omega) (gf := gf) (lb := lb) rfl trivial eg hseq (fun h k => h.trans k) (fun W l o o' _ hl ho hw => KeepsWalks.putObj _ hl hw) hb0 (fun _ => rfl)
    (CoI w) (fun _ _ _ => False) (CoI.own w _ (by simp)) (fun _ _ _ _ _ hs _ _ => hs) ⟨⟨_, Boxed.new w 173 (.slice none 0 0), Row.Own.nil _ _⟩, hb0⟩
    (CoA w (fun p v => #[.slice none 0 0, .func (.func gf) #[] lb, .pointer (some ⟨w.heap.size, 0, none⟩), undef, .slice none 0 0, p, .func (.func gf) #[] lb, v, undef, undef, undef, undef, undef])) (fun x a' => CoA.own w _ x a' _) ?assign ?body ?done ?stop
  case assign =>
    intro l pre x W K hI hK
    obtain ⟨xa, xc⟩ := x
    simp only [encK] at *
    gi_wp2
    obtain ⟨v, hv, ho⟩ := hI.box
    have hlt := hv.lt
    have hB := hI.bel
    exact hK _ _ ((KeepsOthers.alloc _ _).from _) (KeepsWalks.alloc _ _) ⟨⟨v, hv.alloc _, ho.alloc _⟩, hB.alloc hB.size _⟩ ⟨W.heap.size, hlt, World.alloc_heap_new W _, rfl⟩
  case body =>
    rintro l pre x a' W hl ⟨r, hr⟩ hI ⟨bx, hbx1, hbx2, rfl⟩ hlen
    obtain ⟨v, hv, ho⟩ := hI.box
    have HB := Lib.hid hI.bel
    have HO := Lib.hid ho
    have HV := Lib.hid hv
    have hc := hv.cell
    have hf := hv.frozen
    have hlt := hv.lt
    obtain ⟨xa, xc⟩ := x
    simp only [encK] at *
    have c0 : W.cell? ⟨bx, 0, none⟩ = some (.string ⟨xa.toArray⟩) := by rw [cell_of_row _ _ _ _ _ _ hbx2]; rfl
    have c1 : W.cell? ⟨bx, 1, none⟩ = some (.string ⟨xc.toArray⟩) := by rw [cell_of_row _ _ _ _ _ _ hbx2]; rfl
    clear hI hv ho hbx2
    gi_wp2_with (first
      | (gi_at_builtin; refine wpIn_append1 rowK_ok rfl (.tmp 8) (.tmp 10) rfl w.heap.size _ pre W (xa, xc) _ _ rfl rfl rfl HO.out rfl HB.out.size (by omega) ?_; intro v1 w5 ho5 hg5; obtain ⟨A5, c5, rfl⟩ := ho5.slice; obtain ⟨k1, k2, k3, k4, k5⟩ := HV.out.appended (by decide) HO.out HB.out.size (Nat.le_refl _) ho5 hg5; have hc5 := k1.cell; have hf5 := k1.frozen)
      | gi_in)
    have e : (pre ++ [(xa, xc)]).length = pre.length + 1 := by simp
    rw [e] at k2 k3 k4 k5
    have o3 : rowK.Own w.heap.size (w5.setCell ⟨w.heap.size, 0, none⟩ (.slice A5 (pre.length + 1) c5)) (.slice A5 (pre.length + 1) c5) (pre ++ [(xa, xc)]) := by unfold Row.Own; rw [e]; exact k3
    exact ⟨k4.from _, ⟨k4.size, fun k o hk ho => k4.same k o hk (by cases o <;> first | rfl | cases ho)⟩, ⟨⟨_, k2, o3⟩, HB.out.trans k5⟩⟩
  case done =>
    rintro D ys W hD hys hI hK
    obtain ⟨v, hv, ho⟩ := hI.box
    have hB := Lib.hid hI.bel
    have c0 := hv.cell
    have hD2 : w.heap.size < D := by simp at hD; omega
    have HO := Lib.hid (ho.kept' (grownBy_putObj' W D (.deferred none)) (own_ne ho fun r e => by cases e; exact ⟨_, hK, rfl⟩))
    clear hv ho hI
    gi_wp2
    refine ⟨by simp, .inl ⟨_, _, rfl, run_takeDeferred hK, ?_⟩⟩
    exact ⟨_, results_tmp rfl _ _ _, v, ys, rfl, hys, HO.out, hB.out.trans (belowK_b (w := w) (Nat.le_refl _) W D _ _ (by omega) hK rfl rfl)⟩
  case stop =>
    rintro D c pre W _ _ h _
    exact h.elim
set_option maxRecDepth 100000 in
theorem collect_in (d : Nat) (hd : 4 ≤ d) (gf : Nat) (lb : Array Value) (S : List Ky → Prop) (N : Nat) (hN : N ≤ 10000) (w : World) (eg : ∀ args w, (callFunc gf args).run Tryz.prog w = .ok (.enter gf args) w)
    (hseq : SeqStopsK Fence.wide (d - 1 - 1) Tryz.prog gf lb (fun q : Ky => #[Value.agg (encK q).toArray]) KeepsWalks S (fun _ => True) N w) (hS : ∀ ss, S ss → ss.length ≤ N) :
    CallsIn Fence.wide d Tryz.prog 171 #[.func (.func gf) #[] lb] w fun e w' => ∃ v ss, e = .returned v ∧ S ss ∧ rowK.Own w.heap.size w' v ss ∧ Below w.heap.size w w' := by
  have HA := Lib.hid (appSeq_in (d - 1) (by omega) gf lb S N hN w eg hseq hS)
  clear hseq
  refine callsIn_of_wp Tryz.func171 rfl trivial ?_ rfl
  simp only [Tryz.ntmps171, List.size_toArray, List.length_cons, List.length_nil, Nat.reduceAdd, Nat.reduceSub, Array.replicate_succ, Array.replicate_zero, List.push_toArray, List.append_toArray, List.nil_append, List.cons_append]
  gi_wp2_with (refine ⟨trivial, fun h => (by cases h), ?_⟩; refine HA.out.mono ?_; rintro e w' ⟨v, ss, rfl, hs, ho, hb⟩; have HO := Lib.hid ho; have HB := Lib.hid hb; clear ho hb)
  go_ret
  exact ⟨v, ss, rfl, hs, HO.out, HB.out⟩
end Go.Proofs.YtjcbohbpkodkoaaGreatDoor

/- slices.SortFunc at keys: laid by the kit. -/
namespace Go.Proofs
open Go.Shelf
def Tryz.laysSortK_ren : Go.Shelf.Ren := ⟨fun | 6 => 172 | 15 => 200 | 14 => 199 | 28 => 226 | 29 => 180 | 20 => 218 | 21 => 219 | 22 => 220 | 23 => 221 | 24 => 222 | 25 => 223 | 26 => 224 | 27 => 225 | 46 => 233 | 47 => 234 | 48 => 235 | 49 => 236 | 50 => 237 | 57 => 243 | n => n, fun | 22 => 173 | 24 => 140 | 25 => 172 | 3 => 3 | 39 => 128 | 0 => 0 | 53 => 122 | 55 => 130 | 4 => 4 | 46 => 258 | 45 => 257 | 50 => 31 | 5 => 5 | 9 => 9 | 66 => 269 | 70 => 273 | 76 => 284 | 77 => 285 | n => n, fun | n => n⟩
theorem Tryz.laysSortK : Go.Proofs.SlLaysF0.n6 Tryz.prog Tryz.laysSortK_ren := {
  mixed := by kernel_rfl
  f6 := ⟨Tryz.f172.name, by decide, Tryz.func172.trans (congrArg some (by kernel_rfl))⟩
  f14 := ⟨Tryz.f199.name, by decide, Tryz.func199.trans (congrArg some (by kernel_rfl))⟩
  f15 := Tryz.func200.trans (congrArg some (by kernel_rfl))
  f20 := ⟨Tryz.f218.name, by decide, Tryz.func218.trans (congrArg some (by kernel_rfl))⟩
  f21 := ⟨Tryz.f219.name, by decide, Tryz.func219.trans (congrArg some (by kernel_rfl))⟩
  f22 := ⟨Tryz.f220.name, by decide, Tryz.func220.trans (congrArg some (by kernel_rfl))⟩
  f23 := ⟨Tryz.f221.name, by decide, Tryz.func221.trans (congrArg some (by kernel_rfl))⟩
  f24 := ⟨Tryz.f222.name, by decide, Tryz.func222.trans (congrArg some (by kernel_rfl))⟩
  f25 := ⟨Tryz.f223.name, by decide, Tryz.func223.trans (congrArg some (by kernel_rfl))⟩
  f26 := ⟨Tryz.f224.name, by decide, Tryz.func224.trans (congrArg some (by kernel_rfl))⟩
  f27 := ⟨Tryz.f225.name, by decide, Tryz.func225.trans (congrArg some (by kernel_rfl))⟩
  f28 := Tryz.func226.trans (congrArg some (by kernel_rfl))
  f29 := Tryz.func180.trans (congrArg some (by kernel_rfl))
  f46 := ⟨Tryz.f233.name, by decide, Tryz.func233.trans (congrArg some (by kernel_rfl))⟩
  f47 := Tryz.func234.trans (congrArg some (by kernel_rfl))
  f48 := Tryz.func235.trans (congrArg some (by kernel_rfl))
  f49 := ⟨Tryz.f236.name, by decide, Tryz.func236.trans (congrArg some (by kernel_rfl))⟩
  f50 := ⟨Tryz.f237.name, by decide, Tryz.func237.trans (congrArg some (by kernel_rfl))⟩
  f57 := ⟨Tryz.f243.name, by decide, Tryz.func243.trans (congrArg some (by kernel_rfl))⟩
  t0 := Tryz.underlying0
  a0 := Tryz.isAgg0
  z0 := Tryz.sizeOf0
  v0 := Tryz.zeroValue0
  t3 := Tryz.underlying3
  a3 := Tryz.isAgg3
  z3 := Tryz.sizeOf3
  v3 := Tryz.zeroValue3
  t4 := Tryz.underlying4
  a4 := Tryz.isAgg4
  z4 := Tryz.sizeOf4
  v4 := Tryz.zeroValue4
  t5 := Tryz.underlying5
  a5 := Tryz.isAgg5
  z5 := Tryz.sizeOf5
  v5 := Tryz.zeroValue5
  t9 := Tryz.underlying9
  a9 := Tryz.isAgg9
  z9 := Tryz.sizeOf9
  v9 := Tryz.zeroValue9
  t22 := Tryz.underlying173
  a22 := Tryz.isAgg173
  z22 := Tryz.sizeOf173
  v22 := Tryz.zeroValue173
  t25 := Tryz.underlying172
  a25 := Tryz.isAgg172
  z25 := Tryz.sizeOf172
  v25 := Tryz.zeroValue172
  t39 := Tryz.underlying128
  a39 := Tryz.isAgg128
  z39 := Tryz.sizeOf128
  v39 := Tryz.zeroValue128
  t45 := Tryz.underlying257
  a45 := Tryz.isAgg257
  z45 := Tryz.sizeOf257
  v45 := Tryz.zeroValue257
  t46 := Tryz.underlying258
  a46 := Tryz.isAgg258
  z46 := Tryz.sizeOf258
  v46 := Tryz.zeroValue258
  t50 := Tryz.underlying31
  a50 := Tryz.isAgg31
  z50 := Tryz.sizeOf31
  v50 := Tryz.zeroValue31
  t53 := Tryz.underlying122
  a53 := Tryz.isAgg122
  z53 := Tryz.sizeOf122
  v53 := Tryz.zeroValue122
  t55 := Tryz.underlying130
  a55 := Tryz.isAgg130
  z55 := Tryz.sizeOf130
  v55 := Tryz.zeroValue130
  t66 := Tryz.underlying269
  a66 := Tryz.isAgg269
  z66 := Tryz.sizeOf269
  v66 := Tryz.zeroValue269
  t70 := Tryz.underlying273
  a70 := Tryz.isAgg273
  z70 := Tryz.sizeOf273
  v70 := Tryz.zeroValue273
  t76 := Tryz.underlying284
  a76 := Tryz.isAgg284
  z76 := Tryz.sizeOf284
  v76 := Tryz.zeroValue284
  t77 := Tryz.underlying285
  a77 := Tryz.isAgg285
  z77 := Tryz.sizeOf285
  v77 := Tryz.zeroValue285 }
end Go.Proofs

/- Rows of the call's own, as the kit's sort speaks of them. -/
namespace Go.Proofs.YtjcbohbpkodkoaaGreatDoor
open Go.RowKit Go.Sort Go.Lib

theorem flat_len {α : Type} (enc : α → List Value) (k : Nat) (hk : ∀ x, (enc x).length = k) (l : List α) : (l.flatMap enc).length = l.length * k := by
  induction l with
  | nil => simp
  | cons a l ih => rw [List.flatMap_cons, List.length_append, ih, hk, List.length_cons, Nat.add_mul]; omega
theorem flat_get {α : Type} [Inhabited α] (enc : α → List Value) (k : Nat) (hk : ∀ x, (enc x).length = k) : ∀ (l : List α) (t : Nat), t < l.length * k → (l.flatMap enc)[t]? = some ((enc (l[t / k]!))[t % k]!)
  | [], t, h => by simp at h
  | a :: l, t, h => by
    have hk0 : 0 < k := by
      rcases Nat.eq_zero_or_pos k with h0 | h0
      · rw [h0] at h; simp at h
      · exact h0
    rw [List.flatMap_cons]
    by_cases ht : t < k
    · rw [List.getElem?_append_left (by rw [hk]; exact ht), Nat.div_eq_of_lt ht, Nat.mod_eq_of_lt ht]
      simp only [List.getElem!_cons_zero]
      rw [List.getElem?_eq_getElem (by rw [hk]; exact ht), getElem!_pos (enc a) t (by rw [hk]; exact ht)]
    · obtain ⟨s, rfl⟩ : ∃ s, t = s + k := ⟨t - k, by omega⟩
      rw [List.getElem?_append_right (by rw [hk]; omega), hk, Nat.add_sub_cancel, Nat.add_div_right _ hk0, Nat.add_mod_right]
      simp only [List.getElem!_cons_succ]
      refine flat_get enc k hk l s ?_
      rw [List.length_cons, Nat.add_mul] at h
      omega
theorem flat_eq {α : Type} [Inhabited α] (enc : α → List Value) (k : Nat) (hk : ∀ x, (enc x).length = k) (l : List α) : flatK enc k l.toArray = (l.flatMap enc).toArray := by
  refine ext_get! (by rw [size_flatK]; simp only [List.size_toArray, flat_len enc k hk]) fun t ht => ?_
  rw [size_flatK] at ht
  simp only [List.size_toArray] at ht
  rw [get_flatK enc k _ t (by simpa using ht)]
  have h := flat_get enc k hk l t ht
  have h2 : t < (l.flatMap enc).length := by rw [flat_len enc k hk]; exact ht
  rw [List.getElem?_eq_getElem h2] at h
  rw [getElem!_pos (l.flatMap enc).toArray t (by simpa using h2)]
  simp only [List.getElem_toArray]
  rw [Option.some.inj h]
  simp
theorem own_holds {α : Type} [Inhabited α] (enc : α → List Value) (k : Nat) (hk : ∀ x, (enc x).length = k) {w : World} {B e : Nat} {v : Value} {l : List α} (h : w.ownsRow B e k v l.length (l.flatMap enc)) (hne : 0 < l.length) :
    ∃ g cap, v = .slice (some ⟨g, 0, none⟩) l.length cap ∧ B ≤ g ∧ g < w.heap.size ∧ HoldsK enc k w g 0 l.toArray := by
  rcases h.2 with ⟨_, h0⟩ | ⟨g, cap, cur, hv, hB, hg, hc, hm, hsz, htake⟩
  · omega
  · refine ⟨g, cap, hv, hB, ?_, fun j hj => ?_⟩
    · rcases Nat.lt_or_ge g w.heap.size with h' | h'
      · exact h'
      · rw [Array.getElem?_eq_none h'] at hg; cases hg
    · rw [size_flatK] at hj
      simp only [List.size_toArray] at hj
      rw [cell_of_row _ _ _ _ _ _ hg, frozen_of_row _ _ _ _ _ hg, Nat.zero_add]
      refine ⟨?_, rfl⟩
      have h1 : cur[j]? = (l.flatMap enc)[j]? := by
        rw [← htake, List.getElem?_take, if_pos hj, Array.getElem?_toList]
      rw [h1, flat_get enc k hk l j hj, get_flatK enc k _ j (by simpa using hj)]
      simp
theorem own_put {α : Type} [Inhabited α] (enc : α → List Value) (k : Nat) (hk : ∀ x, (enc x).length = k) {w : World} {B e : Nat} {g n cap : Nat} {l m : List α} (h : w.ownsRow B e k (.slice (some ⟨g, 0, none⟩) l.length cap) l.length (l.flatMap enc)) (hl : m.length = l.length) (hne : 0 < l.length) (os : Array Obj) :
    (grow (putRowK enc k (Sort.ahead w n) g 0 m.toArray) os).ownsRow B e k (.slice (some ⟨g, 0, none⟩) l.length cap) m.length (m.flatMap enc) ∧ Below B w (grow (putRowK enc k (Sort.ahead w n) g 0 m.toArray) os) := by
  rcases h.2 with ⟨_, h0⟩ | ⟨g', cap', cur, hv, hB, hg, hc, hm, hsz, htake⟩
  · omega
  injection hv with hv1 hv2 hv3
  injection hv1 with hv1
  injection hv1 with hv1
  subst hv1 hv3
  have hlt : g < w.heap.size := by
    rcases Nat.lt_or_ge g w.heap.size with h' | h'
    · exact h'
    · rw [Array.getElem?_eq_none h'] at hg; cases hg
  have hbl : ∀ i, i < w.heap.size → i ≠ g → (grow (putRowK enc k (Sort.ahead w n) g 0 m.toArray) os).heap[i]? = w.heap[i]? := fun i hi hne => by
    simp only [grow]
    rw [Array.getElem?_append_left (by simpa [putRowK, Sort.ahead] using hi)]
    simp [putRowK, putRow, mapBlock, Sort.ahead, Array.getElem?_modify, hne.symm]
  have hrow : (grow (putRowK enc k (Sort.ahead w n) g 0 m.toArray) os).heap[g]? = some (.cells (putCells id 0 (flatK enc k m.toArray) cur) e (0, 0)) := by
    simp only [grow]
    rw [Array.getElem?_append_left (by simpa [putRowK, Sort.ahead] using hlt)]
    simp [putRowK, putRow, mapBlock, Sort.ahead, Array.getElem?_modify, hg, onCells]
  have hml : (m.flatMap enc).length = m.length * k := flat_len enc k hk m
  refine ⟨⟨hml, .inr ⟨g, cap, _, by rw [hl], hB, hrow, by omega, hm, by simp [putCells, hsz], ?_⟩⟩, ?_⟩
  · rw [flat_eq enc k hk]
    apply List.ext_getElem?
    intro i
    rw [List.getElem?_take]
    by_cases hi : i < m.length * k
    · have hi2 : i < cap * k := Nat.lt_of_lt_of_le hi (Nat.mul_le_mul_right k (by omega))
      rw [if_pos hi, Array.getElem?_toList]
      simp only [putCells, Array.getElem?_mapIdx, List.size_toArray]
      rw [Array.getElem?_eq_getElem (by omega), Option.map_some, if_pos ⟨Nat.zero_le _, by omega⟩, Nat.sub_zero, getElem!_pos _ i (by simpa using (by omega : i < (m.flatMap enc).length)), List.getElem?_eq_getElem (by omega)]
      simp
    · rw [if_neg hi, List.getElem?_eq_none (by omega)]
  · exact ⟨rfl, rfl, rfl, by simp [grow, putRowK, Sort.ahead], fun i hi => hbl i (by omega) (by omega)⟩
end Go.Proofs.YtjcbohbpkodkoaaGreatDoor

/- Plain: normal forms by putting lines in, sorted lists, the merge of two sorted lists. -/
namespace Go.Proofs.YtjcbohbpkodkoaaGreatDoor
namespace Num

/-- a line put into lines in order -/
def putL : List Ln → Ln → List Ln
  | [], x => if val x.2.2 = 0 then [] else [x]
  | y :: r, x => if cmpK y x < 0 then y :: putL r x
    else if cmpK y x = 0 then (if val y.2.2 + val x.2.2 = 0 then r else (x.1, x.2.1, txt (val y.2.2 + val x.2.2)) :: r)
    else if val x.2.2 = 0 then y :: r else x :: y :: r
/-- the normal form of lines -/
def nrmL (l : List Ln) : List Ln := l.foldl putL []
theorem nrmL_snoc (l : List Ln) (x : Ln) : nrmL (l ++ [x]) = putL (nrmL l) x := by simp [nrmL]
theorem putL_tot (l : List Ln) (x : Ln) (k : Ky) : tot (putL l x) k = tot l k + if key x = k then val x.2.2 else 0 := by
  induction l with
  | nil =>
    unfold putL
    split
    · rename_i h; rw [h, tot_nil]; split <;> rfl
    · rw [tot_cons, tot_nil]; omega
  | cons y r ih =>
    unfold putL
    split
    · rw [tot_cons, ih, tot_cons]; omega
    · split
      · rename_i h
        have hk : key y = key x := cmpKy_zero.1 h
        split
        · rename_i h0
          rw [tot_cons, hk]; split <;> omega
        · rw [tot_cons, tot_cons, hk]
          show (if key x = k then val (txt (val y.2.2 + val x.2.2)) else 0) + _ = _
          rw [val_txt]; split <;> omega
      · split
        · rename_i h; rw [h]; split <;> omega
        · rw [tot_cons, tot_cons]; omega
theorem putL_mem (l : List Ln) (x z : Ln) (h : z ∈ putL l x) : z ∈ l ∨ key z = key x := by
  induction l with
  | nil =>
    unfold putL at h
    split at h
    · cases h
    · rw [List.mem_singleton] at h; subst h; exact .inr rfl
  | cons y r ih =>
    unfold putL at h
    split at h
    · rcases List.mem_cons.1 h with h | h
      · subst h; exact .inl (by simp)
      · rcases ih h with h | h
        · exact .inl (by simp [h])
        · exact .inr h
    · split at h
      · split at h
        · exact .inl (by simp [h])
        · rcases List.mem_cons.1 h with h | h
          · subst h; exact .inr rfl
          · exact .inl (by simp [h])
      · split at h
        · exact .inl h
        · rcases List.mem_cons.1 h with h | h
          · subst h; exact .inr rfl
          · exact .inl h
theorem cmpK_of_key {a b z : Ln} (h : key a = key b) : cmpK z a = cmpK z b ∧ cmpK a z = cmpK b z := by
  unfold cmpK; rw [h]; exact ⟨rfl, rfl⟩
theorem putL_ord (l : List Ln) (x : Ln) (h : OrdL l) : OrdL (putL l x) := by
  unfold OrdL at *
  induction l with
  | nil =>
    unfold putL
    split
    · exact List.Pairwise.nil
    · exact List.pairwise_singleton _ _
  | cons y r ih =>
    rw [List.pairwise_cons] at h
    unfold putL
    split
    · rename_i hc
      have hc1 : cmpK y x = -1 := by have := cmpK_cmp.rng y x; omega
      refine List.pairwise_cons.2 ⟨fun z hz => ?_, ih h.2⟩
      rcases putL_mem r x z hz with hz | hz
      · exact h.1 z hz
      · rw [(cmpK_of_key hz).1]; exact hc1
    · split
      · rename_i h0
        have hk : key y = key x := cmpKy_zero.1 h0
        split
        · exact h.2
        · refine List.pairwise_cons.2 ⟨fun z hz => ?_, h.2⟩
          have := h.1 z hz
          rw [(cmpK_of_key (z := z) hk).2] at this
          exact this
      · rename_i h1 h0
        split
        · exact List.pairwise_cons.2 h
        · have hxy : cmpK x y = -1 := by have := cmpK_cmp.rng y x; have := cmpK_cmp.anti y x; omega
          refine List.pairwise_cons.2 ⟨fun z hz => ?_, List.pairwise_cons.2 h⟩
          rcases List.mem_cons.1 hz with hz | hz
          · subst hz; exact hxy
          · exact cmpK_cmp.tr _ _ _ hxy (h.1 z hz)
theorem putL_amt (l : List Ln) (x : Ln) (h : ∀ z ∈ l, canB z = true ∧ z.2.2 ≠ []) (hx : canB x = true) : ∀ z ∈ putL l x, canB z = true ∧ z.2.2 ≠ [] := by
  have hne : val x.2.2 ≠ 0 → x.2.2 ≠ [] := fun h e => h (by rw [e]; rfl)
  induction l with
  | nil =>
    intro z hz
    unfold putL at hz
    split at hz
    · cases hz
    · rename_i h0
      rw [List.mem_singleton] at hz; subst hz; exact ⟨hx, hne h0⟩
  | cons y r ih =>
    intro z hz
    unfold putL at hz
    split at hz
    · rcases List.mem_cons.1 hz with hz | hz
      · subst hz; exact h _ (by simp)
      · exact ih (fun u hu => h u (by simp [hu])) z hz
    · split at hz
      · split at hz
        · exact h z (by simp [hz])
        · rename_i h0
          rcases List.mem_cons.1 hz with hz | hz
          · subst hz
            refine ⟨?_, fun e => h0 (txt_nil.1 e)⟩
            unfold canB can
            simp only [val_txt]
            exact decide_eq_true trivial
          · exact h z (by simp [hz])
      · split at hz
        · exact h z hz
        · rename_i h0
          rcases List.mem_cons.1 hz with hz | hz
          · subst hz; exact ⟨hx, hne h0⟩
          · exact h z hz
theorem nrmL_of (l : List Ln) (h : ∀ x ∈ l, canB x = true) : NormOf l (nrmL l) := by
  have aux : ∀ (r : List Ln) (m : List Ln), (∀ x ∈ r, canB x = true) → OrdL m → (∀ z ∈ m, canB z = true ∧ z.2.2 ≠ []) →
      OrdL (r.foldl putL m) ∧ (∀ z ∈ r.foldl putL m, canB z = true ∧ z.2.2 ≠ []) ∧ ∀ k, tot (r.foldl putL m) k = tot m k + tot r k := by
    intro r
    induction r with
    | nil => intro m _ h1 h2; exact ⟨h1, h2, fun k => by rw [tot_nil]; simp⟩
    | cons x r ih =>
      intro m hr h1 h2
      obtain ⟨a, b, c⟩ := ih (putL m x) (fun z hz => hr z (by simp [hz])) (putL_ord m x h1) (putL_amt m x h2 (hr x (by simp)))
      refine ⟨a, b, fun k => ?_⟩
      rw [List.foldl_cons, c k, putL_tot, tot_cons]; omega
  obtain ⟨a, b, c⟩ := aux l [] h List.Pairwise.nil (fun z hz => by cases hz)
  exact ⟨a, b, fun k => by rw [nrmL, c k, tot_nil]; omega⟩
theorem nrmL_self {l : List Ln} (ho : OrdL l) (ha : ∀ x ∈ l, canB x = true ∧ x.2.2 ≠ []) : nrmL l = l :=
  (nrmL_of l fun x hx => (ha x hx).1).uniq ⟨ho, ha, fun _ => rfl⟩
theorem nrmL_tot {l m : List Ln} (hl : ∀ x ∈ l, canB x = true) (hm : ∀ x ∈ m, canB x = true) (h : ∀ k, tot l k = tot m k) : nrmL l = nrmL m := by
  have h1 := nrmL_of l hl
  have h2 := nrmL_of m hm
  exact h1.uniq ⟨h2.ord, h2.amt, fun k => by rw [h2.tot, h k]⟩
/-- lines made out of keys in order -/
def rowsK (l : List Ln) : List Ky → List Ln
  | [] => []
  | k :: r => if txt (tot l k) = [] then rowsK l r else (k.1, k.2, txt (tot l k)) :: rowsK l r
theorem rowsK_snoc (l : List Ln) (a : List Ky) (k : Ky) : rowsK l (a ++ [k]) = rowsK l a ++ if txt (tot l k) = [] then [] else [(k.1, k.2, txt (tot l k))] := by
  induction a with
  | nil => rw [List.nil_append, rowsK, rowsK]; split <;> rfl
  | cons x r ih =>
    rw [List.cons_append, rowsK, rowsK, ih]
    split <;> rfl
theorem rowsK_len (l : List Ln) (a : List Ky) : (rowsK l a).length ≤ a.length := by
  induction a with
  | nil => exact Nat.le_refl _
  | cons x r ih => rw [rowsK]; split <;> simp <;> omega
theorem rowsK_key {l : List Ln} {a : List Ky} {z : Ln} (h : z ∈ rowsK l a) : key z ∈ a ∧ z.2.2 = txt (tot l (key z)) ∧ z.2.2 ≠ [] := by
  induction a with
  | nil => cases h
  | cons x r ih =>
    rw [rowsK] at h
    split at h
    · obtain ⟨p, q⟩ := ih h; exact ⟨by simp [p], q⟩
    · rename_i hne
      rcases List.mem_cons.1 h with h | h
      · subst h; exact ⟨by simp [key], rfl, hne⟩
      · obtain ⟨p, q⟩ := ih h; exact ⟨by simp [p], q⟩
theorem rowsK_of {l : List Ln} {a : List Ky} (ho : a.Pairwise fun p q => cmpKy p q = -1) (hm : ∀ k, k ∈ a ↔ ∃ x ∈ l, key x = k) : NormOf l (rowsK l a) := by
  have hord : ∀ (b : List Ky), b.Pairwise (fun p q => cmpKy p q = -1) → OrdL (rowsK l b) := by
    intro b
    induction b with
    | nil => intro _; exact List.Pairwise.nil
    | cons k r ih =>
      intro hb
      rw [List.pairwise_cons] at hb
      rw [rowsK]
      split
      · exact ih hb.2
      · refine List.pairwise_cons.2 ⟨fun z hz => ?_, ih hb.2⟩
        exact hb.1 _ (rowsK_key hz).1
  have htot : ∀ (b : List Ky), b.Pairwise (fun p q => cmpKy p q = -1) → ∀ k, tot (rowsK l b) k = if k ∈ b then tot l k else 0 := by
    intro b
    induction b with
    | nil => intro _ k; simp [rowsK, tot]
    | cons y r ih =>
      intro hb k
      rw [List.pairwise_cons] at hb
      have hny : y ∉ r := fun h => by have := hb.1 y h; rw [cmpKy_cmp.self] at this; omega
      rw [rowsK]
      by_cases e : k = y
      · subst e
        split
        · rename_i h0
          rw [ih hb.2, if_neg hny, if_pos (by simp), txt_nil.1 h0]
        · rw [tot_cons, if_pos (show key (k.1, k.2, txt (tot l k)) = k from rfl), ih hb.2, if_neg hny, if_pos (List.mem_cons_self)]
          show val (txt _) + 0 = _
          rw [val_txt]; omega
      · have h2 : (k ∈ y :: r) ↔ k ∈ r := by simp [e]
        split
        · rw [ih hb.2]; simp [e]
        · rw [tot_cons, ih hb.2, if_neg (fun h => e (by rw [← h]; rfl))]; simp [e]
  refine ⟨hord a ho, fun x hx => ?_, fun k => ?_⟩
  · obtain ⟨_, h2, h3⟩ := rowsK_key hx
    refine ⟨?_, h3⟩
    unfold canB can
    rw [h2, val_txt]
    exact decide_eq_true rfl
  · rw [htot a ho k]
    split
    · rfl
    · rename_i h
      exact (tot_none fun x hx e => h ((hm k).2 ⟨x, hx, e⟩)).symm
theorem rowsK_nrm {l : List Ln} {a : List Ky} (hl : ∀ x ∈ l, canB x = true) (ho : a.Pairwise fun p q => cmpKy p q = -1) (hm : ∀ k, k ∈ a ↔ ∃ x ∈ l, key x = k) : rowsK l a = nrmL l :=
  (rowsK_of ho hm).uniq (nrmL_of l hl)

/-! sorted lists -/
section
variable {α : Type} {c : α → α → Int}
theorem Cmp.le_tr (h : Cmp c) {a b d : α} (h1 : c a b ≤ 0) (h2 : c b d ≤ 0) : c a d ≤ 0 := by
  rcases h.rng a b with e | e | e
  · rcases h.rng b d with f | f | f
    · have := h.tr _ _ _ e f; omega
    · have := h.eqv' b d a f; omega
    · omega
  · have := h.eqv a b d e; omega
  · omega
def Srt (c : α → α → Int) (l : List α) : Prop := l.Pairwise fun a b => c a b ≤ 0
/-- equals of the list are one -/
def Tight (c : α → α → Int) (l : List α) : Prop := ∀ a ∈ l, ∀ b ∈ l, c a b = 0 → a = b
theorem srt_uniq (h : Cmp c) {a b : List α} (ha : Srt c a) (hb : Srt c b) (hp : a.Perm b) (ht : Tight c a) : a = b := by
  refine List.Perm.eq_of_pairwise (le := fun x y => c x y ≤ 0) (fun x y hx hy h1 h2 => ?_) ha hb hp
  refine ht x hx y (hp.mem_iff.2 hy) ?_
  have := h.anti x y
  omega
/-- what is left of two sorted lists without what they share -/
def mrg (c : α → α → Int) : List α → List α → List α × List α
  | [], b => ([], b)
  | x :: a, [] => (x :: a, [])
  | x :: a, y :: b => if c x y < 0 then (x :: (mrg c a (y :: b)).1, (mrg c a (y :: b)).2)
    else if 0 < c x y then ((mrg c (x :: a) b).1, y :: (mrg c (x :: a) b).2) else mrg c a b
termination_by a b => a.length + b.length
theorem mrg_nil (b : List α) : mrg c [] b = ([], b) := by rw [mrg]
theorem mrg_nil' (a : List α) : mrg c a [] = (a, []) := by cases a <;> rw [mrg]
theorem mrg_cons (x : α) (a : List α) (y : α) (b : List α) : mrg c (x :: a) (y :: b) = if c x y < 0 then (x :: (mrg c a (y :: b)).1, (mrg c a (y :: b)).2)
    else if 0 < c x y then ((mrg c (x :: a) b).1, y :: (mrg c (x :: a) b).2) else mrg c a b := by rw [mrg]
theorem mrg_sub : ∀ (a b : List α), (mrg c a b).1.Sublist a ∧ (mrg c a b).2.Sublist b
  | [], b => by rw [mrg_nil]; exact ⟨List.Sublist.refl _, List.Sublist.refl _⟩
  | x :: a, [] => by rw [mrg_nil']; exact ⟨List.Sublist.refl _, List.Sublist.refl _⟩
  | x :: a, y :: b => by
    rw [mrg_cons]
    split
    · obtain ⟨h1, h2⟩ := mrg_sub a (y :: b)
      exact ⟨h1.cons_cons x, h2⟩
    · split
      · obtain ⟨h1, h2⟩ := mrg_sub (x :: a) b
        exact ⟨h1, h2.cons_cons y⟩
      · obtain ⟨h1, h2⟩ := mrg_sub a b
        exact ⟨h1.cons x, h2.cons y⟩
termination_by a b => a.length + b.length
def cnt (c : α → α → Int) (l : List α) (x : α) : Nat := l.countP fun y => decide (c x y = 0)
theorem cnt_cons (l : List α) (x y : α) : cnt c (y :: l) x = cnt c l x + if c x y = 0 then 1 else 0 := by
  unfold cnt; rw [List.countP_cons]; simp
theorem cnt_perm {l m : List α} (h : l.Perm m) (x : α) : cnt c l x = cnt c m x := h.countP_eq _
theorem cnt_zero {l : List α} {x : α} : cnt c l x = 0 ↔ ∀ y ∈ l, c x y ≠ 0 := by
  unfold cnt; rw [List.countP_eq_zero]; simp
theorem mrg_cnt (h : Cmp c) (z : α) : ∀ (a b : List α), cnt c a z + cnt c (mrg c a b).2 z = cnt c b z + cnt c (mrg c a b).1 z
  | [], b => by rw [mrg_nil]; show cnt c [] z + cnt c b z = cnt c b z + cnt c [] z; omega
  | x :: a, [] => by rw [mrg_nil']; show cnt c (x :: a) z + cnt c [] z = cnt c [] z + cnt c (x :: a) z; omega
  | x :: a, y :: b => by
    rw [mrg_cons]
    split
    · have := mrg_cnt h z a (y :: b)
      simp only [cnt_cons] at this ⊢
      omega
    · split
      · have := mrg_cnt h z (x :: a) b
        simp only [cnt_cons] at this ⊢
        omega
      · rename_i h1 h2
        have hxy : c x y = 0 := by omega
        have := mrg_cnt h z a b
        have he := h.eqv' x y z hxy
        simp only [cnt_cons, he]
        omega
termination_by a b => a.length + b.length
theorem mrg_len : ∀ (a b : List α), (mrg c a b).1.length + b.length = (mrg c a b).2.length + a.length
  | [], b => by rw [mrg_nil]; simp
  | x :: a, [] => by rw [mrg_nil']; simp
  | x :: a, y :: b => by
    rw [mrg_cons]
    split
    · have := mrg_len a (y :: b)
      simp only [List.length_cons] at this ⊢
      omega
    · split
      · have := mrg_len (x :: a) b
        simp only [List.length_cons] at this ⊢
        omega
      · have := mrg_len a b
        simp only [List.length_cons]
        omega
termination_by a b => a.length + b.length
theorem mrg_apart (h : Cmp c) (z : α) : ∀ (a b : List α), Srt c a → Srt c b → cnt c (mrg c a b).1 z = 0 ∨ cnt c (mrg c a b).2 z = 0
  | [], b, _, _ => by rw [mrg_nil]; exact .inl rfl
  | x :: a, [], _, _ => by rw [mrg_nil']; exact .inr rfl
  | x :: a, y :: b, ha, hb => by
    have ha2 := List.pairwise_cons.1 ha
    have hb2 := List.pairwise_cons.1 hb
    rw [mrg_cons]
    split
    · rename_i hlt
      by_cases hz : c z x = 0
      · refine .inr (cnt_zero.2 fun u hu e => ?_)
        have hu2 := (mrg_sub a (y :: b)).2.subset hu
        have hyu : c y u ≤ 0 := by
          rcases List.mem_cons.1 hu2 with e2 | e2
          · subst e2; have := h.self u; omega
          · exact hb2.1 u e2
        have h1 := h.eqv z x u hz
        have h3 := h.le_tr (a := x) (b := y) (d := u) (by omega) hyu
        have h4 : c y x ≤ 0 := by
          have h5 : c u x = 0 := by have := h.anti x u; omega
          have := h.eqv' u x y h5
          omega
        have := h.anti x y
        omega
      · rcases mrg_apart h z a (y :: b) ha2.2 hb with e | e
        · left
          simp only [cnt_cons, e, if_neg hz]
        · exact .inr e
    · split
      · rename_i hlt
        by_cases hz : c z y = 0
        · refine .inl (cnt_zero.2 fun u hu e => ?_)
          have hu2 := (mrg_sub (x :: a) b).1.subset hu
          have hxu : c x u ≤ 0 := by
            rcases List.mem_cons.1 hu2 with e2 | e2
            · subst e2; have := h.self u; omega
            · exact ha2.1 u e2
          have h1 := h.eqv z y u hz
          have h5 : c u y = 0 := by have := h.anti y u; omega
          have := h.eqv' u y x h5
          omega
        · rcases mrg_apart h z (x :: a) b ha hb2.2 with e | e
          · exact .inl e
          · right
            simp only [cnt_cons, e, if_neg hz]
      · exact mrg_apart h z a b ha2.2 hb2.2
termination_by a b => a.length + b.length
theorem mrg_srt {a b : List α} (ha : Srt c a) (hb : Srt c b) : Srt c (mrg c a b).1 ∧ Srt c (mrg c a b).2 :=
  ⟨List.Pairwise.sublist (mrg_sub a b).1 ha, List.Pairwise.sublist (mrg_sub a b).2 hb⟩
theorem mrg_self (h : Cmp c) : ∀ (a : List α), mrg c a a = ([], [])
  | [] => mrg_nil _
  | x :: a => by
    have := h.self x
    rw [mrg_cons, if_neg (by omega), if_neg (by omega), mrg_self h a]
theorem mrg_swap (h : Cmp c) : ∀ (a b : List α), mrg c b a = ((mrg c a b).2, (mrg c a b).1)
  | [], b => by rw [mrg_nil, mrg_nil']
  | x :: a, [] => by rw [mrg_nil, mrg_nil']
  | x :: a, y :: b => by
    have := h.anti x y
    rw [mrg_cons, mrg_cons]
    by_cases h1 : c x y < 0
    · rw [if_pos h1, if_neg (by omega), if_pos (by omega), mrg_swap h a (y :: b)]
    · by_cases h2 : 0 < c x y
      · rw [if_neg h1, if_pos h2, if_pos (by omega), mrg_swap h (x :: a) b]
      · rw [if_neg h1, if_neg h2, if_neg (by omega), if_neg (by omega), mrg_swap h a b]
termination_by a b => a.length + b.length
theorem mrg_map {β : Type} (f : β → α) : ∀ (a b : List β), mrg c (a.map f) (b.map f) = ((mrg (fun x y => c (f x) (f y)) a b).1.map f, (mrg (fun x y => c (f x) (f y)) a b).2.map f)
  | [], b => by rw [List.map_nil, mrg_nil, mrg_nil]; rfl
  | x :: a, [] => by rw [List.map_nil, mrg_nil', mrg_nil']; rfl
  | x :: a, y :: b => by
    rw [List.map_cons, List.map_cons, mrg_cons, mrg_cons]
    have h1 := mrg_map f a (y :: b)
    have h2 := mrg_map f (x :: a) b
    rw [List.map_cons] at h1 h2
    split
    · rw [h1]; rfl
    · split
      · rw [h2]; rfl
      · exact mrg_map f a b
termination_by a b => a.length + b.length
/-- the reference's difference of sorted lists -/
def lss (c : α → α → Int) : List α → List α → List α
  | [], _ => []
  | x :: a, [] => x :: a
  | x :: a, y :: b => if c y x < 0 then lss c (x :: a) b else if c y x = 0 then lss c a b else x :: lss c a (y :: b)
termination_by a b => a.length + b.length
theorem lss_mrg (h : Cmp c) : ∀ (a b : List α), lss c a b = (mrg c a b).1
  | [], b => by rw [lss, mrg_nil]
  | x :: a, [] => by rw [lss, mrg_nil']
  | x :: a, y :: b => by
    have := h.anti x y
    rw [lss, mrg_cons]
    by_cases h1 : c x y < 0
    · rw [if_neg (by omega), if_neg (by omega), if_pos h1, lss_mrg h a (y :: b)]
    · by_cases h2 : 0 < c x y
      · rw [if_pos (by omega), if_neg h1, if_pos h2, lss_mrg h (x :: a) b]
      · rw [if_neg (by omega), if_pos (by omega), if_neg h1, if_neg h2, lss_mrg h a b]
termination_by a b => a.length + b.length

/-! insertion: one element sinks -/
/-- in the list d the places up to i are in order, but for place j, which may lie too far back -/
structure Sink (c : α → α → Int) (x0 : α) (d : List α) (j i : Nat) : Prop where
  rest : ∀ p q, p < q → q ≤ i → p ≠ j → q ≠ j → c (d.getD p x0) (d.getD q x0) ≤ 0
  behind : ∀ q, j < q → q ≤ i → c (d.getD j x0) (d.getD q x0) ≤ 0
/-- the places up to i are in order -/
def Upto (c : α → α → Int) (x0 : α) (d : List α) (i : Nat) : Prop := ∀ p q, p < q → q ≤ i → c (d.getD p x0) (d.getD q x0) ≤ 0
theorem sink_start {x0 : α} {d : List α} {i : Nat} (h : Upto c x0 d i) : Sink c x0 d (i + 1) (i + 1) :=
  ⟨fun p q h1 h2 _ h4 => h p q h1 (by omega), fun q h1 h2 => by omega⟩
theorem sink_zero {x0 : α} {d : List α} {i : Nat} (h : Sink c x0 d 0 i) : Upto c x0 d i := fun p q h1 h2 => by
  by_cases e : p = 0
  · subst e; exact h.behind q h1 h2
  · exact h.rest p q h1 h2 e (by omega)
theorem sink_stop (hc : Cmp c) {x0 : α} {d : List α} {j i : Nat} (h : Sink c x0 d (j + 1) i) (hji : j + 1 ≤ i) (hs : ¬ c (d.getD (j + 1) x0) (d.getD j x0) < 0) : Upto c x0 d i := fun p q h1 h2 => by
  have h3 : c (d.getD j x0) (d.getD (j + 1) x0) ≤ 0 := by have := hc.anti (d.getD (j + 1) x0) (d.getD j x0); omega
  by_cases e : p = j + 1
  · subst e; exact h.behind q h1 h2
  · by_cases e2 : q = j + 1
    · subst e2
      by_cases e3 : p = j
      · subst e3; exact h3
      · exact hc.le_tr (h.rest p j (by omega) (by omega) e (by omega)) h3
    · exact h.rest p q h1 h2 e e2
/-- places j and j + 1 exchanged -/
def exch (x0 : α) (d : List α) (j : Nat) : List α := (d.set (j + 1) (d.getD j x0)).set j (d.getD (j + 1) x0)
theorem exch_len {x0 : α} (d : List α) (j : Nat) : (exch x0 d j).length = d.length := by simp [exch]
theorem exch_get {x0 : α} (d : List α) (j : Nat) (hj : j + 1 < d.length) (p : Nat) : (exch x0 d j).getD p x0 = if p = j then d.getD (j + 1) x0 else if p = j + 1 then d.getD j x0 else d.getD p x0 := by
  unfold exch
  rw [List.getD_eq_getElem?_getD, List.getElem?_set]
  by_cases e : p = j
  · subst e; rw [if_pos rfl, if_pos (by simp; omega), if_pos rfl]; rfl
  · rw [if_neg (fun h => e h.symm), if_neg e, List.getElem?_set]
    by_cases e2 : p = j + 1
    · subst e2; rw [if_pos rfl, if_pos (by omega), if_pos rfl]; rfl
    · rw [if_neg (fun h => e2 h.symm), if_neg e2, List.getD_eq_getElem?_getD]
theorem exch_perm {x0 : α} (d : List α) (j : Nat) (hj : j + 1 < d.length) : (exch x0 d j).Perm d := by
  have e1 : d.getD j x0 = d[j] := by rw [List.getD_eq_getElem?_getD, List.getElem?_eq_getElem (by omega)]; rfl
  have e2 : d.getD (j + 1) x0 = d[j + 1] := by rw [List.getD_eq_getElem?_getD, List.getElem?_eq_getElem hj]; rfl
  unfold exch
  rw [e1, e2]
  exact List.set_set_perm (i := j + 1) (j := j) hj (by omega)
theorem sink_step {x0 : α} {d : List α} {j i : Nat} (h : Sink c x0 d (j + 1) i) (hji : j + 1 ≤ i) (hi : i < d.length) (hs : c (d.getD (j + 1) x0) (d.getD j x0) < 0) : Sink c x0 (exch x0 d j) j i := by
  have hg := exch_get (x0 := x0) d j (by omega)
  refine ⟨fun p q h1 h2 h3 h4 => ?_, fun q h1 h2 => ?_⟩
  · rw [hg p, hg q, if_neg h3, if_neg h4]
    by_cases e : p = j + 1
    · subst e
      rw [if_pos rfl, if_neg (by omega)]
      exact h.rest j q (by omega) h2 (by omega) (by omega)
    · rw [if_neg e]
      by_cases e2 : q = j + 1
      · subst e2
        rw [if_pos rfl]
        exact h.rest p j (by omega) (by omega) e (by omega)
      · rw [if_neg e2]
        exact h.rest p q h1 h2 e e2
  · rw [hg j, hg q, if_pos rfl, if_neg (by omega)]
    by_cases e : q = j + 1
    · subst e; rw [if_pos rfl]; omega
    · rw [if_neg e]
      exact h.behind q (by omega) h2
theorem upto_srt {x0 : α} {d : List α} {i : Nat} (h : Upto c x0 d i) (hi : d.length ≤ i + 1) : Srt c d := by
  refine List.pairwise_iff_getElem.2 fun p q hp hq hpq => ?_
  have := h p q hpq (by omega)
  rw [List.getD_eq_getElem?_getD, List.getD_eq_getElem?_getD, List.getElem?_eq_getElem hp, List.getElem?_eq_getElem hq] at this
  exact this
end
end Num
end Go.Proofs.YtjcbohbpkodkoaaGreatDoor

/- Contract of slices.SortFunc at keys and key.compare. -/
namespace Go.Proofs.YtjcbohbpkodkoaaGreatDoor
open Go.RowKit Go.Sort Go.Lib Go.Shelf Num

set_option maxRecDepth 100000 in
set_option maxHeartbeats 2000000 in
theorem kcmp_grow (a b : Ky) (w : World) : Calls Tryz.prog 132 #[.agg (encK a).toArray, .agg (encK b).toArray] w fun e w' => e = .returned (.int .i64 (cmpKy a b)) ∧ ∃ q os', w' = grow (w.drewN q) os' := by
  obtain ⟨a1, a2⟩ := a
  obtain ⟨b1, b2⟩ := b
  have hv := Lib.hid (show cmpKy (a1, a2) (b1, b2) = orI [cmpS a1 b1, cmpS a2 b2] by rw [orI2]; rfl)
  simp only [encK]
  go_enter Tryz.func132, Tryz.ntmps132
  go_wp2_with fail
  have HG := Lib.hid (show ((w.alloc (.cells #[.string ⟨a1.toArray⟩, .string ⟨a2.toArray⟩] 140)).alloc (.cells #[.string ⟨b1.toArray⟩, .string ⟨b2.toArray⟩] 140)) = grow w #[.cells #[.string ⟨a1.toArray⟩, .string ⟨a2.toArray⟩] 140, .cells #[.string ⟨b1.toArray⟩, .string ⟨b2.toArray⟩] 140] from by rw [alloc_eq_grow, alloc_eq_grow, grow_grow]; rfl)
  have x0 : ((w.alloc (.cells #[.string ⟨a1.toArray⟩, .string ⟨a2.toArray⟩] 140)).alloc (.cells #[.string ⟨b1.toArray⟩, .string ⟨b2.toArray⟩] 140)).cell? ⟨w.heap.size, 0, none⟩ = some (.string ⟨a1.toArray⟩) := by go_simp
  have x1 : ((w.alloc (.cells #[.string ⟨a1.toArray⟩, .string ⟨a2.toArray⟩] 140)).alloc (.cells #[.string ⟨b1.toArray⟩, .string ⟨b2.toArray⟩] 140)).cell? ⟨w.heap.size, 1, none⟩ = some (.string ⟨a2.toArray⟩) := by go_simp
  have y0 : ((w.alloc (.cells #[.string ⟨a1.toArray⟩, .string ⟨a2.toArray⟩] 140)).alloc (.cells #[.string ⟨b1.toArray⟩, .string ⟨b2.toArray⟩] 140)).cell? ⟨w.heap.size + 1, 0, none⟩ = some (.string ⟨b1.toArray⟩) := by go_simp
  have y1 : ((w.alloc (.cells #[.string ⟨a1.toArray⟩, .string ⟨a2.toArray⟩] 140)).alloc (.cells #[.string ⟨b1.toArray⟩, .string ⟨b2.toArray⟩] 140)).cell? ⟨w.heap.size + 1, 1, none⟩ = some (.string ⟨b2.toArray⟩) := by go_simp
  generalize ((w.alloc (.cells #[.string ⟨a1.toArray⟩, .string ⟨a2.toArray⟩] 140)).alloc (.cells #[.string ⟨b1.toArray⟩, .string ⟨b2.toArray⟩] 140)) = W at *
  have ne0 := World.new_ne W ⟨w.heap.size, 0, none⟩ x0
  have ne1 := World.new_ne W ⟨w.heap.size, 1, none⟩ x1
  have ne2 := World.new_ne W ⟨w.heap.size + 1, 0, none⟩ y0
  have ne3 := World.new_ne W ⟨w.heap.size + 1, 1, none⟩ y1
  go_region_held3 (fun w' => w'.cell? ⟨w.heap.size, 0, none⟩ = some (.string ⟨a1.toArray⟩) ∧ w'.cell? ⟨w.heap.size, 1, none⟩ = some (.string ⟨a2.toArray⟩) ∧ w'.cell? ⟨w.heap.size + 1, 0, none⟩ = some (.string ⟨b1.toArray⟩) ∧ w'.cell? ⟨w.heap.size + 1, 1, none⟩ = some (.string ⟨b2.toArray⟩)) (go_keep)
    (first
      | (go_at_call 170; refine (cmpS_any _ _ _).mono ?_; rintro e w' ⟨rfl, rfl⟩)
      | (go_at_call 169; refine (Or_any _ _ _ [cmpS a1 b1, cmpS a2 b2] _ (ints2d _ _ _)).mono ?_; rintro e w' ⟨rfl, rfl⟩))
  go_wp2_with fail
  go_ret
  refine ⟨by rw [hv.out]; rfl, 1, #[.cells #[.string ⟨a1.toArray⟩, .string ⟨a2.toArray⟩] 140, .cells #[.string ⟨b1.toArray⟩, .string ⟨b2.toArray⟩] 140] ++ #[.cells #[.int .i64 (cmpS a1 b1), .int .i64 (cmpS a2 b2)] 3], ?_⟩
  rw [HG.out, alloc_eq_grow, grow_grow]
  rfl
theorem cmpLaysK (blk off size : Nat) (w : World) : CmpLays Tryz.prog 132 #[] encK 2 cmpKy blk off size w :=
  fun _ _ _ _ x y => kcmp_grow x y _
theorem lt_of_K (x y : Ky) : ltOf cmpKy x y = decide (cmpKy x y < 0) := rfl
theorem swoK : SWO (ltOf cmpKy) where
  irrefl x := by rw [lt_of_K, cmpKy_cmp.self]; rfl
  trans x y z h1 h2 := by
    rw [lt_of_K, decide_eq_true_eq] at *
    have r1 := cmpKy_cmp.rng x y
    have r2 := cmpKy_cmp.rng y z
    have := cmpKy_cmp.tr x y z (by omega) (by omega)
    omega
  ntrans x y z h1 h2 := by
    rw [lt_of_K, decide_eq_false_iff_not] at *
    have a1 := cmpKy_cmp.anti x y
    have a2 := cmpKy_cmp.anti y z
    have a3 := cmpKy_cmp.anti x z
    have := cmpKy_cmp.le_tr (a := z) (b := y) (d := x) (by omega) (by omega)
    omega
theorem totK (x y : Ky) (h1 : ltOf cmpKy x y = false) (h2 : ltOf cmpKy y x = false) : x = y := by
  rw [lt_of_K, decide_eq_false_iff_not] at *
  have := cmpKy_cmp.anti x y
  exact cmpKy_zero.1 (by omega)
def SortKP (B : Nat) (w : World) (v : Value) (l : List Ky) (e : Ending) (w' : World) : Prop :=
  e = .returned (.tuple #[]) ∧ ∃ m : List Ky, m.Perm l ∧ Srt cmpKy m ∧ rowK.Own B w' v m ∧ Below B w w'
theorem sortK_any (B : Nat) (v : Value) (l : List Ky) (w : World) (h : rowK.Own B w v l) (h1 : l.length ≤ 10000) (hB : B ≤ w.heap.size) :
    Calls Tryz.prog 172 #[v, .func (.func 132) #[] #[]] w (SortKP B w v l) := by
  by_cases h0 : 0 < l.length
  case neg =>
    have hl : l = [] := List.eq_nil_of_length_eq_zero (by omega)
    subst hl
    obtain ⟨A, c, rfl⟩ := h.slice
    have hc := AnyF.slices_SortFunc_none Tryz.laysSortK A c (.func (.func 132) #[] #[]) w
    refine Calls.mono (show Calls Tryz.prog 172 #[.slice A 0 c, .func (.func 132) #[] #[]] w _ from hc) fun e w' ⟨he, hw⟩ => ?_
    subst hw
    exact ⟨he, [], List.Perm.refl _, List.Pairwise.nil, h, Below.refl _ _⟩
  obtain ⟨g, cap, rfl, hB, hg, hH⟩ := own_holds encK 2 (fun _ => rfl) h h0
  have eg : ∀ args w, (callFunc 132 args).run Tryz.prog w = .ok (.enter 132 args) w := enters_of Tryz.func132 (by kernel_rfl) rfl
  have hc := AnyQ.slices_SortFunc_total Tryz.laysSortK 2 Tryz.isAgg140 Tryz.sizeOf140 encK (fun _ => rfl) (fun x v hv => rowK_ok.h1 x v hv) cmpKy swoK 132 #[] g 0 cap l.toArray w eg (cmpLaysK g 0 _ w) hH hg (by simp; omega) totK
  refine Calls.mono (show Calls Tryz.prog 172 #[.slice (some ⟨g, 0, none⟩) l.length cap, .func (.func 132) #[] #[]] w _ from hc) fun e w' ⟨he, n, os, hw⟩ => ?_
  have hp : (l.mergeSort fun x y => !(ltOf cmpKy) y x).Perm l := List.mergeSort_perm _ _
  obtain ⟨p1, p2⟩ := own_put encK 2 (fun _ => rfl) (n := n) (m := l.mergeSort fun x y => !(ltOf cmpKy) y x) h hp.length_eq h0 os
  have e : grow (putRowK encK 2 (Sort.ahead w n) g 0 (l.mergeSort fun x y => !(ltOf cmpKy) y x).toArray) os = w' := by
    rw [hw]; rfl
  rw [e] at p1 p2
  refine ⟨he, _, hp, ?_, p1, p2⟩
  have hs := List.pairwise_mergeSort (le := fun x y => !(ltOf cmpKy) y x) (fun a b c h1 h2 => by
    rw [lt_of_K, Bool.not_eq_true', decide_eq_false_iff_not] at *
    have a1 := cmpKy_cmp.anti a b
    have a2 := cmpKy_cmp.anti b c
    have a3 := cmpKy_cmp.anti a c
    have := cmpKy_cmp.le_tr (a := a) (b := b) (d := c) (by omega) (by omega)
    omega) (fun a b => by
    rw [lt_of_K, lt_of_K, Bool.or_eq_true, Bool.not_eq_true', Bool.not_eq_true', decide_eq_false_iff_not, decide_eq_false_iff_not]
    have a1 := cmpKy_cmp.anti a b
    omega) l
  refine hs.imp fun {a b} hab => ?_
  rw [lt_of_K, Bool.not_eq_true', decide_eq_false_iff_not] at hab
  have a1 := cmpKy_cmp.anti a b
  omega
end Go.Proofs.YtjcbohbpkodkoaaGreatDoor

/- Contract of slices.SortedFunc at the keys of Normal's map. -/
namespace Go.Proofs.YtjcbohbpkodkoaaGreatDoor
open Go.RowKit Go.Maps Num

theorem KeysD.perm {D : DataW Nat} {ss m : List Ky} (h : KeysD D ss) (hp : m.Perm ss) : KeysD D m :=
  ⟨((hp.map kb).nodup_iff).2 h.1, fun k => ((hp.map kb).mem_iff).trans (h.2.1 k), by rw [hp.length_eq]; exact h.2.2.1, fun q hq => h.2.2.2 q (hp.mem_iff.1 hq)⟩
def SortedP (D : DataW Nat) (w : World) (e : Ending) (w' : World) : Prop := ∃ v ss, e = .returned v ∧ KeysD D ss ∧ Srt cmpKy ss ∧ rowK.Own w.heap.size w' v ss ∧ Below w.heap.size w w'
set_option maxRecDepth 100000 in
theorem SortedK_any (bx b nn : Nat) (D : DataW Nat) (w : World) (hbx : bx < w.heap.size) (hm : w.cell? ⟨bx, 0, none⟩ = some (.map (some b))) (hown : w.ownsMap Tryz.prog 140 (plainElem Tryz.prog 46) b nn D) (hn : Maps.size D ≤ 10000) :
    Calls Tryz.prog 133 #[.func (.func 173) #[] #[.pointer (some ⟨bx, 0, none⟩)], .func (.func 132) #[] #[]] w (SortedP D w) := by
  have hc := (callsIn_wide (n := 6)).1 (collect_in 6 (by omega) 173 #[.pointer (some ⟨bx, 0, none⟩)] (KeysD D) (Maps.size D) hn w (enters_of Tryz.func173 (by kernel_rfl) rfl) (keys_stops (6 - 1 - 1) (by omega) bx b nn D w hbx hm hown) (fun ss h => h.2.2.1))
  have HC := Lib.hid hc
  have HP := Lib.hid (show ∀ v ss W, KeysD D ss → Srt cmpKy ss → rowK.Own w.heap.size W v ss → Below w.heap.size w W → SortedP D w (.returned v) W from fun v ss W h1 h2 h3 h4 => ⟨v, ss, rfl, h1, h2, h3, h4⟩)
  clear hc hm hown
  generalize SortedP D w = Post at *
  go_enter Tryz.func133, Tryz.ntmps133
  go_wp2_with fail
  refine HC.out.mono ?_
  rintro e w1 ⟨v, ss, rfl, hk, ho, hb⟩
  have HK := Lib.hid hk
  have HB := Lib.hid hb
  have hs := Lib.hid (sortK_any w.heap.size v ss w1 ho (Nat.le_trans hk.2.2.1 hn) hb.size)
  clear hk ho hb HC
  go_wp2_with fail
  refine hs.out.mono ?_
  rintro e w2 ⟨rfl, m, hp, hsrt, ho2, hb2⟩
  have H2 := Lib.hid (And.intro hp (And.intro hsrt (And.intro ho2 hb2)))
  clear hp hsrt ho2 hb2 hs
  go_wp2_with fail
  exact HP.out v m w2 (HK.out.perm H2.out.1) H2.out.2.1 H2.out.2.2.1 (HB.out.trans H2.out.2.2.2)
end Go.Proofs.YtjcbohbpkodkoaaGreatDoor

/- What entry.Normal's loops keep, plain. -/
namespace Go.Proofs.YtjcbohbpkodkoaaGreatDoor
open Go.RowKit Go.Maps Num

/-- what is wrong with the fields of lines -/
def fldI : List Ln → Int
  | [] => 0
  | x :: r => if lineI x ≠ 0 then lineI x else fldI r
theorem fldI_cons (x : Ln) (r : List Ln) : fldI (x :: r) = if lineI x ≠ 0 then lineI x else fldI r := rfl
theorem fldI_zero {l : List Ln} (h : fldI l = 0) : ∀ x ∈ l, lineI x = 0 := by
  induction l with
  | nil => intro x hx; cases hx
  | cons y r ih =>
    rw [fldI_cons] at h
    split at h
    · omega
    · rename_i h0
      intro x hx
      rcases List.mem_cons.1 hx with e | e
      · subst e; omega
      · exact ih h x e
theorem lineI_can {x : Ln} (h : lineI x = 0) : canB x = true := by
  unfold lineI at h
  split at h
  · split at h
    · unfold chkI at h
      split at h
      · rename_i h0; unfold canB; exact decide_eq_true h0
      · omega
    · omega
  · omega
/-- the code that Normal gives back -/
def nrmI (d : Int) (c : List UInt8) (l : List Ln) : Int :=
  if headI d c ≠ 0 then headI d c else if fldI l ≠ 0 then fldI l else if balB l = false then 14 else if 64 < (nrmL l).length then 4 else 0
def SmK (q : Ky) : Prop := q.1.length ≤ 100000 ∧ q.2.length ≤ 100000
theorem smK_of {x : Ln} (h : Sml x) : SmK (key x) := ⟨Nat.le_trans h.1 (by omega), Nat.le_trans h.2.1 (by omega)⟩
theorem key75q {q : Ky} (h : SmK q) : keyOf Tryz.prog 140 (.agg (encK q).toArray) = some (.string (kb q)) := key75 q.1 q.2 h.1 h.2
theorem kb_injq {p q : Ky} (h1 : SmK p) (h2 : SmK q) (h : kb p = kb q) : p = q := kb_inj h1.1 h1.2 h2.1 h2.2 h
/-- the map of the sums by account and currency, after k lines -/
def NmR (l : List Ln) (bm k : Nat) (W : World) : Prop :=
  ∃ f ks, MapS 140 W bm k f ks ∧ (∀ q, SmK q → f (kb q) = txt (tot (l.take k) q)) ∧ ∀ s, s ∈ ks ↔ ∃ x ∈ l.take k, s = kb (key x)
theorem NmR.zero (l : List Ln) (w : World) : NmR l w.heap.size 0 (w.alloc (.map #[] 0)) :=
  ⟨_, [], MapS.made 140 w, fun q _ => by rw [List.take_zero, tot_nil, txt_zero], fun s => by simp⟩
theorem NmR.kept {l : List Ln} {bm k : Nat} {W W' : World} {row : Option Nat} (h : NmR l bm k W) (hg : W.grownBy W' row) (hne : some bm ≠ row) : NmR l bm k W' := by
  obtain ⟨f, ks, h1, h2, h3⟩ := h
  exact ⟨f, ks, h1.kept hg hne, h2, h3⟩
theorem NmR.below {l : List Ln} {bm k : Nat} {W W' : World} (h : NmR l bm k W) (hb : Below W.heap.size W W') : NmR l bm k W' := h.kept (grown_of_below hb) (by simp)
theorem NmR.lt {l : List Ln} {bm k : Nat} {W : World} (h : NmR l bm k W) : bm < W.heap.size := by
  obtain ⟨f, ks, h1, _⟩ := h
  exact h1.lt
theorem NmR.look {l : List Ln} {bm k : Nat} {W : World} (h : NmR l bm k W) (a c : List UInt8) (hq : SmK (a, c)) : (Instr.lookup 137 (.map (some bm)) (.agg #[.string ⟨a.toArray⟩, .string ⟨c.toArray⟩]) false).run Tryz.prog W = .ok (.string ⟨(txt (tot (l.take k) (a, c))).toArray⟩) W := by
  obtain ⟨f, ks, h1, h2, h3⟩ := h
  have := h1.look keyed75 Tryz.underlying137 (key75q hq)
  rw [h2 _ hq] at this
  exact this
theorem NmR.put {l : List Ln} {bm k : Nat} {W : World} (h : NmR l bm k W) (a c m : List UInt8) (hq : SmK (a, c)) (hk : k < 10000) (htk : l.take (k + 1) = l.take k ++ [(a, c, m)]) (_hsm : ∀ x ∈ l, Sml x) (hv : (txt (val (txt (tot (l.take k) (a, c))) + val m)).length ≤ 100000) :
    ∃ W', (Instr.mapUpdate 137 (.map (some bm)) (.agg #[.string ⟨a.toArray⟩, .string ⟨c.toArray⟩]) (.string ⟨(txt (val (txt (tot (l.take k) (a, c))) + val m)).toArray⟩)).run Tryz.prog W = .ok () W' ∧ NmR l bm (k + 1) W' ∧ W.grownBy W' (some bm) := by
  obtain ⟨f, ks, h1, h2, h3⟩ := h
  obtain ⟨W', hrun, hm, hg⟩ := h1.put keyed75 Tryz.underlying137 (by omega) (key75q hq) hv
  refine ⟨W', hrun, ⟨_, _, hm, fun q hq2 => ?_, fun s => ?_⟩, hg⟩
  · by_cases e : kb q = kb (a, c)
    · have e2 := kb_injq hq2 hq e
      subst e2
      rw [if_pos rfl, val_txt, htk, tot_snoc, if_pos (show key (a, c, m) = (a, c) from rfl)]
    · rw [if_neg e, h2 q hq2, htk, tot_snoc, if_neg (fun e2 => e (by rw [← e2]; rfl))]
      simp
  · rw [List.mem_cons, h3, htk]
    constructor
    · rintro (rfl | ⟨x, hx, rfl⟩)
      · exact ⟨_, List.mem_append_right _ (List.mem_singleton.2 rfl), rfl⟩
      · exact ⟨x, List.mem_append_left _ hx, rfl⟩
    · rintro ⟨x, hx, rfl⟩
      rcases List.mem_append.1 hx with h | h
      · exact .inr ⟨x, h, rfl⟩
      · rw [List.mem_singleton.1 h]; exact .inl rfl
/-- the sorted keys are the lines' keys, each once -/
theorem keys_of {l : List Ln} (hsm : ∀ x ∈ l, Sml x) {D : DataW Nat} {ks : List (List UInt8)} (hks : ∀ s, s ∈ ks ↔ ∃ x ∈ l, s = kb (key x)) (hD : ∀ k, has D (.string k) = true ↔ k ∈ ks) {m : List Ky} (hm : KeysD D m) (hs : Srt cmpKy m) :
    m.Pairwise (fun p q => cmpKy p q = -1) ∧ (∀ k, k ∈ m ↔ ∃ x ∈ l, key x = k) ∧ ∀ q ∈ m, SmK q := by
  have h1 : ∀ q ∈ m, ∃ x ∈ l, key x = q := fun q hq => by
    obtain ⟨x, hx, e⟩ := (hks _).1 ((hD _).1 ((hm.2.1 _).1 (List.mem_map_of_mem hq)))
    refine ⟨x, hx, ?_⟩
    have h2 := hm.2.2.2 q hq
    have h3 := key75q (smK_of (hsm x hx))
    rw [e] at h2
    have := keyed75.inj h2 h3
    exact (encK_inj this).symm
  have hnd : m.Nodup := by
    have := hm.1
    exact List.Pairwise.of_map kb (fun a b h e => h (by rw [e])) this
  refine ⟨?_, fun k => ⟨h1 k, ?_⟩, fun q hq => ?_⟩
  · have := List.Pairwise.and hs hnd
    refine this.imp fun {p q} hpq => ?_
    have r := cmpKy_cmp.rng p q
    have : cmpKy p q ≠ 0 := fun e => hpq.2 (cmpKy_zero.1 e)
    omega
  · rintro ⟨x, hx, rfl⟩
    have h2 := (hm.2.1 (kb (key x))).2 ((hD _).2 ((hks _).2 ⟨x, hx, rfl⟩))
    obtain ⟨q, hq, e⟩ := List.mem_map.1 h2
    obtain ⟨y, hy, rfl⟩ := h1 q hq
    rw [kb_injq (smK_of (hsm y hy)) (smK_of (hsm x hx)) e] at hq
    exact hq
  · obtain ⟨x, hx, rfl⟩ := h1 q hq
    exact smK_of (hsm x hx)
def big60 : Nat := 10 ^ 60
theorem tot_bd60 (l : List Ln) (h : ∀ x ∈ l, x.2.2.length ≤ 60) (k : Ky) : (tot l k).natAbs ≤ l.length * big60 := by
  induction l with
  | nil => simp [tot]
  | cons x r ih =>
    have h1 : (val x.2.2).natAbs < big60 := Nat.lt_of_lt_of_le (val_bd _) (Nat.pow_le_pow_right (by omega) (h x (by simp)))
    have h2 := ih fun y hy => h y (List.mem_cons_of_mem _ hy)
    rw [tot_cons, List.length_cons, Nat.add_mul]
    split <;> omega
theorem bd60_txt {v : Int} {n : Nat} (h : v.natAbs ≤ n * big60) (hn : n ≤ 1000) : (txt v).length ≤ 70 := by
  have h1 : n * big60 ≤ 1000 * big60 := Nat.mul_le_mul_right _ hn
  have h2 : 1000 * big60 < 10 ^ 69 := by decide
  have := txt_bd (k := 69) (show v.natAbs < 10 ^ 69 by omega)
  omega
theorem rowsK_sml {l : List Ln} (hl : l.length ≤ 1000) (hsm : ∀ x ∈ l, Sml x) (h60 : ∀ x ∈ l, x.2.2.length ≤ 60) {m : List Ky} (hm : ∀ q ∈ m, ∃ x ∈ l, key x = q) : ∀ z ∈ rowsK l m, Sml z := by
  intro z hz
  obtain ⟨h1, h2, _⟩ := rowsK_key hz
  obtain ⟨x, hx, e⟩ := hm _ h1
  have h3 := hsm x hx
  simp only [key, Prod.mk.injEq] at e
  refine ⟨by rw [← e.1]; exact h3.1, by rw [← e.2]; exact h3.2.1, ?_⟩
  rw [h2]
  have := bd60_txt (tot_bd60 l h60 (key z)) hl
  omega
theorem take_ky (m : List Ky) (k : Nat) (h : k < m.length) : m.take (k + 1) = m.take k ++ [m.getD k ([], [])] := by
  rw [List.take_succ_eq_append_getElem h, List.getD_eq_getElem?_getD, List.getElem?_eq_getElem h]; rfl
theorem txt_nrmI {d : Int} {c : List UInt8} {l : List Ln} : nrmI d c l = if headI d c ≠ 0 then headI d c else if fldI l ≠ 0 then fldI l else if balB l = false then 14 else if 64 < (nrmL l).length then 4 else 0 := rfl
end Go.Proofs.YtjcbohbpkodkoaaGreatDoor
