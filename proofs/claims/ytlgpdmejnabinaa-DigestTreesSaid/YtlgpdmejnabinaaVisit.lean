/- Contracts of digest.parts, its iterator and the closure that visits the tree. -/
import Derived.RangeFuncNested
import Derived.RangeFuncBound
import Derived.RangeFuncCalls
import Derived.RangeFuncLeaves
import Derived.Shelf.Abstract
import Derived.Shelf.RegionOpen
import Derived.WalkKit
import Derived.OwnWalkIn
import Derived.TacticsInMore
import Derived.LoopNIn
import Derived.LoopIn
import Derived.Maps.AppendAt
import Derived.Stop.RegionWithIn
import Derived.Test.YtlgpdmejnabinaaRoot
import Derived.Test.YtlgpdmejnabinaaVisitC
namespace Go.Proofs.Ytlgpdmejnabinaa
open Go.RowKit Go.Shelf
attribute [local go_sem] Oper.semAt_some

theorem roomOfNone {F : Fence} (hd : F.depth = none) (k : Nat) : F.room k := fun d h => by rw [hd] at h; cases h
theorem roundAny {F : Fence} (hd : F.depth = none) {m m' : Nat} {P : Program} {l : Nat} {f : FuncId} {tmps : Array Value} {assign body : Code} {w : World} {R : Ending → World → Prop}
    (h : RoundIn F m P l f tmps assign body w R) : RoundIn F m' P l f tmps assign body w R := ⟨h.1, fun c cs _ => h.2 c cs (roomOfNone hd _)⟩
theorem yieldAny {F : Fence} (hd : F.depth = none) {m : Nat} (m' : Nat) {P : Program} {l : Nat} {args : Array Value} {W : World} {R : Ending → World → Prop} (h : YieldAt F m P l args W R) : YieldAt F m' P l args W R := by
  obtain ⟨fn, tmps, assign, body, hy, hR⟩ := h
  exact ⟨fn, tmps, assign, body, hy, roundAny hd hR⟩

/-- the roots that are visited for the strings from a to b -/
def visitF : Nat → List ByteArray → Nat → Bool → Nat → Nat → List ByteArray
  | 0, _, _, _, _, _ => []
  | f + 1, l, n, bf, a, b => if b ≤ a ∨ (bf = true ∧ n ≤ a) ∨ (bf = false ∧ b ≤ n) then [] else if (bf = true ∧ b ≤ n) ∨ (bf = false ∧ n ≤ a) then [rootB ((l.drop a).take (b - a))] else visitF f l n bf a (a + cutN (b - a)) ++ visitF f l n bf (a + cutN (b - a)) b
def visitB (l : List ByteArray) (n : Nat) (bf : Bool) (a b : Nat) : List ByteArray := visitF (b - a) l n bf a b
theorem visitF_more (f g : Nat) (l : List ByteArray) (n : Nat) (bf : Bool) (a b : Nat) (hf : b - a ≤ f) (hg : b - a ≤ g) : visitF f l n bf a b = visitF g l n bf a b := by
  induction f generalizing g a b with
  | zero => cases g with
    | zero => rfl
    | succ g => rw [visitF, visitF, if_pos (.inl (by omega))]
  | succ f ih =>
    cases g with
    | zero => rw [visitF, visitF, if_pos (.inl (by omega))]
    | succ g =>
      rw [visitF, visitF]
      split
      · rfl
      · split
        · rfl
        · rename_i h1 h2
          have h3 : 2 ≤ b - a := by
            cases bf <;> simp at h1 h2 <;> omega
          have := cutN_pos _ h3
          have := cutN_lt _ h3
          rw [ih g a _ (by omega) (by omega), ih g _ b (by omega) (by omega)]
theorem visitB_none {l : List ByteArray} {n : Nat} {bf : Bool} {a b : Nat} (h : b ≤ a ∨ (bf = true ∧ n ≤ a) ∨ (bf = false ∧ b ≤ n)) : visitB l n bf a b = [] := by
  unfold visitB
  cases hba : b - a with
  | zero => rfl
  | succ f => rw [visitF, if_pos h]
theorem visitB_whole {l : List ByteArray} {n : Nat} {bf : Bool} {a b : Nat} (h : ¬ (b ≤ a ∨ (bf = true ∧ n ≤ a) ∨ (bf = false ∧ b ≤ n))) (h2 : (bf = true ∧ b ≤ n) ∨ (bf = false ∧ n ≤ a)) : visitB l n bf a b = [rootB ((l.drop a).take (b - a))] := by
  unfold visitB
  cases hba : b - a with
  | zero => exact (h (.inl (by omega))).elim
  | succ f => rw [visitF, if_neg h, if_pos h2, hba]
theorem visitB_cut {l : List ByteArray} {n : Nat} {bf : Bool} {a b : Nat} (h : ¬ (b ≤ a ∨ (bf = true ∧ n ≤ a) ∨ (bf = false ∧ b ≤ n))) (h2 : ¬ ((bf = true ∧ b ≤ n) ∨ (bf = false ∧ n ≤ a))) :
    2 ≤ b - a ∧ visitB l n bf a b = visitB l n bf a (a + cutN (b - a)) ++ visitB l n bf (a + cutN (b - a)) b := by
  have h3 : 2 ≤ b - a := by
    cases bf <;> simp at h h2 <;> omega
  refine ⟨h3, ?_⟩
  have := cutN_pos _ h3
  have := cutN_lt _ h3
  unfold visitB
  obtain ⟨f, hba⟩ : ∃ f, b - a = f + 1 := ⟨b - a - 1, by omega⟩
  conv => lhs; rw [hba, visitF, if_neg h, if_neg h2]
  · rw [visitF_more f _ l n bf a _ (by omega) (Nat.le_refl _), visitF_more f _ l n bf _ b (by omega) (Nat.le_refl _)]

/-- what a round of the loop in Grow keeps: what lay below, and every block of cells but the list's box and rows of strings -/
def Kp (n₀ Bo : Nat) (W W' : World) : Prop := Below n₀ W W' ∧ ∀ k vs t, k ≠ Bo → t ≠ 9 → W.heap[k]? = some (.cells vs t (0, 0)) → W'.heap[k]? = some (.cells vs t (0, 0))
theorem Kp.refl (n₀ Bo : Nat) (W : World) : Kp n₀ Bo W W := ⟨Below.refl _ _, fun _ _ _ _ _ h => h⟩
theorem Kp.trans {n₀ Bo : Nat} {A B C : World} (h : Kp n₀ Bo A B) (k : Kp n₀ Bo B C) : Kp n₀ Bo A C := ⟨h.1.trans k.1, fun i vs t h1 h2 h3 => k.2 i vs t h1 h2 (h.2 i vs t h1 h2 h3)⟩
theorem Kp.of_below {n₀ Bo : Nat} {A B : World} (hn : n₀ ≤ A.heap.size) (h : Below A.heap.size A B) : Kp n₀ Bo A B := ⟨h.mono hn, fun i vs t _ _ h3 => by rw [h.block i (Array.getElem?_eq_some_iff.1 h3).1]; exact h3⟩
theorem Kp.box {n₀ Bo B t : Nat} {v : Value} {W W' : World} (h : Kp n₀ Bo W W') (hb : Boxed W B t v) (h1 : B ≠ Bo) (h2 : t ≠ 9) : Boxed W' B t v := h.2 B _ t h1 h2 hb
theorem Kp.put {n₀ Bo : Nat} {w : World} (hn : n₀ ≤ w.heap.size) (W : World) (l : Nat) (o o' : Obj) (hl : w.heap.size ≤ l) (h : W.heap[l]? = some o) (hc : o.isCells = false) (_ : o.isWalk = false) : Kp n₀ Bo W (W.putObj l o') :=
  ⟨belowK_b hn W l o o' hl h hc ‹_›, fun i vs t _ _ h3 => by
    have : i ≠ l := fun e => by subst e; rw [h3] at h; cases h; cases hc
    exact (World.putObj_heap_other this).trans h3⟩

/-- what the closure has captured -/
structure Env (n₀ Bo l0 bb bn by_ bl bv : Nat) (w₀ : World) (bf : Bool) (at_ : Nat) (A : Option Addr) (n c : Nat) (W : World) : Prop where
  hb : Boxed W bb 4 (.bool bf)
  hn : Boxed W bn 3 (.int .i64 (at_ : Int))
  hy : Boxed W by_ 26 (.func (.yield l0) #[] #[])
  hl : Boxed W bl 27 (.slice A n c)
  hv : Boxed W bv 77 (.func (.func 62) #[] #[.pointer (some ⟨bb, 0, none⟩), .pointer (some ⟨bn, 0, none⟩), .pointer (some ⟨by_, 0, none⟩), .pointer (some ⟨bl, 0, none⟩), .pointer (some ⟨bv, 0, none⟩)])
  below : Below n₀ w₀ W
  out : bb ≠ Bo ∧ bn ≠ Bo ∧ by_ ≠ Bo ∧ bl ≠ Bo ∧ bv ≠ Bo
theorem Env.kept {n₀ Bo l0 bb bn by_ bl bv : Nat} {w₀ : World} {bf : Bool} {at_ : Nat} {A : Option Addr} {n c : Nat} {W W' : World} (h : Env n₀ Bo l0 bb bn by_ bl bv w₀ bf at_ A n c W) (k : Kp n₀ Bo W W') : Env n₀ Bo l0 bb bn by_ bl bv w₀ bf at_ A n c W' :=
  ⟨k.box h.hb h.out.1 (by decide), k.box h.hn h.out.2.1 (by decide), k.box h.hy h.out.2.2.1 (by decide), k.box h.hl h.out.2.2.2.1 (by decide), k.box h.hv h.out.2.2.2.2 (by decide), h.below.trans k.1, h.out⟩

theorem grown_of_below {W W' : World} (h : Below W.heap.size W W') : W.grownBy W' none := ⟨h.os, h.tape, h.output, h.size, fun k hk _ => h.block k hk⟩

set_option maxRecDepth 100000 in
set_option maxHeartbeats 2000000 in
theorem visit_in (l0 n₀ Bo bb bn by_ bl bv N at_ n c : Nat) (w₀ : World) (bf : Bool) (A : Option Addr) (l : List ByteArray) (hw : w₀.heap.size = n₀) (hS : Strs w₀ A n c l) (hn : n ≤ 1000000) (hl : ∀ x ∈ l, x.size ≤ 1000000) (hat : at_ ≤ n)
    (B : Nat) (J Jx : List ByteArray → World → Prop) (hJ : AbidesFrom B J)
    (hY : ∀ m pre x W, J pre W → pre.length < N → YieldAt Fence.wide m Try.prog l0 #[.string x] W fun e W' =>
      (e = .returned (.bool true) ∧ J (pre ++ [x]) W' ∧ Kp n₀ Bo W W') ∨ (e = .returned (.bool false) ∧ Jx (pre ++ [x]) W')) (m : Nat) :
    ∀ (a b : Nat) (d : Nat) (pre : List ByteArray) (W : World), b - a ≤ m → b ≤ n → J pre W → Env n₀ Bo l0 bb bn by_ bl bv w₀ bf at_ A n c W → pre.length + (visitB l at_ bf a b).length ≤ N →
      CallsIn Fence.wide d Try.prog 62 #[.int .i64 (a : Int), .int .i64 (b : Int), .pointer (some ⟨bb, 0, none⟩), .pointer (some ⟨bn, 0, none⟩), .pointer (some ⟨by_, 0, none⟩), .pointer (some ⟨bl, 0, none⟩), .pointer (some ⟨bv, 0, none⟩)] W fun e W' =>
        (e = .returned (.bool true) ∧ J (pre ++ visitB l at_ bf a b) W' ∧ Kp n₀ Bo W W') ∨ (e = .returned (.bool false) ∧ ∃ q, q <+: visitB l at_ bf a b ∧ Jx (pre ++ q) W') := by
  have done : ∀ (a b d : Nat) (pre : List ByteArray) (W : World), (b ≤ a ∨ (bf = true ∧ at_ ≤ a) ∨ (bf = false ∧ b ≤ at_)) → J pre W → Env n₀ Bo l0 bb bn by_ bl bv w₀ bf at_ A n c W →
      CallsIn Fence.wide d Try.prog 62 #[.int .i64 (a : Int), .int .i64 (b : Int), .pointer (some ⟨bb, 0, none⟩), .pointer (some ⟨bn, 0, none⟩), .pointer (some ⟨by_, 0, none⟩), .pointer (some ⟨bl, 0, none⟩), .pointer (some ⟨bv, 0, none⟩)] W fun e W' =>
        (e = .returned (.bool true) ∧ J (pre ++ visitB l at_ bf a b) W' ∧ Kp n₀ Bo W W') ∨ (e = .returned (.bool false) ∧ ∃ q, q <+: visitB l at_ bf a b ∧ Jx (pre ++ q) W') := by
    intro a b d pre W h hj env
    have h0 := Lib.hid (visitB_none (l := l) (n := at_) (bf := bf) (a := a) (b := b) h)
    have c0 := env.hb.cell
    have c1 := env.hn.cell
    clear env hY
    refine callsIn_of_wp Try.func62 rfl trivial ?_ rfl
    simp only [Try.ntmps62, List.size_toArray, List.length_cons, List.length_nil, Nat.reduceAdd, Nat.reduceSub, Array.replicate_succ, Array.replicate_zero, List.push_toArray, List.append_toArray, List.nil_append, List.cons_append]
    by_cases hba : (b : Int) ≤ (a : Int)
    · gi_wp2
      go_ret
      exact .inl ⟨rfl, by rw [h0.out, List.append_nil]; exact hj, Kp.refl _ _ _⟩
    · rcases h with h | ⟨rfl, h⟩ | ⟨rfl, h⟩
      · omega
      · have h' : (at_ : Int) ≤ (a : Int) := by omega
        gi_wp2
        go_ret
        exact .inl ⟨rfl, by rw [h0.out, List.append_nil]; exact hj, Kp.refl _ _ _⟩
      · have h' : (b : Int) ≤ (at_ : Int) := by omega
        gi_wp2
        go_ret
        exact .inl ⟨rfl, by rw [h0.out, List.append_nil]; exact hj, Kp.refl _ _ _⟩
  induction m with
  | zero =>
    intro a b d pre W hm hbn hj env hN
    exact done a b d pre W (.inl (by omega)) hj env
  | succ m ih =>
    intro a b d pre W hm hbn hj env hN
    by_cases h : b ≤ a ∨ (bf = true ∧ at_ ≤ a) ∨ (bf = false ∧ b ≤ at_)
    · exact done a b d pre W h hj env
    clear done
    by_cases h2 : (bf = true ∧ b ≤ at_) ∨ (bf = false ∧ at_ ≤ a)
    · have h0 := Lib.hid (visitB_whole (l := l) h h2)
      rw [h0.out] at hN
      have c0 := env.hb.cell
      have c1 := env.hn.cell
      have c2 := env.hy.cell
      have c3 := env.hl.cell
      have hab : (a : Int) < (b : Int) := by omega
      have hbn' : (b : Int) ≤ (n : Int) := by omega
      have hnc : (n : Int) ≤ (c : Int) := by have := hS.cap; omega
      obtain ⟨blk, off, rfl, hblk, -⟩ := hS.at_ (by omega)
      clear ih
      refine callsIn_of_wp Try.func62 rfl trivial ?_ rfl
      simp only [Try.ntmps62, List.size_toArray, List.length_cons, List.length_nil, Nat.reduceAdd, Nat.reduceSub, Array.replicate_succ, Array.replicate_zero, List.push_toArray, List.append_toArray, List.nil_append, List.cons_append]
      have hca : ¬ c = a := by omega
      have c2d : W.drew.cell? ⟨by_, 0, none⟩ = some (.func (.yield l0) #[] #[]) := c2
      have c3d : W.drew.cell? ⟨bl, 0, none⟩ = some (.slice (some ⟨blk, off, none⟩) n c) := c3
      have hroot : CallsIn Fence.wide (d - 1) Try.prog 44 #[.slice (some ⟨blk, off + a, none⟩) (b - a) (c - a)] W.drew fun e W1 => ∃ X, e = .returned (.string X) ∧ Hid (X = rootB ((l.drop a).take (b - a))) ∧ W1.cell? ⟨by_, 0, none⟩ = some (.func (.yield l0) #[] #[]) ∧
         YieldAt Fence.wide (d - 1) Try.prog l0 #[.string X] W1 fun e W' => ∃ x : Bool, e = .returned (.bool x) ∧ ((x = true ∧ J (pre ++ [X]) W' ∧ Kp n₀ Bo W W') ∨ (x = false ∧ Jx (pre ++ [X]) W')) := by
        have hSW : Strs W.drew (some ⟨blk, off, none⟩) n c l := hS.below (by rw [hw]; exact env.below.drew)
        have hS2 := (hSW.drop a (by omega)).take (b - a) (by omega)
        refine (callsIn_wide.2 (root_any (b - a) _ (b - a) (c - a) _ W.drew (Nat.le_refl _) (by omega) hS2 (fun x hx => hl x (List.mem_of_mem_drop (List.mem_of_mem_take hx))))).mono ?_
        rintro e W1 ⟨rfl, hb1⟩
        have hk : Kp n₀ Bo W W1 := Kp.of_below (by rw [← hw]; exact env.below.size) ((Below.refl _ _).drew.trans hb1)
        refine ⟨_, rfl, rfl, (hk.box env.hy env.out.2.2.1 (by decide)).cell, YieldAt.mono (hY (d - 1) pre _ W1 (hJ _ _ _ none hj (grown_of_below ((Below.refl _ _).drew.trans hb1)) (by intro r e; cases e)) (by simp at hN; omega)) ?_⟩
        rintro e W2 (⟨rfl, h1, h2⟩ | ⟨rfl, h1⟩)
        · exact ⟨true, rfl, .inl ⟨rfl, h1, hk.trans h2⟩⟩
        · exact ⟨false, rfl, .inr ⟨rfl, h1⟩⟩
      rcases h2 with ⟨rfl, h2⟩ | ⟨rfl, h2⟩
      · have h' : (b : Int) ≤ (at_ : Int) := by omega
        have h'' : (a : Int) < (at_ : Int) := by omega
        clear env hY
        gi_wp2
        gi_region_with (first
          | (refine ⟨trivial, fun h => (by cases h), ?_⟩; refine hroot.mono ?_; clear hroot; rintro e W1 ⟨X, rfl, hX, c2w, fn, tmps, assign, body, hy, hR⟩)
          | ((try refine ⟨fun h => (by cases h), ?_⟩); refine hR.mono ?_; clear hR; rintro e W2 ⟨x, rfl, hx⟩))
        all_goals
          gi_wp2
          go_ret
          rw [h0.out, ← hX.out]
          rcases hx with ⟨rfl, h1, h2⟩ | ⟨rfl, h1⟩
          · exact .inl ⟨rfl, h1, h2⟩
          · exact .inr ⟨rfl, _, ⟨[], List.append_nil _⟩, h1⟩
      · have h' : (at_ : Int) ≤ (a : Int) := by omega
        have h'' : (at_ : Int) < (b : Int) := by omega
        clear env hY
        gi_wp2
        gi_region_with (first
          | (refine ⟨trivial, fun h => (by cases h), ?_⟩; refine hroot.mono ?_; clear hroot; rintro e W1 ⟨X, rfl, hX, c2w, fn, tmps, assign, body, hy, hR⟩)
          | ((try refine ⟨fun h => (by cases h), ?_⟩); refine hR.mono ?_; clear hR; rintro e W2 ⟨x, rfl, hx⟩))
        all_goals
          gi_wp2
          go_ret
          rw [h0.out, ← hX.out]
          rcases hx with ⟨rfl, h1, h2⟩ | ⟨rfl, h1⟩
          · exact .inl ⟨rfl, h1, h2⟩
          · exact .inr ⟨rfl, _, ⟨[], List.append_nil _⟩, h1⟩
    · obtain ⟨hba, h0⟩ := visitB_cut (l := l) h h2
      rw [h0, List.length_append] at hN
      have h0 := Lib.hid h0
      have k1 := cutN_pos _ hba
      have k2 := cutN_lt _ hba
      obtain ⟨dd, hdd⟩ : ∃ dd : Nat, dd = b - a := ⟨_, rfl⟩
      have hcut : ∀ w, Calls Try.prog 58 #[.int .i64 (dd : Int)] w fun e w' => e = .returned (.int .i64 ((cutN (b - a) : Nat) : Int)) ∧ w' = w := fun w => by rw [hdd]; exact cut_any (b - a) w (by omega)
      obtain ⟨kk, hkk⟩ : ∃ kk : Nat, kk = cutN (b - a) := ⟨_, rfl⟩
      rw [← hkk] at k1 k2 h0 hN hcut
      obtain ⟨mm, hmm⟩ : ∃ mm : Nat, mm = a + kk := ⟨_, rfl⟩
      rw [← hmm] at h0 hN
      have hw1 : IntKind.i64.wrap ((b : Int) - (a : Int)) = (dd : Int) := by rw [IntWalk.i64_in _ (by omega)]; omega
      have hw2 : IntKind.i64.wrap ((a : Int) + (kk : Int)) = (mm : Int) := by rw [IntWalk.i64_in _ (by omega)]; omega
      have c0 := env.hb.cell
      have c1 := env.hn.cell
      have c4 := env.hv.cell
      have hab : (a : Int) < (b : Int) := by omega
      have h' : (a : Int) < (at_ : Int) := by cases bf <;> simp at h h2 <;> omega
      have h'' : (at_ : Int) < (b : Int) := by cases bf <;> simp at h h2 <;> omega
      refine (visit_cut bb bn by_ bl bv at_ bf a b dd kk mm d W (fun x W' => (x = true ∧ J (pre ++ visitB l at_ bf a b) W' ∧ Kp n₀ Bo W W') ∨ (x = false ∧ ∃ q, q <+: visitB l at_ bf a b ∧ Jx (pre ++ q) W')) c0 c1 c4 (fun w => (hcut w).mono fun _ _ ⟨he, hw⟩ => ⟨he, hw.symm⟩) hw1 hw2 hab h' h'' ?_).mono ?_
      · refine (ih a mm (d - 1) pre W (by omega) (by omega) hj env (by omega)).mono ?_
        rintro e W1 (⟨rfl, hj1, hk1⟩ | ⟨rfl, q, hq, hx⟩)
        · refine .inl ⟨rfl, (hk1.box env.hv env.out.2.2.2.2 (by decide)).cell, (ih mm b (d - 1) _ W1 (by omega) hbn hj1 (env.kept hk1) (by rw [List.length_append]; omega)).mono ?_⟩
          rintro e W2 (⟨rfl, hj2, hk2⟩ | ⟨rfl, q, ⟨r, hr⟩, hx⟩)
          · exact ⟨true, rfl, .inl ⟨rfl, by rw [h0.out, ← List.append_assoc]; exact hj2, hk1.trans hk2⟩⟩
          · exact ⟨false, rfl, .inr ⟨rfl, _, ⟨r, by rw [h0.out, ← hr, List.append_assoc]⟩, by rw [← List.append_assoc]; exact hx⟩⟩
        · exact .inr ⟨rfl, .inr ⟨rfl, q, by obtain ⟨r, hr⟩ := hq; exact ⟨r ++ visitB l at_ bf mm b, by rw [h0.out, ← hr, List.append_assoc]⟩, hx⟩⟩
      · rintro e W' ⟨x, rfl, (⟨rfl, h1⟩ | ⟨rfl, h1⟩)⟩
        · exact .inl ⟨rfl, h1⟩
        · exact .inr ⟨rfl, h1⟩
end Go.Proofs.Ytlgpdmejnabinaa
