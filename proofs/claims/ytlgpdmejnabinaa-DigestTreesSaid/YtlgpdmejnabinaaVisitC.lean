/- The closure that visits the tree: where it cuts. -/
import Derived.RangeFuncNested
import Derived.RangeFuncBound
import Derived.RangeFuncCalls
import Derived.RangeFuncLeaves
import Derived.Shelf.Abstract
import Derived.Shelf.RegionOpen
import Derived.WalkKit
import Derived.OwnWalkIn
import Derived.TacticsInMore
import Derived.LoopNIn
import Derived.LoopIn
import Derived.Maps.AppendAt
import Derived.Stop.RegionWithIn
import Derived.Test.YtlgpdmejnabinaaRoot
namespace Go.Proofs.Ytlgpdmejnabinaa
open Go.RowKit Go.Shelf
attribute [local go_sem] Oper.semAt_some


set_option maxRecDepth 100000 in
set_option maxHeartbeats 2000000 in
theorem visit_cut (bb bn by_ bl bv at_ : Nat) (bf : Bool) (a b dd kk mm d : Nat) (W : World) (R : Bool → World → Prop)
    (c0 : W.cell? ⟨bb, 0, none⟩ = some (.bool bf)) (c1 : W.cell? ⟨bn, 0, none⟩ = some (.int .i64 (at_ : Int))) (c4 : W.cell? ⟨bv, 0, none⟩ = some (.func (.func 62) #[] #[.pointer (some ⟨bb, 0, none⟩), .pointer (some ⟨bn, 0, none⟩), .pointer (some ⟨by_, 0, none⟩), .pointer (some ⟨bl, 0, none⟩), .pointer (some ⟨bv, 0, none⟩)]))
    (hcut : ∀ w, Calls Try.prog 58 #[.int .i64 (dd : Int)] w fun e w' => e = .returned (.int .i64 (kk : Int)) ∧ w = w')
    (hw1 : IntKind.i64.wrap ((b : Int) - (a : Int)) = (dd : Int)) (hw2 : IntKind.i64.wrap ((a : Int) + (kk : Int)) = (mm : Int))
    (hab : (a : Int) < (b : Int)) (h' : (a : Int) < (at_ : Int)) (h'' : (at_ : Int) < (b : Int))
    (ih1 : CallsIn Fence.wide (d - 1) Try.prog 62 #[.int .i64 (a : Int), .int .i64 (mm : Int), .pointer (some ⟨bb, 0, none⟩), .pointer (some ⟨bn, 0, none⟩), .pointer (some ⟨by_, 0, none⟩), .pointer (some ⟨bl, 0, none⟩), .pointer (some ⟨bv, 0, none⟩)] W fun e W1 =>
      (e = .returned (.bool true) ∧ W1.cell? ⟨bv, 0, none⟩ = some (.func (.func 62) #[] #[.pointer (some ⟨bb, 0, none⟩), .pointer (some ⟨bn, 0, none⟩), .pointer (some ⟨by_, 0, none⟩), .pointer (some ⟨bl, 0, none⟩), .pointer (some ⟨bv, 0, none⟩)]) ∧
        CallsIn Fence.wide (d - 1) Try.prog 62 #[.int .i64 (mm : Int), .int .i64 (b : Int), .pointer (some ⟨bb, 0, none⟩), .pointer (some ⟨bn, 0, none⟩), .pointer (some ⟨by_, 0, none⟩), .pointer (some ⟨bl, 0, none⟩), .pointer (some ⟨bv, 0, none⟩)] W1 fun e W' => ∃ x : Bool, e = .returned (.bool x) ∧ R x W') ∨
      (e = .returned (.bool false) ∧ R false W1)) :
    CallsIn Fence.wide d Try.prog 62 #[.int .i64 (a : Int), .int .i64 (b : Int), .pointer (some ⟨bb, 0, none⟩), .pointer (some ⟨bn, 0, none⟩), .pointer (some ⟨by_, 0, none⟩), .pointer (some ⟨bl, 0, none⟩), .pointer (some ⟨bv, 0, none⟩)] W fun e W' => ∃ x : Bool, e = .returned (.bool x) ∧ R x W' := by
  refine callsIn_of_wp Try.func62 rfl trivial ?_ rfl
  simp only [Try.ntmps62, List.size_toArray, List.length_cons, List.length_nil, Nat.reduceAdd, Nat.reduceSub, Array.replicate_succ, Array.replicate_zero, List.push_toArray, List.append_toArray, List.nil_append, List.cons_append]
  cases bf
  · gi_wp2
    refine ⟨trivial, fun h => (by cases h), ?_⟩
    refine (callsIn_wide.2 (hcut _)).mono ?_
    rintro e W' ⟨rfl, rfl⟩
    gi_wp2
    refine ⟨trivial, fun h => (by cases h), ?_⟩
    refine ih1.mono ?_
    clear ih1
    rintro e W1 (⟨rfl, c4', ih2⟩ | ⟨rfl, hx1⟩)
    · gi_wp2
      refine ⟨trivial, fun h => (by cases h), ?_⟩
      refine ih2.mono ?_
      rintro e W2 ⟨x, rfl, hx⟩
      gi_wp2
      go_ret
      exact ⟨_, rfl, hx⟩
    · gi_wp2
      refine ⟨fun _ h => (by cases h), ?_⟩
      gi_wp2
      go_ret
      exact ⟨_, rfl, hx1⟩
  · gi_wp2
    refine ⟨trivial, fun h => (by cases h), ?_⟩
    refine (callsIn_wide.2 (hcut _)).mono ?_
    rintro e W' ⟨rfl, rfl⟩
    gi_wp2
    refine ⟨trivial, fun h => (by cases h), ?_⟩
    refine ih1.mono ?_
    clear ih1
    rintro e W1 (⟨rfl, c4', ih2⟩ | ⟨rfl, hx1⟩)
    · gi_wp2
      refine ⟨trivial, fun h => (by cases h), ?_⟩
      refine ih2.mono ?_
      rintro e W2 ⟨x, rfl, hx⟩
      gi_wp2
      go_ret
      exact ⟨_, rfl, hx⟩
    · gi_wp2
      refine ⟨fun _ h => (by cases h), ?_⟩
      gi_wp2
      go_ret
      exact ⟨_, rfl, hx1⟩
end Go.Proofs.Ytlgpdmejnabinaa
