/- The contract of the iterator over the segments of a string. -/
import Derived.Test.YtklmgogppljolaaDoorBox
import Derived.Test.YtklmgogppljolaaDoorSegs
import Derived.Test.YtklmgogppljolaaDoorName
import Derived.Test.YtklmgogppljolaaDoorShelf
import Derived.Maps.AppendAt
import Derived.Outline
namespace Go.Proofs.YtklmgogppljolaaDoor
open Go.RowKit Go.Shelf
attribute [local go_sem] Oper.semAt_some

/-- a segment: a list of bytes that is not too long -/
abbrev Seg := { x : List UInt8 // x.length < 4294967281 }
/-- the library's variable holds an integer -/
def ML (w : World) : Prop := ∃ m, w.cell? ⟨0, 0, none⟩ = some (.int .i64 m)
theorem ML.same {w w' : World} (h : ML w) (e : w'.heap[0]? = w.heap[0]?) : ML w' := by
  obtain ⟨m, hm⟩ := h
  exact ⟨m, by rw [World.cell?_of_block e]; exact hm⟩
theorem ML.lt {w : World} (h : ML w) : 0 < w.heap.size := by
  obtain ⟨m, hm⟩ := h
  exact block_lt_of_cell hm
theorem ML.below {w w' : World} (h : ML w) (hb : Below w.heap.size w w') : ML w' := h.same (hb.block 0 h.lt)
def boxLen (bs : Nat) (w : World) : Nat := match w.cell? ⟨bs, 0, none⟩ with
  | some (.string s) => s.size
  | _ => 0
theorem boxLen_eq {bs : Nat} {w : World} {s : ByteArray} (h : Boxed w bs 9 (.string s)) : boxLen bs w = s.size := by rw [boxLen, h.cell]
theorem grown_drewN (w : World) (n : Nat) (r : Option Nat) : w.grownBy (w.drewN n) r := ⟨rfl, rfl, rfl, Nat.le_refl _, fun _ _ _ => rfl⟩
set_option maxRecDepth 100000 in
set_option maxHeartbeats 2000000 in
theorem seg_stops (d bs : Nat) (l : List UInt8) (w : World) (hbox : Boxed w bs 9 (.string ⟨l.toArray⟩)) (hlen : l.length < 4294967281) (hm : ML w) (hbl : bs < w.heap.size) (hb0 : bs ≠ 0) :
    SeqBox Fence.wide d Tryd.prog 29 #[.pointer (some ⟨bs, 0, none⟩)] (fun x : Seg => #[.string ⟨x.1.toArray⟩]) bs (fun xs => xs.map (·.1) = segs l) (fun pre => pre.map (·.1) <+: segs l) (segs l).length w := by
  intro lp J Jx W hW hJ hJx hY h0
  have hboxW : Boxed W bs 9 (.string ⟨l.toArray⟩) := (hW.block bs hbl).trans hbox
  have hmW : ML W := hm.below hW
  refine callsIn_of_wp Tryd.func29 rfl trivial ?_ rfl
  simp only [Tryd.ntmps29, List.size_toArray, List.length_cons, List.length_nil, Nat.reduceAdd, Nat.reduceSub, Array.replicate_succ, Array.replicate_zero, List.push_toArray, List.append_toArray, List.nil_append, List.cons_append]
  gi_wp2
  gi_loopw [3, 4, 5] (fun _ _ _ wr => ∃ (pre : List Seg) (rest : List UInt8), Hid (segs l = pre.map (·.1) ++ segs rest) ∧ rest.length < 4294967281 ∧ Boxed wr bs 9 (.string ⟨rest.toArray⟩) ∧ ML wr ∧ J pre wr) (fun _ _ _ wr => boxLen bs wr)
  case atStart => exact ⟨[], l, rfl, hlen, hboxW, hmW, h0⟩
  case round =>
    obtain ⟨pre, rest, hseg, hrl, hbx, hml, hj⟩ := hrel
    have hcell := hbx.cell
    have hfr := hbx.frozen
    have hlt : pre.length < (segs l).length := by
      rw [hseg.out, List.length_append, List.length_map]
      have := List.length_pos_iff.2 (segs_ne rest)
      omega
    have hbxl := Lib.hid (boxLen_eq hbx)
    obtain ⟨m, hm0⟩ := hml
    rcases cut_dot rest with ⟨hno, hc, hs⟩ | ⟨a, b, hr, hno, hc, hs⟩
    · have hcut : CallsIn Fence.wide (d - 1) Tryd.prog 30 #[.string ⟨rest.toArray⟩, .string ⟨#[46]⟩] wr fun e W1 => e = .returned (.tuple #[.string ⟨rest.toArray⟩, .string ⟨#[]⟩, .bool false]) ∧
          YieldAt Fence.wide (d - 1) Tryd.prog lp #[.string ⟨rest.toArray⟩] W1 fun e A' => (e = .returned (.bool true) ∧ J (pre ++ [⟨rest, hrl⟩]) A') ∨ (e = .returned (.bool false) ∧ Jx (pre ++ [⟨rest, hrl⟩]) A') := by
        refine (callsIn_wide.2 (Tryd.strings_Cut ⟨rest.toArray⟩ ⟨#[46]⟩ m wr hrl hm0)).mono ?_
        rintro e W1 ⟨rfl, n, rfl⟩
        refine ⟨?_, YieldAt.mono (hY pre ⟨rest, hrl⟩ _ (hJ _ _ _ hj (grown_drewN wr n _)) hlt) ?_⟩
        · show Ending.returned (.tuple #[.string ⟨(Lib.cut rest [46]).1.toArray⟩, .string ⟨(Lib.cut rest [46]).2.1.toArray⟩, .bool (Lib.cut rest [46]).2.2]) = _
          rw [hc]
        · rintro e A' (⟨h1, h2, _⟩ | h)
          · exact .inl ⟨h1, h2⟩
          · exact .inr h
      have HS := Lib.hid hs
      clear hs hc hno hJ hJx hY hbox hboxW hmW hm hbx hj
      gi_wp2_with (first
        | (refine ⟨trivial, fun h => (by cases h), ?_⟩; refine hcut.mono ?_; clear hcut; rintro e W1 ⟨rfl, fn, tmps, assign, body, hy, hR⟩))
      refine ⟨fun h => (by cases h), ?_⟩
      refine hR.mono ?_
      clear hR
      rintro e W2 (⟨rfl, h1⟩ | ⟨rfl, h1⟩)
      · gi_wp2
        refine bodyPost_ret (results_none rfl _ _ _) rfl ?_
        exact ⟨⟨_, rfl⟩, .inl ⟨_, by rw [hseg.out, HS.out]; simp, h1⟩⟩
      · gi_wp2
        refine bodyPost_ret (results_none rfl _ _ _) rfl ?_
        exact ⟨⟨_, rfl⟩, .inr ⟨_, ⟨[], by rw [hseg.out, HS.out]; simp⟩, h1⟩⟩
    · have hal : a.length < 4294967281 := by rw [hr, List.length_append] at hrl; omega
      have hcut : CallsIn Fence.wide (d - 1) Tryd.prog 30 #[.string ⟨rest.toArray⟩, .string ⟨#[46]⟩] wr fun e W1 => e = .returned (.tuple #[.string ⟨a.toArray⟩, .string ⟨b.toArray⟩, .bool true]) ∧
          YieldAt Fence.wide (d - 1) Tryd.prog lp #[.string ⟨a.toArray⟩] W1 fun e A' => (e = .returned (.bool true) ∧ J (pre ++ [⟨a, hal⟩]) A' ∧ Boxed A' bs 9 (.string ⟨rest.toArray⟩) ∧ ML A') ∨ (e = .returned (.bool false) ∧ Jx (pre ++ [⟨a, hal⟩]) A') := by
        refine (callsIn_wide.2 (Tryd.strings_Cut ⟨rest.toArray⟩ ⟨#[46]⟩ m wr hrl hm0)).mono ?_
        rintro e W1 ⟨rfl, n, rfl⟩
        refine ⟨?_, YieldAt.mono (hY pre ⟨a, hal⟩ _ (hJ _ _ _ hj (grown_drewN wr n _)) hlt) ?_⟩
        · show Ending.returned (.tuple #[.string ⟨(Lib.cut rest [46]).1.toArray⟩, .string ⟨(Lib.cut rest [46]).2.1.toArray⟩, .bool (Lib.cut rest [46]).2.2]) = _
          rw [hc]
        · rintro e A' (⟨h1, h2, h3⟩ | h)
          · exact .inl ⟨h1, h2, h3.1.trans hbx, ML.same ⟨m, hm0⟩ h3.2⟩
          · exact .inr h
      have HS := Lib.hid hs
      have HJ := Lib.hid hJ
      have HR := Lib.hid (show b.length < rest.length by rw [hr, List.length_append, List.length_cons]; omega)
      clear hs hc hno hr hJ hJx hY hbox hboxW hmW hm hbx hj
      gi_wp2_with (first
        | (refine ⟨trivial, fun h => (by cases h), ?_⟩; refine hcut.mono ?_; clear hcut; rintro e W1 ⟨rfl, fn, tmps, assign, body, hy, hR⟩))
      refine ⟨fun h => (by cases h), ?_⟩
      refine hR.mono ?_
      clear hR
      rintro e W2 (⟨rfl, h1, h2, h3⟩ | ⟨rfl, h1⟩)
      · have hc2 := h2.cell
        have hf2 := h2.frozen
        gi_wp2
        go_roundw
        case rel =>
          exact ⟨pre ++ [⟨a, hal⟩], b, by show segs l = _; rw [hseg.out, HS.out]; simp, by have := HR.out; omega, h2.set _, h3.same ((grownBy_setCell' W2 bs _).block 0 h3.lt (fun e => hb0 (by cases e; rfl))), HJ.out _ _ _ h1 (grownBy_setCell' W2 bs _)⟩
        case measure => rw [boxLen_eq (h2.set _), hbxl.out]; exact HR.out
      · gi_wp2
        refine bodyPost_ret (results_none rfl _ _ _) rfl ?_
        exact ⟨⟨_, rfl⟩, .inr ⟨_, ⟨segs b, by rw [hseg.out, HS.out]; simp⟩, h1⟩⟩
end Go.Proofs.YtklmgogppljolaaDoor
