/- Contracts of maps.Keys at the map of sums, its iterator, slices.AppendSeq and Collect at keys. -/
import Derived.Test.YtdnomfekblmnbaaGreatDoorQ5
import Derived.Test.YtdnomfekblmnbaaGreatDoorQ6
import Derived.RangeFuncNested
import Derived.RangeFuncBound
import Derived.RangeFuncCalls
import Derived.RangeFuncLeaves
import Derived.RangeFuncBox
import Derived.Sort.MapsRangeIn
import Derived.Sort.KeysCollected
import Derived.Maps.OwnIn
import Derived.Shelf.Abstract
import Derived.Shelf.RegionOpen
import Derived.WalkKit
import Derived.OwnWalkIn
import Derived.TacticsInMore
import Derived.LoopNIn
import Derived.LoopIn
namespace Go.Proofs.YtdnomfekblmnbaaGreatDoor
open Go.RowKit Go.Maps Go.Shelf Num
attribute [local go_sem] Oper.semAt_some

theorem encK_inj {p q : Ky} (h : Value.agg (encK p).toArray = .agg (encK q).toArray) : p = q := by
  obtain ⟨p1, p2⟩ := p
  obtain ⟨q1, q2⟩ := q
  simp [encK] at h
  rw [h.1, h.2]
set_option maxRecDepth 100000 in
theorem lits9_inv {d : Nat} {x : Value} {z : List Lit} (h : Tryz.prog.keyLits (d + 1) 9 [x] = some z) : ∃ s : List UInt8, x = .string ⟨s.toArray⟩ ∧ z = [.string s] := by
  unfold Program.keyLits at h
  rw [Tryz.underlying9] at h
  cases x with
  | string s =>
    simp only at h
    split at h
    · exact ⟨s.data.toList, rfl, (Option.some.inj h).symm⟩
    · cases h
  | _ => simp at h
set_option maxRecDepth 100000 in
theorem key75_inv {v : Value} {kl : Lit} (h : keyOf Tryz.prog 75 v = some kl) : ∃ q : Ky, v = .agg (encK q).toArray ∧ kl = .string (kb q) := by
  obtain ⟨d, hd⟩ : ∃ d, Tryz.prog.types.size + 1 = d + 2 := ⟨Tryz.prog.types.size - 1, by have := row75; omega⟩
  unfold keyOf at h
  rw [Tryz.underlying75] at h
  simp only at h
  rw [kt75] at h
  split at h
  case isFalse => cases h
  rename_i hf
  rw [Bool.true_and] at hf
  cases v with
  | agg cs =>
    simp only [Value.formed, Tryz.underlying75, cells75, beq_iff_eq] at hf
    obtain ⟨x, y, e⟩ : ∃ x y, cs = #[x, y] := by
      match cs, hf with
      | ⟨[x, y]⟩, _ => exact ⟨x, y, rfl⟩
    subst e
    have hc : (Value.agg #[x, y]).cells.toList = [x, y] := by simp [Value.cells]
    rw [hd, hc] at h
    cases hl : Tryz.prog.keyLits (d + 2) 75 [x, y] with
    | none => rw [hl] at h; cases h
    | some ls =>
      rw [hl] at h
      unfold Program.keyLits at hl
      rw [Tryz.underlying75] at hl
      simp [cells75, cells9] at hl
      cases h1 : Tryz.prog.keyLits (d + 1) 9 [x] with
      | none => rw [h1] at hl; cases hl
      | some a =>
        cases h2 : Tryz.prog.keyLits (d + 1) 9 [y] with
        | none => rw [h1, h2] at hl; cases hl
        | some b =>
          rw [h1, h2] at hl
          obtain ⟨s1, rfl, rfl⟩ := lits9_inv h1
          obtain ⟨s2, rfl, rfl⟩ := lits9_inv h2
          have e1 := Option.some.inj hl
          have e2 := Option.some.inj h
          exact ⟨(s1, s2), rfl, by rw [← e2, ← e1]; rfl⟩
  | _ => simp [Value.formed, Tryz.underlying75] at hf
/-- the keys met so far: no one twice; a key is there just where the map has it and it is no longer to come -/
def ColK (D : DataW Nat) (left : Lit → Bool) (ss : List Ky) : Prop := (ss.map kb).Nodup ∧ (∀ k, k ∈ ss.map kb ↔ (has D (.string k) = true ∧ left (.string k) = false)) ∧ ∀ q ∈ ss, keyOf Tryz.prog 75 (.agg (encK q).toArray) = some (.string (kb q))
theorem ColK.start (D : DataW Nat) : ColK D (has D) [] := ⟨List.nodup_nil, fun k => by cases has D (.string k) <;> simp, fun q hq => by cases hq⟩
theorem ColK.step {D : DataW Nat} {left : Lit → Bool} {ss : List Ky} (h : ColK D left ss) {q : Ky} {y : DataW Nat} (hky : keyOf Tryz.prog 75 (.agg (encK q).toArray) = some (.string (kb q))) (hlk : left (.string (kb q)) = true) (hat : ∀ zd, D.atKey (.string (kb q)) zd = y) : ColK D (fun z => left z && !z.sameKey (.string (kb q))) (ss ++ [q]) := by
  have hhas : has D (.string (kb q)) = true := has_true_of_atKey hat
  have hnew : kb q ∉ ss.map kb := fun hx => by have := ((h.2.1 (kb q)).1 hx).2; rw [hlk] at this; cases this
  rw [ColK, List.map_append]
  refine ⟨List.nodup_append.2 ⟨h.1, by simp, fun a ha b hb => by simp at hb; subst hb; exact fun e => hnew (e ▸ ha)⟩, fun y => ?_, fun p hp => ?_⟩
  · by_cases hy : y = kb q
    · subst hy; simp [hhas, Lit.sameKey]
    · rw [List.mem_append, h.2.1 y]; simp [hy, Lit.sameKey]
  · rcases List.mem_append.1 hp with hp | hp
    · exact h.2.2 p hp
    · rw [List.mem_singleton.1 hp]; exact hky
/-- what the iterator gave: each key of the map once -/
def KeysD (D : DataW Nat) (ss : List Ky) : Prop := (ss.map kb).Nodup ∧ (∀ k, k ∈ ss.map kb ↔ has D (.string k) = true) ∧ ss.length ≤ Maps.size D ∧ ∀ q ∈ ss, keyOf Tryz.prog 75 (.agg (encK q).toArray) = some (.string (kb q))
set_option maxRecDepth 100000 in
set_option maxHeartbeats 2000000 in
theorem keys_in (d : Nat) (hd : 1 ≤ d) (l Bm b nn : Nat) (D : DataW Nat) (J Jx : List Ky → World → Prop)
    (hY : ∀ pre x W, J pre W → pre.length < Maps.size D → YieldAt Fence.wide (d - 1) Tryz.prog l #[.agg (encK x).toArray] W fun e W' =>
      (e = .returned (.bool true) ∧ J (pre ++ [x]) W' ∧ KeepsWalks W W') ∨ (e = .returned (.bool false) ∧ Jx (pre ++ [x]) W'))
    (W : World) (hJ : AbidesFrom W.heap.size J) (hm : W.cell? ⟨Bm, 0, none⟩ = some (.map (some b))) (hown : W.ownsMap Tryz.prog 75 (plainElem Tryz.prog 40) b nn D) (h0 : J [] W) :
    CallsIn Fence.wide d Tryz.prog 96 #[.func (.yield l) #[] #[], .pointer (some ⟨Bm, 0, none⟩)] W fun e W' => (∃ v, e = .returned v) ∧ ((∃ ss : List Ky, KeysD D ss ∧ J ss W') ∨ (∃ pre : List Ky, True ∧ Jx pre W')) := by
  refine callsIn_of_wp Tryz.func96 rfl trivial ?_ rfl
  simp only [Tryz.ntmps96, List.size_toArray, List.length_cons, List.length_nil, Nat.reduceAdd, Nat.reduceSub, Array.replicate_succ, Array.replicate_zero, List.push_toArray, List.append_toArray, List.nil_append, List.cons_append]
  gi_wp2_with (first
    | (gi_at_range; refine wpListIn_range_own _ rfl _ 73 rfl 75 40 keyed75 Tryz.underlying73 _ b nn _ rfl hown ?_; intro w0 hrg0 hg0 hs0)
    | gi_in)
  go_frame
  gi_loopw [3] (fun _ wr => ∃ (left : Lit → Bool) (cnt : Nat) (ss : List Ky), wr.ranges Tryz.prog 75 (plainElem Tryz.prog 40) b W.heap.size nn D left cnt ∧ ss.length + cnt ≤ Maps.size D ∧ ColK D left ss ∧ J ss wr ∧ W.heap.size < wr.heap.size)
    (fun _ wr => wr.rangeLeft b W.heap.size)
  case atStart =>
    exact ⟨_, _, [], hrg0, by simp, ColK.start D, hJ [] W w0 none h0 hg0 (fun r e => by cases e), by omega⟩
  case round =>
    obtain ⟨left, cnt, ss, hrg, hcs, hC, hJs, hlt0⟩ := hrel
    gi_wp2_with (first
      | (gi_at_next; refine wpListIn_next_ranges _ rfl _ rfl 75 keyed75 (plainElem Tryz.prog 40) (fun q : Ky => Value.agg (encK q).toArray) Value.string (fun key kl hk => by obtain ⟨q, hq, _⟩ := key75_inv hk; exact ⟨q, hq⟩) (fun v y hv => by obtain ⟨c, rfl, _⟩ := plain_str_inv hv; exact ⟨c, rfl⟩) b W.heap.size nn _ _ _ rfl hrg ?_ ?_)
      | gi_in)
    · intro hc0 hl0
      gi_wp2
      go_end0
      exact ⟨⟨_, rfl⟩, .inl ⟨ss, ⟨hC.1, fun k => by rw [hC.2.1 k, hl0]; simp, by omega, hC.2.2⟩, hJs⟩⟩
    · intro xa xc c kl yd yp w2 cnt2 hkey hlk hv hat hrg2 hlt hg2 hs2 hen
      obtain ⟨x, hx⟩ : ∃ x : Ky, x = (xa, xc) := ⟨_, rfl⟩
      rw [← hx] at hkey hen ⊢
      obtain ⟨x', ex, rfl⟩ := key75_inv hkey
      obtain rfl : x = x' := encK_inj ex
      have hJ2 : J ss w2 := hJ ss wr w2 (some W.heap.size) hJs hg2 (fun r e => by cases e; exact ⟨Nat.le_refl _, hrg.iter_walk⟩)
      have hJ3 : J ss (w2.alloc (.cells (encK x).toArray 75)) := hJ ss w2 _ none hJ2 (World.grownBy_alloc _ _ _) (fun r e => by cases e)
      obtain ⟨fn, tmps, assign, body, hy, hR⟩ := hY ss x (w2.alloc (.cells (encK x).toArray 75)) hJ3 (by omega)
      have hrg3 := hrg2.of_walks (KeepsWalks.alloc w2 (.cells (encK x).toArray 75))
      have hC2 := hC.step hkey hlk hat
      have hsz : W.heap.size < (w2.alloc (.cells (encK x).toArray 75)).heap.size := by simp; omega
      have hme := hrg.left_eq
      clear hs2 hC hJ2 hJ3 hkey
      subst hx
      simp only [encK] at *
      gi_wp2
      refine hR.mono ?_
      rintro e W3 (⟨rfl, hJ3, hk3⟩ | ⟨rfl, hJx3⟩)
      · gi_wp2
        have hrg4 := hrg3.of_walks hk3
        go_roundw
        case rel => exact ⟨_, cnt2, ss ++ [(xa, xc)], hrg4, by simp; omega, hC2, hJ3, Nat.lt_of_lt_of_le hsz hk3.size⟩
        case measure => rw [hrg4.left_eq, hme]; exact hlt
      · gi_wp2
        refine bodyPost_ret (results_none rfl _ _ _) rfl ?_
        exact ⟨⟨_, rfl⟩, .inr ⟨ss ++ [(xa, xc)], trivial, hJx3⟩⟩
theorem keys_stops (d : Nat) (hd : 1 ≤ d) (Bm b nn : Nat) (D : DataW Nat) (w : World) (hBm : Bm < w.heap.size) (hm : w.cell? ⟨Bm, 0, none⟩ = some (.map (some b))) (hown : w.ownsMap Tryz.prog 75 (plainElem Tryz.prog 40) b nn D) :
    SeqStopsK Fence.wide d Tryz.prog 96 #[.pointer (some ⟨Bm, 0, none⟩)] (fun q : Ky => #[Value.agg (encK q).toArray]) KeepsWalks (KeysD D) (fun _ => True) (Maps.size D) w := fun l J Jx W hW hJ _ hY h0 => by
  have hown' : W.ownsMap Tryz.prog 75 (plainElem Tryz.prog 40) b nn D := hown.kept (grown_of_below hW) (by simp)
  exact keys_in d hd l Bm b nn D J Jx hY W hJ ((hW.cell (p := ⟨Bm, 0, none⟩) hBm).trans hm) hown' h0
theorem Keys_any (b : Nat) (w : World) : Calls Tryz.prog 66 #[.map (some b)] w fun e w' => e = .returned (.func (.func 96) #[] #[.pointer (some ⟨w.heap.size, 0, none⟩)]) ∧ w' = w.alloc (.cells #[.map (some b)] 73) := by
  go_enter Tryz.func66, Tryz.ntmps66
  go_wp2
  go_ret
  exact ⟨rfl, rfl⟩
/-- what the collecting loop keeps: the slice in its box -/
structure CoI (w : World) (pre : List Ky) (W : World) : Prop where
  box : ∃ v, Boxed W w.heap.size 77 v ∧ rowK.Own w.heap.size W v pre
  bel : Below w.heap.size w W
theorem own_ne {α : Type} {R : Row α} {B : Nat} {W : World} {v : Value} {l : List α} (h : R.Own B W v l) {row : Option Nat} (hr : ∀ r, row = some r → ∃ o : Obj, W.heap[r]? = some o ∧ o.isCells = false) : v.ownBlock = none ∨ v.ownBlock ≠ row := by
  rcases h.2 with ⟨rfl, _⟩ | ⟨g, cap, cur, rfl, _, hg, _⟩
  · exact .inl rfl
  · refine .inr fun e => ?_
    obtain ⟨o, ho, hc⟩ := hr g e.symm
    rw [hg] at ho; cases ho; cases hc
theorem CoI.own (w : World) (B : Nat) (hB : w.heap.size < B) : OwnFrom B (CoI w) := fun s A C row hs hg hr => by
  obtain ⟨v, hb, ho⟩ := hs.box
  refine ⟨⟨v, hb.kept hg (fun e => ?_), ho.kept' hg (own_ne ho fun r e => (hr r e).2)⟩, hs.bel.grown hg hs.bel.size (fun k e => by have := (hr k e).1; omega)⟩
  obtain ⟨o, h1, h2⟩ := (hr _ e.symm).2
  have h3 : A.heap[w.heap.size]? = some (.cells #[v] 77 (0, 0)) := hb
  rw [h3] at h1; cases h1; cases h2
/-- the round's variable lies in a block of its own -/
def CoA (w : World) (tm : Value → Value → Array Value) (x : Ky) (a : Act) (W : World) : Prop :=
  ∃ b, w.heap.size < b ∧ W.heap[b]? = some (.cells (encK x).toArray 75 (0, 0)) ∧ a = { tmps := tm (.pointer (some ⟨b, 0, none⟩)) (.agg (encK x).toArray), defers := [] }
theorem CoA.own (w : World) (tm : Value → Value → Array Value) (x : Ky) (a : Act) (B : Nat) : OwnFrom B (fun (_ : Unit) W => CoA w tm x a W) := fun s A C row hs hg hr => by
  obtain ⟨b, h1, h2, h3⟩ := hs
  refine ⟨b, h1, ?_, h3⟩
  rw [hg.block b (Array.getElem?_eq_some_iff.1 h2).1 (fun e => ?_)]
  · exact h2
  · obtain ⟨o, h4, h5⟩ := (hr _ e.symm).2
    rw [h2] at h4; cases h4; cases h5
theorem boxed_setCell {W : World} {B : Nat} {t : TypeId} {v : Value} (h : Boxed W B t v) (v' : Value) : Boxed (W.setCell ⟨B, 0, none⟩ v') B t v' := h.set v'
theorem wpIn_append1 {α : Type} {R : Row α} (ok : R.Ok) {F : Fence} {nF : Nat} {ops : Array Oper} {rest : List Oper} {o : Oper} {a : Act} {Q : Exit → Act → World → Prop} (hgd : o.guard = none) (s t : Operand)
    (ho : o.op = .call { callee := .builtin .append, args := #[s, t], argTypes := #[R.S, R.S] })
    (B : Nat) (v : Value) (ns : List α) (w : World) (x : α) (cs : Array Value) (E' : TypeId) (hcs : cs = (R.enc x).toArray) (hE : E' = R.E) (hs : a.eval s = v) (hown : R.Own B w v ns) (hx : a.eval t = .slice (some ⟨w.heap.size, 0, none⟩) 1 1)
    (hB : B ≤ w.heap.size) (hn : ns.length + 1 ≤ 1000000)
    (h : ∀ v' w', R.Own B w' v' (ns ++ [x]) → (w.alloc (.cells cs E')).grownBy w' v.ownBlock → wpListIn F nF Tryz.prog ops Q rest (a.put o.dst v') w') : wpListIn F nF Tryz.prog ops Q (o :: rest) a (w.alloc (.cells cs E')) := by
  refine wpListIn_plain hgd fun K hK => ?_
  subst hcs hE
  obtain ⟨v', w', hr, h2, h3, h5⟩ := Row.run_append ok B o.type v ns (w.alloc (.cells (R.enc x).toArray R.E)) _ 1 1 [x] (hown.alloc _) (Row.rds_one ok w x R.E) (by simp; omega) hn
  unfold Oper.wpIn
  refine ⟨by simp [Oper.about, ho, resolve, Target.leads, Sem.run_pure], ?_⟩
  rw [Oper.semAt_plain F _ _ (by rw [ho]; intro c hc'; cases hc')]
  simp [execOp, ho, resolve, invoke, builtin, hs, hx, hr, Result.andThen]
  exact hK _ _ (h v' w' h2 h3)
set_option maxRecDepth 100000 in
set_option maxHeartbeats 4000000 in
theorem appSeq_in (d : Nat) (hd : 3 ≤ d) (gf : Nat) (lb : Array Value) (S : List Ky → Prop) (N : Nat) (hN : N ≤ 1000) (w : World) (eg : ∀ args w, (callFunc gf args).run Tryz.prog w = .ok (.enter gf args) w)
    (hseq : SeqStopsK Fence.wide (d - 1) Tryz.prog gf lb (fun q : Ky => #[Value.agg (encK q).toArray]) KeepsWalks S (fun _ => True) N w) (_hS : ∀ ss, S ss → ss.length ≤ N) :
    CallsIn Fence.wide d Tryz.prog 136 #[.slice none 0 0, .func (.func gf) #[] lb] w fun e w' => ∃ v ss, e = .returned v ∧ S ss ∧ rowK.Own w.heap.size w' v ss ∧ Below w.heap.size w w' := by
  refine callsIn_of_wp_marks Tryz.func136 rfl trivial ?_ rfl
  simp only [Tryz.ntmps136, List.size_toArray, List.length_cons, List.length_nil, Nat.reduceAdd, Nat.reduceSub, Array.replicate_succ, Array.replicate_zero, List.push_toArray, List.append_toArray, List.nil_append, List.cons_append]
  gi_wp2
  have hb0 : Below w.heap.size w (w.alloc (.cells #[.slice none 0 0] 77)) := (Below.refl _ w).alloc (Nat.le_refl _) _
  refine wpIn_rangeFunc_ownH rfl (by omega) (gf := gf) (lb := lb) rfl trivial eg hseq (fun h k => h.trans k) (fun W l o o' _ hl ho hw => KeepsWalks.putObj _ hl hw) hb0 (fun _ => rfl)
    (CoI w) (fun _ _ _ => False) (CoI.own w _ (by simp)) (fun _ _ _ _ _ hs _ _ => hs) ⟨⟨_, Boxed.new w 77 (.slice none 0 0), Row.Own.nil _ _⟩, hb0⟩
    (CoA w (fun p v => #[.slice none 0 0, .func (.func gf) #[] lb, .pointer (some ⟨w.heap.size, 0, none⟩), undef, .slice none 0 0, p, .func (.func gf) #[] lb, v, undef, undef, undef, undef, undef])) (fun x a' => CoA.own w _ x a' _) ?assign ?body ?done ?stop
  case assign =>
    intro l pre x W K hI hK
    obtain ⟨xa, xc⟩ := x
    simp only [encK] at *
    gi_wp2
    obtain ⟨v, hv, ho⟩ := hI.box
    have hlt := hv.lt
    have hB := hI.bel
    exact hK _ _ ((KeepsOthers.alloc _ _).from _) (KeepsWalks.alloc _ _) ⟨⟨v, hv.alloc _, ho.alloc _⟩, hB.alloc hB.size _⟩ ⟨W.heap.size, hlt, World.alloc_heap_new W _, rfl⟩
  case body =>
    rintro l pre x a' W hl ⟨r, hr⟩ hI ⟨bx, hbx1, hbx2, rfl⟩ hlen
    obtain ⟨v, hv, ho⟩ := hI.box
    have HB := Lib.hid hI.bel
    have HO := Lib.hid ho
    have HV := Lib.hid hv
    have hc := hv.cell
    have hf := hv.frozen
    have hlt := hv.lt
    obtain ⟨xa, xc⟩ := x
    simp only [encK] at *
    have c0 : W.cell? ⟨bx, 0, none⟩ = some (.string ⟨xa.toArray⟩) := by rw [cell_of_row _ _ _ _ _ _ hbx2]; rfl
    have c1 : W.cell? ⟨bx, 1, none⟩ = some (.string ⟨xc.toArray⟩) := by rw [cell_of_row _ _ _ _ _ _ hbx2]; rfl
    clear hI hv ho hbx2
    gi_wp2_with (first
      | (gi_at_builtin; refine wpIn_append1 rowK_ok rfl (.tmp 8) (.tmp 10) rfl w.heap.size _ pre W (xa, xc) _ _ rfl rfl rfl HO.out rfl HB.out.size (by omega) ?_; intro v1 w5 ho5 hg5; obtain ⟨A5, c5, rfl⟩ := ho5.slice; obtain ⟨k1, k2, k3, k4, k5⟩ := HV.out.appended (by decide) HO.out HB.out.size (Nat.le_refl _) ho5 hg5; have hc5 := k1.cell; have hf5 := k1.frozen)
      | gi_in)
    have e : (pre ++ [(xa, xc)]).length = pre.length + 1 := by simp
    rw [e] at k2 k3 k4 k5
    have o3 : rowK.Own w.heap.size (w5.setCell ⟨w.heap.size, 0, none⟩ (.slice A5 (pre.length + 1) c5)) (.slice A5 (pre.length + 1) c5) (pre ++ [(xa, xc)]) := by unfold Row.Own; rw [e]; exact k3
    exact ⟨k4.from _, ⟨k4.size, fun k o hk ho => k4.same k o hk (by cases o <;> first | rfl | cases ho)⟩, ⟨⟨_, k2, o3⟩, HB.out.trans k5⟩⟩
  case done =>
    rintro D ys W hD hys hI hK
    obtain ⟨v, hv, ho⟩ := hI.box
    have hB := Lib.hid hI.bel
    have c0 := hv.cell
    have hD2 : w.heap.size < D := by simp at hD; omega
    have HO := Lib.hid (ho.kept' (grownBy_putObj' W D (.deferred none)) (own_ne ho fun r e => by cases e; exact ⟨_, hK, rfl⟩))
    clear hv ho hI
    gi_wp2
    refine ⟨by simp, .inl ⟨_, _, rfl, run_takeDeferred hK, ?_⟩⟩
    exact ⟨_, results_tmp rfl _ _ _, v, ys, rfl, hys, HO.out, hB.out.trans (belowK_b (w := w) (Nat.le_refl _) W D _ _ (by omega) hK rfl rfl)⟩
  case stop =>
    rintro D c pre W _ _ h _
    exact h.elim
set_option maxRecDepth 100000 in
theorem collect_in (d : Nat) (hd : 4 ≤ d) (gf : Nat) (lb : Array Value) (S : List Ky → Prop) (N : Nat) (hN : N ≤ 1000) (w : World) (eg : ∀ args w, (callFunc gf args).run Tryz.prog w = .ok (.enter gf args) w)
    (hseq : SeqStopsK Fence.wide (d - 1 - 1) Tryz.prog gf lb (fun q : Ky => #[Value.agg (encK q).toArray]) KeepsWalks S (fun _ => True) N w) (hS : ∀ ss, S ss → ss.length ≤ N) :
    CallsIn Fence.wide d Tryz.prog 94 #[.func (.func gf) #[] lb] w fun e w' => ∃ v ss, e = .returned v ∧ S ss ∧ rowK.Own w.heap.size w' v ss ∧ Below w.heap.size w w' := by
  have HA := Lib.hid (appSeq_in (d - 1) (by omega) gf lb S N hN w eg hseq hS)
  clear hseq
  refine callsIn_of_wp Tryz.func94 rfl trivial ?_ rfl
  simp only [Tryz.ntmps94, List.size_toArray, List.length_cons, List.length_nil, Nat.reduceAdd, Nat.reduceSub, Array.replicate_succ, Array.replicate_zero, List.push_toArray, List.append_toArray, List.nil_append, List.cons_append]
  gi_wp2_with (refine ⟨trivial, fun h => (by cases h), ?_⟩; refine HA.out.mono ?_; rintro e w' ⟨v, ss, rfl, hs, ho, hb⟩; have HO := Lib.hid ho; have HB := Lib.hid hb; clear ho hb)
  go_ret
  exact ⟨v, ss, rfl, hs, HO.out, HB.out⟩
end Go.Proofs.YtdnomfekblmnbaaGreatDoor

/- Contract of slices.SortedFunc at the keys of Normal's map. -/
namespace Go.Proofs.YtdnomfekblmnbaaGreatDoor
open Go.RowKit Go.Maps Num

theorem KeysD.perm {D : DataW Nat} {ss m : List Ky} (h : KeysD D ss) (hp : m.Perm ss) : KeysD D m :=
  ⟨((hp.map kb).nodup_iff).2 h.1, fun k => ((hp.map kb).mem_iff).trans (h.2.1 k), by rw [hp.length_eq]; exact h.2.2.1, fun q hq => h.2.2.2 q (hp.mem_iff.1 hq)⟩
def SortedP (D : DataW Nat) (w : World) (e : Ending) (w' : World) : Prop := ∃ v ss, e = .returned v ∧ KeysD D ss ∧ Srt cmpKy ss ∧ rowK.Own w.heap.size w' v ss ∧ Below w.heap.size w w'
set_option maxRecDepth 100000 in
theorem SortedK_any (bx b nn : Nat) (D : DataW Nat) (w : World) (hbx : bx < w.heap.size) (hm : w.cell? ⟨bx, 0, none⟩ = some (.map (some b))) (hown : w.ownsMap Tryz.prog 75 (plainElem Tryz.prog 40) b nn D) (hn : Maps.size D ≤ 1000) :
    Calls Tryz.prog 65 #[.func (.func 96) #[] #[.pointer (some ⟨bx, 0, none⟩)], .func (.func 67) #[] #[]] w (SortedP D w) := by
  have hc := (callsIn_wide (n := 6)).1 (collect_in 6 (by omega) 96 #[.pointer (some ⟨bx, 0, none⟩)] (KeysD D) (Maps.size D) hn w (enters_of Tryz.func96 (by kernel_rfl) rfl) (keys_stops (6 - 1 - 1) (by omega) bx b nn D w hbx hm hown) (fun ss h => h.2.2.1))
  have HC := Lib.hid hc
  have HP := Lib.hid (show ∀ v ss W, KeysD D ss → Srt cmpKy ss → rowK.Own w.heap.size W v ss → Below w.heap.size w W → SortedP D w (.returned v) W from fun v ss W h1 h2 h3 h4 => ⟨v, ss, rfl, h1, h2, h3, h4⟩)
  clear hc hm hown
  generalize SortedP D w = Post at *
  go_enter Tryz.func65, Tryz.ntmps65
  go_wp2_with fail
  refine HC.out.mono ?_
  rintro e w1 ⟨v, ss, rfl, hk, ho, hb⟩
  have HK := Lib.hid hk
  have HB := Lib.hid hb
  have hs := Lib.hid (sortK_any w.heap.size v ss w1 ho (Nat.le_trans hk.2.2.1 hn) hb.size)
  clear hk ho hb HC
  go_wp2_with fail
  refine hs.out.mono ?_
  rintro e w2 ⟨rfl, m, hp, hsrt, ho2, hb2⟩
  have H2 := Lib.hid (And.intro hp (And.intro hsrt (And.intro ho2 hb2)))
  clear hp hsrt ho2 hb2 hs
  go_wp2_with fail
  exact HP.out v m w2 (HK.out.perm H2.out.1) H2.out.2.1 H2.out.2.2.1 (HB.out.trans H2.out.2.2.2)
end Go.Proofs.YtdnomfekblmnbaaGreatDoor

/- What entry.Normal's loops keep, plain. -/
namespace Go.Proofs.YtdnomfekblmnbaaGreatDoor
open Go.RowKit Go.Maps Num

/-- what is wrong with the fields of lines -/
def fldI : List Ln → Int
  | [] => 0
  | x :: r => if lineI x ≠ 0 then lineI x else fldI r
theorem fldI_cons (x : Ln) (r : List Ln) : fldI (x :: r) = if lineI x ≠ 0 then lineI x else fldI r := rfl
theorem fldI_zero {l : List Ln} (h : fldI l = 0) : ∀ x ∈ l, lineI x = 0 := by
  induction l with
  | nil => intro x hx; cases hx
  | cons y r ih =>
    rw [fldI_cons] at h
    split at h
    · omega
    · rename_i h0
      intro x hx
      rcases List.mem_cons.1 hx with e | e
      · subst e; omega
      · exact ih h x e
theorem lineI_can {x : Ln} (h : lineI x = 0) : canB x = true := by
  unfold lineI at h
  split at h
  · split at h
    · unfold chkI at h
      split at h
      · rename_i h0; unfold canB; exact decide_eq_true h0
      · omega
    · omega
  · omega
/-- the code that Normal gives back -/
def nrmI (d : Int) (c : List UInt8) (l : List Ln) : Int :=
  if headI d c ≠ 0 then headI d c else if fldI l ≠ 0 then fldI l else if balB l = false then 14 else if 64 < (nrmL l).length then 4 else 0
def SmK (q : Ky) : Prop := q.1.length ≤ 100000 ∧ q.2.length ≤ 100000
theorem smK_of {x : Ln} (h : Sml x) : SmK (key x) := ⟨Nat.le_trans h.1 (by omega), Nat.le_trans h.2.1 (by omega)⟩
theorem key75q {q : Ky} (h : SmK q) : keyOf Tryz.prog 75 (.agg (encK q).toArray) = some (.string (kb q)) := key75 q.1 q.2 h.1 h.2
theorem kb_injq {p q : Ky} (h1 : SmK p) (h2 : SmK q) (h : kb p = kb q) : p = q := kb_inj h1.1 h1.2 h2.1 h2.2 h
/-- the map of the sums by account and currency, after k lines -/
def NmR (l : List Ln) (bm k : Nat) (W : World) : Prop :=
  ∃ f ks, MapS 75 W bm k f ks ∧ (∀ q, SmK q → f (kb q) = txt (tot (l.take k) q)) ∧ ∀ s, s ∈ ks ↔ ∃ x ∈ l.take k, s = kb (key x)
theorem NmR.zero (l : List Ln) (w : World) : NmR l w.heap.size 0 (w.alloc (.map #[] 0)) :=
  ⟨_, [], MapS.made 75 w, fun q _ => by rw [List.take_zero, tot_nil, txt_zero], fun s => by simp⟩
theorem NmR.kept {l : List Ln} {bm k : Nat} {W W' : World} {row : Option Nat} (h : NmR l bm k W) (hg : W.grownBy W' row) (hne : some bm ≠ row) : NmR l bm k W' := by
  obtain ⟨f, ks, h1, h2, h3⟩ := h
  exact ⟨f, ks, h1.kept hg hne, h2, h3⟩
theorem NmR.below {l : List Ln} {bm k : Nat} {W W' : World} (h : NmR l bm k W) (hb : Below W.heap.size W W') : NmR l bm k W' := h.kept (grown_of_below hb) (by simp)
theorem NmR.lt {l : List Ln} {bm k : Nat} {W : World} (h : NmR l bm k W) : bm < W.heap.size := by
  obtain ⟨f, ks, h1, _⟩ := h
  exact h1.lt
theorem NmR.look {l : List Ln} {bm k : Nat} {W : World} (h : NmR l bm k W) (a c : List UInt8) (hq : SmK (a, c)) : (Instr.lookup 73 (.map (some bm)) (.agg #[.string ⟨a.toArray⟩, .string ⟨c.toArray⟩]) false).run Tryz.prog W = .ok (.string ⟨(txt (tot (l.take k) (a, c))).toArray⟩) W := by
  obtain ⟨f, ks, h1, h2, h3⟩ := h
  have := h1.look keyed75 Tryz.underlying73 (key75q hq)
  rw [h2 _ hq] at this
  exact this
theorem NmR.put {l : List Ln} {bm k : Nat} {W : World} (h : NmR l bm k W) (a c m : List UInt8) (hq : SmK (a, c)) (hk : k < 1000) (htk : l.take (k + 1) = l.take k ++ [(a, c, m)]) (_hsm : ∀ x ∈ l, Sml x) (hv : (txt (val (txt (tot (l.take k) (a, c))) + val m)).length ≤ 100000) :
    ∃ W', (Instr.mapUpdate 73 (.map (some bm)) (.agg #[.string ⟨a.toArray⟩, .string ⟨c.toArray⟩]) (.string ⟨(txt (val (txt (tot (l.take k) (a, c))) + val m)).toArray⟩)).run Tryz.prog W = .ok () W' ∧ NmR l bm (k + 1) W' ∧ W.grownBy W' (some bm) := by
  obtain ⟨f, ks, h1, h2, h3⟩ := h
  obtain ⟨W', hrun, hm, hg⟩ := h1.put keyed75 Tryz.underlying73 (by omega) (key75q hq) hv
  refine ⟨W', hrun, ⟨_, _, hm, fun q hq2 => ?_, fun s => ?_⟩, hg⟩
  · by_cases e : kb q = kb (a, c)
    · have e2 := kb_injq hq2 hq e
      subst e2
      rw [if_pos rfl, val_txt, htk, tot_snoc, if_pos (show key (a, c, m) = (a, c) from rfl)]
    · rw [if_neg e, h2 q hq2, htk, tot_snoc, if_neg (fun e2 => e (by rw [← e2]; rfl))]
      simp
  · rw [List.mem_cons, h3, htk]
    constructor
    · rintro (rfl | ⟨x, hx, rfl⟩)
      · exact ⟨_, List.mem_append_right _ (List.mem_singleton.2 rfl), rfl⟩
      · exact ⟨x, List.mem_append_left _ hx, rfl⟩
    · rintro ⟨x, hx, rfl⟩
      rcases List.mem_append.1 hx with h | h
      · exact .inr ⟨x, h, rfl⟩
      · rw [List.mem_singleton.1 h]; exact .inl rfl
/-- the sorted keys are the lines' keys, each once -/
theorem keys_of {l : List Ln} (hsm : ∀ x ∈ l, Sml x) {D : DataW Nat} {ks : List (List UInt8)} (hks : ∀ s, s ∈ ks ↔ ∃ x ∈ l, s = kb (key x)) (hD : ∀ k, has D (.string k) = true ↔ k ∈ ks) {m : List Ky} (hm : KeysD D m) (hs : Srt cmpKy m) :
    m.Pairwise (fun p q => cmpKy p q = -1) ∧ (∀ k, k ∈ m ↔ ∃ x ∈ l, key x = k) ∧ ∀ q ∈ m, SmK q := by
  have h1 : ∀ q ∈ m, ∃ x ∈ l, key x = q := fun q hq => by
    obtain ⟨x, hx, e⟩ := (hks _).1 ((hD _).1 ((hm.2.1 _).1 (List.mem_map_of_mem hq)))
    refine ⟨x, hx, ?_⟩
    have h2 := hm.2.2.2 q hq
    have h3 := key75q (smK_of (hsm x hx))
    rw [e] at h2
    have := keyed75.inj h2 h3
    exact (encK_inj this).symm
  have hnd : m.Nodup := by
    have := hm.1
    exact List.Pairwise.of_map kb (fun a b h e => h (by rw [e])) this
  refine ⟨?_, fun k => ⟨h1 k, ?_⟩, fun q hq => ?_⟩
  · have := List.Pairwise.and hs hnd
    refine this.imp fun {p q} hpq => ?_
    have r := cmpKy_cmp.rng p q
    have : cmpKy p q ≠ 0 := fun e => hpq.2 (cmpKy_zero.1 e)
    omega
  · rintro ⟨x, hx, rfl⟩
    have h2 := (hm.2.1 (kb (key x))).2 ((hD _).2 ((hks _).2 ⟨x, hx, rfl⟩))
    obtain ⟨q, hq, e⟩ := List.mem_map.1 h2
    obtain ⟨y, hy, rfl⟩ := h1 q hq
    rw [kb_injq (smK_of (hsm y hy)) (smK_of (hsm x hx)) e] at hq
    exact hq
  · obtain ⟨x, hx, rfl⟩ := h1 q hq
    exact smK_of (hsm x hx)
def big60 : Nat := 10 ^ 60
theorem tot_bd60 (l : List Ln) (h : ∀ x ∈ l, x.2.2.length ≤ 60) (k : Ky) : (tot l k).natAbs ≤ l.length * big60 := by
  induction l with
  | nil => simp [tot]
  | cons x r ih =>
    have h1 : (val x.2.2).natAbs < big60 := Nat.lt_of_lt_of_le (val_bd _) (Nat.pow_le_pow_right (by omega) (h x (by simp)))
    have h2 := ih fun y hy => h y (List.mem_cons_of_mem _ hy)
    rw [tot_cons, List.length_cons, Nat.add_mul]
    split <;> omega
theorem bd60_txt {v : Int} {n : Nat} (h : v.natAbs ≤ n * big60) (hn : n ≤ 1000) : (txt v).length ≤ 70 := by
  have h1 : n * big60 ≤ 1000 * big60 := Nat.mul_le_mul_right _ hn
  have h2 : 1000 * big60 < 10 ^ 69 := by decide
  have := txt_bd (k := 69) (show v.natAbs < 10 ^ 69 by omega)
  omega
theorem rowsK_sml {l : List Ln} (hl : l.length ≤ 1000) (hsm : ∀ x ∈ l, Sml x) (h60 : ∀ x ∈ l, x.2.2.length ≤ 60) {m : List Ky} (hm : ∀ q ∈ m, ∃ x ∈ l, key x = q) : ∀ z ∈ rowsK l m, Sml z := by
  intro z hz
  obtain ⟨h1, h2, _⟩ := rowsK_key hz
  obtain ⟨x, hx, e⟩ := hm _ h1
  have h3 := hsm x hx
  simp only [key, Prod.mk.injEq] at e
  refine ⟨by rw [← e.1]; exact h3.1, by rw [← e.2]; exact h3.2.1, ?_⟩
  rw [h2]
  have := bd60_txt (tot_bd60 l h60 (key z)) hl
  omega
theorem take_ky (m : List Ky) (k : Nat) (h : k < m.length) : m.take (k + 1) = m.take k ++ [m.getD k ([], [])] := by
  rw [List.take_succ_eq_append_getElem h, List.getD_eq_getElem?_getD, List.getElem?_eq_getElem h]; rfl
theorem txt_nrmI {d : Int} {c : List UInt8} {l : List Ln} : nrmI d c l = if headI d c ≠ 0 then headI d c else if fldI l ≠ 0 then fldI l else if balB l = false then 14 else if 64 < (nrmL l).length then 4 else 0 := rfl
end Go.Proofs.YtdnomfekblmnbaaGreatDoor

/- Contract of entry.Normal. -/
namespace Go.Proofs.YtdnomfekblmnbaaGreatDoor
open Go.RowKit Go.Maps Num

def NrmPost (d : Int) (cz : List UInt8) (l : List Ln) (w : World) (e : Ending) (w' : World) : Prop :=
  Below w.heap.size w w' ∧ if nrmI d cz l = 0 then ∃ A c, e = .returned (.tuple #[.agg (enV d cz A (nrmL l).length c), .int .i64 0]) ∧ Lns w' A (nrmL l).length c (nrmL l)
  else e = .returned (.tuple #[.agg (enV 0 [] none 0 0), .int .i64 (nrmI d cz l)])
/-- the result's block lies as it lay, zero -/
def Z3 (w : World) (W : World) : Prop := W.heap[w.heap.size + 1]? = some (.cells #[.int .i64 0, .string ⟨#[]⟩, .slice none 0 0] 32)
/-- the first loop: lines so far are well formed, their sums lie in the map bm -/
def N1R (w1 : World) (l : List Ln) (bm k : Nat) (W : World) : Prop := fldI l = fldI (l.drop k) ∧ (∀ x ∈ l.take k, lineI x = 0) ∧ NmR l bm k W ∧ Below w1.heap.size w1 W
theorem N1R.step_fld {l : List Ln} {k : Nat} (hk : k < l.length) (h : fldI l = fldI (l.drop k)) (h0 : lineI (l.getD k ln0) = 0) : fldI l = fldI (l.drop (k + 1)) := by
  rw [h, drop_ln l k hk, fldI_cons, if_neg (by rw [h0]; decide)]
theorem N1R.bad_fld {l : List Ln} {k : Nat} (hk : k < l.length) (h : fldI l = fldI (l.drop k)) (h0 : lineI (l.getD k ln0) ≠ 0) : fldI l = lineI (l.getD k ln0) := by
  rw [h, drop_ln l k hk, fldI_cons, if_pos h0]
/-- a store of an error into the result, and back -/
theorem nrm_bad {d : Int} {cz : List UInt8} {l : List Ln} {w W : World} {e : Ending} {r : Int} (_hz : Z3 w W) (hb : Below w.heap.size w W) (h : nrmI d cz l = r) (h0 : r ≠ 0) (he : e = .returned (.tuple #[.agg (enV 0 [] none 0 0), .int .i64 r])) :
    NrmPost d cz l w e (((W.setCell ⟨w.heap.size + 1, 0, none⟩ (.int .i64 0)).setCell ⟨w.heap.size + 1, 1, none⟩ (.string ⟨#[]⟩)).setCell ⟨w.heap.size + 1, 2, none⟩ (.slice none 0 0)) :=
  ⟨below_set3 hb (by omega) _ _ _, by rw [h, if_neg h0]; exact he⟩
theorem wp_append1h {α : Type} {R : Row α} (ok : R.Ok) {ops : Array Oper} {rest : List Oper} {o : Oper} {a : Act} {Q : Exit → Act → World → Prop} (hgd : o.guard = none) (s t : Operand)
    (ho : o.op = .call { callee := .builtin .append, args := #[s, t], argTypes := #[R.S, R.S] })
    (B : Nat) (v : Value) (ns : List α) (w : World) (H : Nat) (hH : w.heap.size = H) (x : α) (cs : Array Value) (E' : TypeId) (hcs : cs = (R.enc x).toArray) (hE : E' = R.E) (hs : a.eval s = v) (hown : R.Own B w v ns) (hx : a.eval t = .slice (some ⟨H, 0, none⟩) 1 1)
    (hB : B ≤ w.heap.size) (hn : ns.length + 1 ≤ 1000000)
    (h : ∀ v' w', R.Own B w' v' (ns ++ [x]) → w.grownBy w' v.ownBlock → (v'.ownBlock = v.ownBlock ∨ ∃ g, v'.ownBlock = some g ∧ w.heap.size ≤ g) → wpList Tryz.prog ops Q rest (a.put o.dst v') w') : wpList Tryz.prog ops Q (o :: rest) a (w.alloc (.cells cs E')) := by
  subst hH
  exact Row.wp_append1 ok hgd s t ho B v ns w x cs E' hcs hE hs hown hx hB hn h
/-- the second loop: the rows of the keys so far, in the block bo -/
structure N2R (d : Int) (cz : List UInt8) (l : List Ln) (m : List Ky) (w3 w6 : World) (vK : Value) (bm n j : Nat) (W : World) : Prop where
  out : ∃ v, W.heap[w3.heap.size]? = some (.cells #[.int .i64 d, .string ⟨cz.toArray⟩, v] 32) ∧ rowL.Own w6.heap.size W v (rowsK l (m.take j))
  keys : rowK.Own (w3.heap.size + 2) W vK m
  kb : ∀ g, vK.ownBlock = some g → g < w6.heap.size
  map : NmR l bm n W
  bel : Below w3.heap.size w3 W
  sz : w6.heap.size ≤ W.heap.size
theorem N2R.alloc {d : Int} {cz : List UInt8} {l : List Ln} {m : List Ky} {w3 w6 : World} {vK : Value} {bm n j : Nat} {W : World} (h : N2R d cz l m w3 w6 vK bm n j W) (o : Obj) : N2R d cz l m w3 w6 vK bm n j (W.alloc o) := by
  obtain ⟨⟨v, h1, h2⟩, h3, h3b, h4, h5, h6⟩ := h
  have hg := World.grownBy_alloc W o none
  refine ⟨⟨v, ?_, h2.alloc o⟩, h3.alloc o, h3b, h4.kept hg (by simp), h5.alloc h5.size o, by simp; omega⟩
  rw [hg.block _ (by rcases Nat.lt_or_ge w3.heap.size W.heap.size with h | h; exact h; rw [Array.getElem?_eq_none h] at h1; cases h1) (by simp)]; exact h1
theorem N2R.skip {d : Int} {cz : List UInt8} {l : List Ln} {m : List Ky} {w3 w6 : World} {vK : Value} {bm n j : Nat} {W : World} (h : N2R d cz l m w3 w6 vK bm n j W) (hj : rowsK l (m.take (j + 1)) = rowsK l (m.take j)) : N2R d cz l m w3 w6 vK bm n (j + 1) W := by
  obtain ⟨⟨v, h1, h2⟩, h3, h3b, h4, h5, h6⟩ := h
  exact ⟨⟨v, h1, by rw [hj]; exact h2⟩, h3, h3b, h4, h5, h6⟩
theorem N2R.step {d : Int} {cz : List UInt8} {l : List Ln} {m : List Ky} {w3 w6 : World} {vK v v' : Value} {bm n j : Nat} {W W' : World} {x : Ln} (h : N2R d cz l m w3 w6 vK bm n j W) (h2 : rowL.Own w6.heap.size W v (rowsK l (m.take j))) (hW : W.heap[w3.heap.size]? = some (.cells #[.int .i64 d, .string ⟨cz.toArray⟩, v] 32)) (h36 : w3.heap.size + 2 ≤ w6.heap.size)
    (hbm : bm < w3.heap.size) (hown : rowL.Own w6.heap.size W' v' (rowsK l (m.take j) ++ [x])) (hg : W.grownBy W' v.ownBlock) (hj : rowsK l (m.take (j + 1)) = rowsK l (m.take j) ++ [x]) :
    N2R d cz l m w3 w6 vK bm n (j + 1) (W'.setCell ⟨w3.heap.size, 2, none⟩ v') := by
  obtain ⟨_, h3, h3b, h4, h5, h6⟩ := h
  have hlt : w3.heap.size < W.heap.size := by rcases Nat.lt_or_ge w3.heap.size W.heap.size with h | h; exact h; rw [Array.getElem?_eq_none h] at hW; cases hW
  have hv : ∀ g, v.ownBlock = some g → w6.heap.size ≤ g := fun g e => (h2.own g e).1
  have hv' : ∀ g, v'.ownBlock = some g → w6.heap.size ≤ g := fun g e => (hown.own g e).1
  have hg2 := grown_setCell W' ⟨w3.heap.size, 2, none⟩ v'
  have hb1 : W'.heap[w3.heap.size]? = some (.cells #[.int .i64 d, .string ⟨cz.toArray⟩, v] 32) := by
    rw [hg.block _ hlt (fun e => by have := hv _ e.symm; omega)]; exact hW
  refine ⟨⟨v', set2 hb1 _, ?_⟩, ?_, h3b, ?_, ?_, ?_⟩
  · rw [hj]
    exact hown.kept hg2 (fun k e => by have := Option.some.inj e; simp only at this; omega)
  · refine (h3.kept' hg ?_).kept hg2 (fun k e => by have := Option.some.inj e; simp only at this; omega)
    cases hk : vK.ownBlock with
    | none => exact .inl rfl
    | some g => exact .inr (fun e => by have := hv g e.symm; have := h3b g hk; omega)
  · refine (h4.kept hg (fun e => by have := hv _ e.symm; omega)).kept hg2 (fun e => by have := Option.some.inj e; simp only at this; omega)
  · refine below_grown (r := w3.heap.size) (below_own h5 (Nat.le_refl _) hg (fun g e => by have := hv g e; omega)) (Nat.le_refl _) hg2 (Nat.le_refl _)
  · have := hg.size; have := hg2.size; omega
set_option maxRecDepth 100000 in
set_option maxHeartbeats 8000000 in
theorem Nrm_any (d : Int) (cz : List UInt8) (A : Option Addr) (n c : Nat) (l : List Ln) (w : World) (hl : Lns w A n c l) (hcz : cz.length ≤ maxLen) (hs : ∀ x ∈ l, x.2.2.length ≤ 60) (ht : Tab w) (hm : ML w) :
    Calls Tryz.prog 21 #[.agg (enV d cz A n c)] w (NrmPost d cz l w) := by
  have hn := hl.small
  have ll := Lib.hid hl.len
  have hB0 : Below w.heap.size w ((w.alloc (.cells #[.int .i64 d, .string ⟨cz.toArray⟩, .slice A n c] 32)).alloc (.cells #[.int .i64 0, .string ⟨#[]⟩, .slice none 0 0] 32)) := ((Below.refl _ w).alloc (Nat.le_refl _) _).alloc (by simp) _
  have y0 : ((w.alloc (.cells #[.int .i64 d, .string ⟨cz.toArray⟩, .slice A n c] 32)).alloc (.cells #[.int .i64 0, .string ⟨#[]⟩, .slice none 0 0] 32)).heap[w.heap.size]? = some (.cells #[.int .i64 d, .string ⟨cz.toArray⟩, .slice A n c] 32) := by
    rw [heap_alloc_old _ _ (by simp)]; exact heap_alloc_new w _
  have y1 : ((w.alloc (.cells #[.int .i64 d, .string ⟨cz.toArray⟩, .slice A n c] 32)).alloc (.cells #[.int .i64 0, .string ⟨#[]⟩, .slice none 0 0] 32)).heap[w.heap.size + 1]? = some (.cells #[.int .i64 0, .string ⟨#[]⟩, .slice none 0 0] 32) := by
    have := heap_alloc_new (w.alloc (.cells #[.int .i64 d, .string ⟨cz.toArray⟩, .slice A n c] 32)) (.cells #[.int .i64 0, .string ⟨#[]⟩, .slice none 0 0] 32)
    rwa [show (w.alloc (.cells #[.int .i64 d, .string ⟨cz.toArray⟩, .slice A n c] 32)).heap.size = w.heap.size + 1 by simp] at this
  have hsz : ((w.alloc (.cells #[.int .i64 d, .string ⟨cz.toArray⟩, .slice A n c] 32)).alloc (.cells #[.int .i64 0, .string ⟨#[]⟩, .slice none 0 0] 32)).heap.size = w.heap.size + 2 := by simp
  have HCH := Lib.hid (fun W => checkHead_any d cz A n c W hcz)
  have hI := Lib.hid (show nrmI d cz l = if headI d cz ≠ 0 then headI d cz else if fldI l ≠ 0 then fldI l else if balB l = false then 14 else if 64 < (nrmL l).length then 4 else 0 from rfl)
  have HBAD := Lib.hid (fun W e r hz hb h0 hne he => nrm_bad (d := d) (cz := cz) (l := l) (w := w) (W := W) (e := e) (r := r) hz hb h0 hne he)
  have HGOOD := Lib.hid (fun W A' c' (hb : Below w.heap.size w W) (h0 : nrmI d cz l = 0) (hL : Lns W A' (nrmL l).length c' (nrmL l)) => (show NrmPost d cz l w (.returned (.tuple #[.agg (enV d cz A' (nrmL l).length c'), .int .i64 0])) W from ⟨hb, by rw [if_pos h0]; exact ⟨A', c', rfl, hL⟩⟩))
  have HB0 := Lib.hid hB0
  have Y0 := Lib.hid y0
  have Y1 := Lib.hid y1
  have HZ := Lib.hid hsz
  have L1 := Lib.hid hl
  have HS := Lib.hid hs
  have HT := Lib.hid ht
  have HM := Lib.hid hm
  have hmm := @run_makeMap Tryz.prog
  clear hB0 y0 y1 hl hs ht hm hsz
  generalize NrmPost d cz l w = Post at *
  generalize nrmI d cz l = ri at *
  generalize headI d cz = hd at *
  unfold enV at HBAD HGOOD ⊢
  go_enter Tryz.func21, Tryz.ntmps21
  go_wp2_with fail
  refine (HCH.out _).mono ?_
  rintro e w1 ⟨rfl, hb1⟩
  have HB1 := Lib.hid (below_next HB0.out hb1 ⟨rfl, rfl, rfl, rfl⟩)
  have z0 := (hb1.block w.heap.size (by rw [HZ.out]; omega)).trans Y0.out
  have z1 := (hb1.block (w.heap.size + 1) (by rw [HZ.out]; omega)).trans Y1.out
  have hs1 : w.heap.size + 2 ≤ w1.heap.size := by have := hb1.size; rw [HZ.out] at this; exact this
  have Z0 := Lib.hid z0
  have Z1 := Lib.hid (show Z3 w w1 from z1)
  obtain ⟨⟨c00, c01, c02⟩, _⟩ := cells3 z0
  clear HCH Y0 Y1 HZ hb1 HB0 z0
  by_cases hz : hd = 0
  case neg =>
    have hzb : (hd == 0) = false := beq_eq_false_iff_ne.2 hz
    have hzb' : (hd != 0) = true := by rw [bne_iff_ne]; exact hz
    have hr := Lib.hid (show ri = hd by rw [hI.out, if_pos hz])
    obtain ⟨⟨c10, c11, c12⟩, f10, f11, f12⟩ := cells3 z1
    obtain ⟨⟨g10, g11, g12⟩, _⟩ := cells3 (set3 z1 (.int .i64 0) (.string ⟨#[]⟩) (.slice none 0 0))
    clear z1
    go_wp2_with fail
    exact bodyPost_ret (v := .tuple #[.agg #[.int .i64 0, .string ⟨#[]⟩, .slice none 0 0], .int .i64 hd]) (by simp [results, Tryz.results21, go_sem, g10, g11, g12]) rfl (HBAD.out w1 _ hd Z1.out HB1.out hr.out hz rfl)
  clear z1
  have hI2 := Lib.hid (show ri = if fldI l ≠ 0 then fldI l else if balB l = false then 14 else if 64 < (nrmL l).length then 4 else 0 by rw [hI.out, if_neg (by omega)])
  subst hz
  clear hI
  have HM0 : Below w1.heap.size w1 (w1.alloc (.map #[] 0)) := (Below.refl _ _).alloc (Nat.le_refl _) _
  have c02' := (HM0.cell (p := ⟨w.heap.size, 2, none⟩) (block_lt_of_cell c02)).trans c02
  have R0 := Lib.hid (show N1R w1 l w1.heap.size 0 (w1.alloc (.map #[] 0)) from ⟨by rw [List.drop_zero], fun x hx => by simp at hx, NmR.zero l w1, HM0⟩)
  have hh := Lib.hid (fun W (h : Below w1.heap.size w1 W) => below_next HB1.out h ⟨rfl, rfl, rfl, rfl⟩)
  clear HM0
  go_wp2_with fail
  go_loopw [23, 8] (fun i _ wr => ∃ k : Nat, k ≤ n ∧ i = .int .i64 (k : Int) ∧ Hid (N1R w1 l w1.heap.size k wr)) (fun i _ _ => n - (intOf i).toNat)
  case atStart => exact ⟨0, by omega, rfl, R0⟩
  case round =>
    clear R0
    obtain ⟨k, hk, rfl, hR⟩ := hrel
    have HF := Lib.hid hR.out.1
    have HL0 := Lib.hid hR.out.2.1
    have HN := Lib.hid hR.out.2.2.1
    have HC := Lib.hid hR.out.2.2.2
    have HB := Lib.hid (hh.out _ HC.out)
    clear hR
    by_cases hlt : k < n
    · have hkl : k < l.length := by rw [ll.out]; exact hlt
      obtain ⟨b1, o1, rfl, hb1, hc1⟩ := L1.out.at_ (by omega)
      obtain ⟨q0, q1, q2⟩ := hc1 k hlt
      have r0 := (HB.out.cell (p := ⟨b1, o1 + k * 3, none⟩) hb1).trans q0
      have r1 := (HB.out.cell (p := ⟨b1, o1 + k * 3 + 1, none⟩) hb1).trans q1
      have r2 := (HB.out.cell (p := ⟨b1, o1 + k * 3 + 2, none⟩) hb1).trans q2
      have hmem := lnAt_mem l k hkl
      have hsx := Lib.hid (L1.out.sml _ hmem)
      have h60 := Lib.hid (HS.out _ hmem)
      have hki : (k : Int) < (n : Int) := by omega
      have htk := Lib.hid (take_ln l k hkl)
      have hgo := Lib.hid (fun h => N1R.step_fld hkl HF.out h)
      have hbd := Lib.hid (fun h => N1R.bad_fld hkl HF.out h)
      clear q0 q1 q2 hc1 hmem hkl
      generalize l.getD k ln0 = x at *
      have cl := fun W hW1 hW2 => checkLine_any x W hsx.out hW1 hW2
      obtain ⟨a, cu, m⟩ := x
      unfold lnV at cl
      simp only at r0 r1 r2 cl
      generalize hli : lineI (a, cu, m) = li at *
      have l2 := HB.out.size
      have HB2 := Lib.hid (show Below w.heap.size w (wr.alloc (.cells #[.string ⟨a.toArray⟩, .string ⟨cu.toArray⟩, .string ⟨m.toArray⟩] 45)) from HB.out.alloc l2 _)
      have HC2 := Lib.hid (show Below w1.heap.size w1 (wr.alloc (.cells #[.string ⟨a.toArray⟩, .string ⟨cu.toArray⟩, .string ⟨m.toArray⟩] 45)) from HC.out.alloc HC.out.size _)
      have X0 := Lib.hid (heap_alloc_new wr (.cells #[.string ⟨a.toArray⟩, .string ⟨cu.toArray⟩, .string ⟨m.toArray⟩] 45))
      have HN2 := Lib.hid (HN.out.below ((Below.refl wr.heap.size wr).alloc (Nat.le_refl _) (.cells #[.string ⟨a.toArray⟩, .string ⟨cu.toArray⟩, .string ⟨m.toArray⟩] 45)))
      have CL := Lib.hid (cl _ (HM.out.below HB2.out) (HT.out.below HB2.out))
      have hlm := HN.out.lt
      have hsz2 : (wr.alloc (.cells #[.string ⟨a.toArray⟩, .string ⟨cu.toArray⟩, .string ⟨m.toArray⟩] 45)).heap.size = wr.heap.size + 1 := by simp
      have HSZ2 := Lib.hid hsz2
      clear cl hsz2
      go_wp2_with fail
      refine CL.out.mono ?_
      rintro e w2 ⟨rfl, hb⟩
      have HB3 := Lib.hid (below_next HB2.out hb ⟨rfl, rfl, rfl, rfl⟩)
      have HC3 := Lib.hid (below_next HC2.out hb ⟨rfl, rfl, rfl, rfl⟩)
      have HN3 := Lib.hid (HN2.out.below hb)
      have X2 := Lib.hid ((hb.block wr.heap.size (by rw [HSZ2.out]; omega)).trans X0.out)
      clear hb CL
      by_cases hz : li = 0
      case neg =>
        have hzb : (li == 0) = false := beq_eq_false_iff_ne.2 hz
        have hzb' : (li != 0) = true := by rw [bne_iff_ne]; exact hz
        have hr := Lib.hid (show ri = li by
          have := hbd.out hz
          rw [hI2.out, if_pos (by rw [this]; exact hz), this])
        have z1 := (HC3.out.block (w.heap.size + 1) (by omega)).trans Z1.out
        obtain ⟨⟨c10, c11, c12⟩, f10, f11, f12⟩ := cells3 z1
        obtain ⟨⟨g10, g11, g12⟩, _⟩ := cells3 (set3 z1 (.int .i64 0) (.string ⟨#[]⟩) (.slice none 0 0))
        have Z2 := Lib.hid (show Z3 w w2 from z1)
        clear z1
        go_wp2_with fail
        exact bodyPost_ret (v := .tuple #[.agg #[.int .i64 0, .string ⟨#[]⟩, .slice none 0 0], .int .i64 li]) (by simp [results, Tryz.results21, go_sem, g10, g11, g12]) rfl (HBAD.out w2 _ li Z2.out HB3.out hr.out hz rfl)
      subst hz
      have hgo2 := Lib.hid (hgo.out rfl)
      obtain ⟨⟨x0, x1, x2⟩, _⟩ := cells3 X2.out
      have hq := Lib.hid (show SmK (a, cu) from smK_of hsx.out)
      have hl1 := Lib.hid (bd_txt (tot_bd (l.take k) (take_sml L1.out.sml k) (a, cu)) (by rw [List.length_take]; omega))
      have hl2 := Lib.hid (show (txt (val (txt (tot (l.take k) (a, cu))) + val m)).length ≤ 100000 by
        have e := tot_bd (l.take (k + 1)) (take_sml L1.out.sml (k + 1)) (a, cu)
        rw [htk.out, tot_snoc, if_pos (show key (a, cu, m) = (a, cu) from rfl), ← htk.out, List.length_take] at e
        rw [val_txt]
        exact Nat.le_trans (bd_txt e (by omega)) (by omega))
      have l4 := block_lt_of_cell x0
      have HBr := Lib.hid (Below.refl w2.heap.size w2)
      have HX := Lib.hid (And.intro x0 (And.intro x1 x2))
      have hne : some wr.heap.size ≠ some w1.heap.size := fun e => by have := Option.some.inj e; omega
      have HL1 := Lib.hid (show ∀ x ∈ l.take (k + 1), lineI x = 0 from fun x hx => by
        rw [htk.out] at hx
        rcases List.mem_append.1 hx with h | h
        · exact HL0.out x h
        · rw [List.mem_singleton.1 h]; exact hli)
      clear hgo hbd hli
      go_wp2_with fail
      go_region_held3 (fun w' => w'.cell? ⟨wr.heap.size, 0, none⟩ = some (.string ⟨a.toArray⟩) ∧ w'.cell? ⟨wr.heap.size, 1, none⟩ = some (.string ⟨cu.toArray⟩) ∧ w'.cell? ⟨wr.heap.size, 2, none⟩ = some (.string ⟨m.toArray⟩))
        (first | exact ⟨e0, e1, e2⟩ | exact ⟨d0, d1, d2⟩ | exact ⟨x0, x1, x2⟩ | go_keep)
        (first
          | (go_at_call 63; refine (place3 _ _ _ _).mono ?_; rintro e w' ⟨rfl, hb⟩; have HBr := Lib.hid (below_next HBr.out hb ⟨rfl, rfl, rfl, rfl⟩); have d0 := (HBr.out.cell (p := ⟨wr.heap.size, 0, none⟩) l4).trans HX.out.1; have d1 := (HBr.out.cell (p := ⟨wr.heap.size, 1, none⟩) l4).trans HX.out.2.1; have d2 := (HBr.out.cell (p := ⟨wr.heap.size, 2, none⟩) l4).trans HX.out.2.2; have hlk := (HN3.out.below HBr.out).look a cu hq.out; clear hb)
          | (go_at_call 38; refine (Add_l _ _ _ (Nat.le_trans hl1.out (by decide)) (Nat.le_trans h60.out (by decide)) (HT.out.below (HB3.out.trans (HBr.out.mono HB3.out.size)))).mono ?_; rintro e w' ⟨rfl, hb⟩; have HBr := Lib.hid (below_next HBr.out hb ⟨rfl, rfl, rfl, rfl⟩); have d0 := (HBr.out.cell (p := ⟨wr.heap.size, 0, none⟩) l4).trans HX.out.1; have d1 := (HBr.out.cell (p := ⟨wr.heap.size, 1, none⟩) l4).trans HX.out.2.1; have d2 := (HBr.out.cell (p := ⟨wr.heap.size, 2, none⟩) l4).trans HX.out.2.2; clear hb; obtain ⟨wU, hrU, hnU, hgU⟩ := (HN3.out.below HBr.out).put a cu m hq.out (by omega) htk.out L1.out.sml hl2.out; have HNU := Lib.hid hnU; have HGU := Lib.hid hgU; have e0 := hgU.cell (a := ⟨wr.heap.size, 0, none⟩) d0 hne; have e1 := hgU.cell (a := ⟨wr.heap.size, 1, none⟩) d1 hne; have e2 := hgU.cell (a := ⟨wr.heap.size, 2, none⟩) d2 hne; clear hnU hgU))
      have HBU := Lib.hid (below_grown (HC3.out.trans (HBr.out.mono HC3.out.size)) (Nat.le_refl _) HGU.out (Nat.le_refl _))
      have RR := Lib.hid (show N1R w1 l w1.heap.size (k + 1) wU from ⟨hgo2.out, HL1.out, HNU.out, HBU.out⟩)
      clear HNU HGU HBU hrU hlk d0 d1 d2 e0 e1 e2 HBr HX
      go_wp2_with fail
      go_roundw
      case rel => exact ⟨k + 1, by omega, by go_num, RR⟩
      case measure => simp [intOf]; omega
    · obtain ⟨wq, hwq⟩ : ∃ wq, wq = wr := ⟨_, rfl⟩
      subst hwq
      have hkn : k = n := by omega
      subst hkn
      have e : List.take k l = l := List.take_of_length_le (by rw [ll.out]; exact Nat.le_refl _)
      have hLI := Lib.hid (show ∀ x ∈ l, lineI x = 0 by have := HL0.out; rwa [e] at this)
      have hI3 := Lib.hid (show ri = if balB l = false then 14 else if 64 < (nrmL l).length then 4 else 0 by
        have h0 : fldI l = 0 := by rw [HF.out, List.drop_of_length_le (by rw [ll.out]; exact Nat.le_refl _)]; rfl
        rw [hI2.out, if_neg (by rw [h0]; decide)])
      have hki : ¬ (k : Int) < (k : Int) := by omega
      have c02'' := (HC.out.cell (p := ⟨w.heap.size, 2, none⟩) (block_lt_of_cell c02)).trans c02
      have hbal := Lib.hid (balances_any A k c l wq (L1.out.below HB.out) (HT.out.below HB.out))
      clear e HF HL0 hI2
      generalize balB l = bb at *
      go_wp2_with fail
      refine hbal.out.mono ?_
      rintro e w3 ⟨rfl, hb⟩
      have HB3 := Lib.hid (below_next HB.out hb ⟨rfl, rfl, rfl, rfl⟩)
      have HC3 := Lib.hid (below_next HC.out hb ⟨rfl, rfl, rfl, rfl⟩)
      have HN3 := Lib.hid (HN.out.below hb)
      clear hb hbal
      have Z2x := (HC3.out.block (w.heap.size + 1) (by omega)).trans Z1.out
      have hr0 := (HC3.out.block w.heap.size (by omega)).trans Z0.out
      obtain ⟨⟨a00, a01, a02⟩, _⟩ := cells3 hr0
      cases bb
      · have hr := Lib.hid (show ri = 14 by rw [hI3.out, if_pos rfl])
        obtain ⟨⟨c10, c11, c12⟩, f10, f11, f12⟩ := cells3 Z2x
        obtain ⟨⟨g10, g11, g12⟩, _⟩ := cells3 (set3 Z2x (.int .i64 0) (.string ⟨#[]⟩) (.slice none 0 0))
        have Z2 := Lib.hid (show Z3 w w3 from Z2x)
        clear Z2x hr0
        go_wp2_with fail
        exact bodyPost_ret (v := .tuple #[.agg #[.int .i64 0, .string ⟨#[]⟩, .slice none 0 0], .int .i64 14]) (by simp [results, Tryz.results21, go_sem, g10, g11, g12]) rfl (HBAD.out w3 _ 14 Z2.out HB3.out hr.out (by decide) rfl)
      have hI4 := Lib.hid (show ri = if 64 < (nrmL l).length then 4 else 0 by rw [hI3.out, if_neg (by decide)])
      have Z2 := Lib.hid (show Z3 w w3 from Z2x)
      clear Z2x hr0 hI3
      go_wp2_with fail
      refine (Keys_any w1.heap.size _).mono ?_
      rintro e w4 ⟨rfl, hw4⟩
      have hW4 : w4 = (w3.alloc (.cells #[.int .i64 d, .string ⟨cz.toArray⟩, .slice none 0 0] 32)).alloc (.cells #[.map (some w1.heap.size)] 73) := hw4
      have hB4 : Below w3.heap.size w3 w4 := by rw [hW4]; exact ((Below.refl _ _).alloc (Nat.le_refl _) _).alloc (by simp) _
      have hbo : w4.heap[w3.heap.size]? = some (.cells #[.int .i64 d, .string ⟨cz.toArray⟩, .slice none 0 0] 32) := by
        rw [hW4, heap_alloc_old _ _ (by simp)]; exact heap_alloc_new w3 _
      have hsz4 : w4.heap.size = w3.heap.size + 2 := by rw [hW4]; simp
      have hcell4 : w4.cell? ⟨w3.heap.size + 1, 0, none⟩ = some (.map (some w1.heap.size)) := by rw [hW4]; go_simp
      have HN4 := Lib.hid (HN3.out.below hB4)
      obtain ⟨f, ks, ⟨D, hown, him, hat, hhas⟩, hf, hks⟩ := HN4.out
      have hsd := hown.size_le
      have hsk := Lib.hid (SortedK_any (w3.heap.size + 1) w1.heap.size k D w4 (by omega) hcell4 hown (by omega))
      have hkeys := Lib.hid (fun m (hm : KeysD D m) hs => keys_of L1.out.sml (D := D) (ks := ks) (m := m) (fun s => by
        have := hks s
        rwa [List.take_of_length_le (by rw [ll.out]; exact Nat.le_refl _)] at this) hhas hm hs)
      have HSD := Lib.hid hsd
      have HBO := Lib.hid hbo
      have HB4 := Lib.hid hB4
      have HSZ4 := Lib.hid hsz4
      clear hw4 hW4 hB4 hbo hcell4 hown him hat hhas hf hks hsd hsz4
      simp only [World.size_alloc]
      go_wp2_with fail
      refine hsk.out.mono ?_
      rintro e w6 ⟨vK, m, rfl, hkd, hsr, hoK, hb6⟩
      obtain ⟨hord, hmem, hsmk⟩ := hkeys.out m hkd hsr
      have hml : m.length ≤ k := Nat.le_trans hkd.2.2.1 HSD.out
      have HRN := Lib.hid (show rowsK l m = nrmL l from rowsK_nrm (fun x hx => lineI_can (hLI.out x hx)) hord hmem)
      have HSMK := Lib.hid hsmk
      have HMEM := Lib.hid hmem
      have hs46 := hb6.size
      rw [HSZ4.out] at hs46
      have R2 := Lib.hid (show N2R d cz l m w3 w6 vK w1.heap.size k 0 w6 from ⟨⟨.slice none 0 0, (hb6.block _ (by rw [HSZ4.out]; omega)).trans HBO.out, Row.Own.nil _ _⟩, by rw [← HSZ4.out]; exact hoK, fun g e => (hoK.own g e).2, HN4.out.below hb6, HB4.out.trans (hb6.mono HB4.out.size), Nat.le_refl _⟩)
      obtain ⟨AK, cK, rfl, _⟩ := hoK.rds
      have hbm := HN3.out.lt
      clear hsk hkeys hkd hsr hord hmem hsmk hoK hb6 HN4 HB4 HBO HSD
      obtain ⟨q, hq⟩ : ∃ q, m.length = q := ⟨_, rfl⟩
      have HQ := Lib.hid hq
      rw [hq] at R2 hml ⊢
      clear hq
      go_wp2_with fail
      go_loopw [58, 12] (fun i _ wr => ∃ j : Nat, j ≤ q ∧ i = .int .i64 (j : Int) ∧ Hid (N2R d cz l m w3 w6 (.slice AK q cK) w1.heap.size k j wr)) (fun i _ _ => q - (intOf i).toNat)
      case atStart => exact ⟨0, by omega, rfl, R2⟩
      case round =>
        clear R2
        obtain ⟨j, hj, rfl, hR⟩ := hrel
        by_cases hlt : j < q
        · have hjm : j < m.length := by rw [HQ.out]; exact hlt
          obtain ⟨A', c', e', hrd⟩ := hR.out.keys.rds
          injection e' with e1 e2 e3
          subst e1 e3
          rw [HQ.out] at hrd
          clear e2
          obtain ⟨b1, o1, rfl, hb1, _⟩ := hrd.at_ (by omega)
          have r0 := hrd.cell rowK_ok ([], []) j 0 _ hlt rfl
          have r1 := hrd.cell rowK_ok ([], []) j 1 _ hlt rfl
          have hmemq : m.getD j ([], []) ∈ m := by
            rw [List.getD_eq_getElem?_getD, List.getElem?_eq_getElem hjm]; exact List.getElem_mem hjm
          have hsq := HSMK.out _ hmemq
          have htk := take_ky m j hjm
          have hsn := Lib.hid (rowsK_snoc l (m.take j) (m.getD j ([], [])))
          rw [← htk] at hsn
          have hji : (j : Int) < (q : Int) := by omega
          generalize m.getD j ([], []) = ky at *
          obtain ⟨ka, kc⟩ := ky
          simp only [Nat.add_zero] at r0 r1
          have hR5 := Lib.hid (hR.out.alloc (.cells #[.string ⟨ka.toArray⟩, .string ⟨kc.toArray⟩] 75))
          have hlk := hR5.out.map.look ka kc hsq
          have etk : List.take k l = l := List.take_of_length_le (by rw [ll.out]; exact Nat.le_refl _)
          rw [etk] at hlk
          have HSN := Lib.hid hsn.out
          have hlt5 : wr.heap.size < (wr.alloc (.cells #[.string ⟨ka.toArray⟩, .string ⟨kc.toArray⟩] 75)).heap.size := by simp
          have X5 := heap_alloc_new wr (.cells #[.string ⟨ka.toArray⟩, .string ⟨kc.toArray⟩] 75)
          have p0 : (wr.alloc (.cells #[.string ⟨ka.toArray⟩, .string ⟨kc.toArray⟩] 75)).cell? ⟨wr.heap.size, 0, none⟩ = some (.string ⟨ka.toArray⟩) := by rw [cell_of_row _ _ _ _ _ _ X5]; rfl
          have p1 : (wr.alloc (.cells #[.string ⟨ka.toArray⟩, .string ⟨kc.toArray⟩] 75)).cell? ⟨wr.heap.size, 1, none⟩ = some (.string ⟨kc.toArray⟩) := by rw [cell_of_row _ _ _ _ _ _ X5]; rfl
          clear hmemq hsq hsn etk X5 hrd hR htk hjm
          generalize hvv : txt (tot l (ka, kc)) = av at *
          rcases av with _ | ⟨v0, vr⟩
          · have RR := Lib.hid (hR5.out.skip (by rw [HSN.out, if_pos rfl, List.append_nil]))
            clear hvv p0 p1 hlt5
            go_wp2_with fail
            exact ⟨⟨j + 1, by omega, by go_num, RR⟩, by simp [intOf]; omega⟩
          · obtain ⟨v', hW5, hO5⟩ := hR5.out.out
            obtain ⟨A2, c2, rfl⟩ := hO5.slice
            obtain ⟨⟨u0, u1, u2⟩, _⟩ := cells3 hW5
            have HO5 := Lib.hid hO5
            have HW5 := Lib.hid hW5
            have hlr := Lib.hid (rowsK_len l (m.take j))
            have hmt : (m.take j).length ≤ 1000 := by rw [List.length_take, HQ.out]; omega
            have hsz5 := Lib.hid hR5.out.sz
            have hltb : w3.heap.size < (wr.alloc (.cells #[.string ⟨ka.toArray⟩, .string ⟨kc.toArray⟩] 75)).heap.size := block_lt_of_cell u0
            have hlb := Lib.hid hltb
            have hrj := Lib.hid (show rowsK l (m.take (j + 1)) = rowsK l (m.take j) ++ [(ka, kc, v0 :: vr)] by rw [HSN.out, if_neg (by simp)])
            clear hvv hO5 hW5 hltb hlt5
            go_wp2_with (first
              | (at_builtin; refine wp_append1h rowL_ok rfl (.tmp 68) (.tmp 75) rfl w6.heap.size _ (rowsK l (m.take j)) (wr.alloc (.cells #[.string ⟨ka.toArray⟩, .string ⟨kc.toArray⟩] 75)) (wr.heap.size + 1) (by simp) (ka, kc, v0 :: vr) _ _ rfl rfl rfl HO5.out rfl hsz5.out (by have := hlr.out; omega) ?_; intro v1 w7 ho7 hg7 hat7; obtain ⟨A7, c7, rfl⟩ := ho7.slice; have HB7 := Lib.hid ((hg7.block _ hlb.out (fun e => by have := (HO5.out.own _ e.symm).1; omega)).trans HW5.out); obtain ⟨⟨t0, t1, t2⟩, k0, k1, k2⟩ := cells3 HB7.out; have HO7 := Lib.hid ho7; have HG7 := Lib.hid hg7; clear ho7 hg7 hat7)
              | fail)
            have RR := Lib.hid (hR5.out.step HO5.out HW5.out (by omega) hbm HO7.out HG7.out hrj.out)
            rw [List.length_append, List.length_singleton] at RR
            exact ⟨⟨j + 1, by omega, by go_num, RR⟩, by simp [intOf]; omega⟩
        · have hjq : j = q := by omega
          subst hjq
          have hji : ¬ (j : Int) < (j : Int) := by omega
          obtain ⟨v', hW, hO⟩ := hR.out.out
          have etk : m.take j = m := List.take_of_length_le (by rw [HQ.out]; exact Nat.le_refl _)
          rw [etk, HRN.out] at hO
          have hsm : ∀ z ∈ nrmL l, Sml z := by
            rw [← HRN.out]
            exact rowsK_sml (by rw [ll.out]; exact hn) L1.out.sml HS.out (fun q hq => (HMEM.out q).1 hq)
          have hN : (nrmL l).length ≤ 1000 := by
            rw [← HRN.out]
            have := rowsK_len l m
            rw [HQ.out] at this
            omega
          obtain ⟨⟨u0, u1, u2⟩, _⟩ := cells3 hW
          have hbel := hR.out.bel
          have z1 := (hbel.block (w.heap.size + 1) (by omega)).trans Z2.out
          have Z4 := Lib.hid (show Z3 w wr from z1)
          have HB4 := Lib.hid (HB3.out.trans (hbel.mono HB3.out.size))
          have HO := Lib.hid hO
          have HSM := Lib.hid hsm
          obtain ⟨N, hNe⟩ : ∃ N, (nrmL l).length = N := ⟨_, rfl⟩
          obtain ⟨A2, c2, rfl⟩ := hO.slice
          rw [hNe] at u2 HO hN hI4 HGOOD
          have HNE := Lib.hid hNe
          clear etk hW hO hsm hbel hNe hR
          by_cases h64 : 64 < N
          · have h64i : decide (64 < (N : Int)) = true := by rw [decide_eq_true_iff]; omega
            have hr := Lib.hid (show ri = 4 by rw [hI4.out, if_pos h64])
            obtain ⟨⟨c10, c11, c12⟩, f10, f11, f12⟩ := cells3 z1
            obtain ⟨⟨g10, g11, g12⟩, _⟩ := cells3 (set3 z1 (.int .i64 0) (.string ⟨#[]⟩) (.slice none 0 0))
            clear z1 h64
            go_wp2_with fail
            exact bodyPost_ret (v := .tuple #[.agg #[.int .i64 0, .string ⟨#[]⟩, .slice none 0 0], .int .i64 4]) (by simp [results, Tryz.results21, go_sem, g10, g11, g12]) rfl (HBAD.out wr _ 4 Z4.out HB4.out hr.out (by decide) rfl)
          · have h64i : decide (64 < (N : Int)) = false := by rw [decide_eq_false_iff_not]; omega
            have hr := Lib.hid (show ri = 0 by rw [hI4.out, if_neg h64])
            obtain ⟨⟨c10, c11, c12⟩, f10, f11, f12⟩ := cells3 z1
            obtain ⟨⟨g10, g11, g12⟩, _⟩ := cells3 (set3 z1 (.int .i64 d) (.string ⟨cz.toArray⟩) (.slice A2 N c2))
            have hrr : ∀ k, some (w.heap.size + 1) = some k → k < w6.heap.size := fun k e => by have := Option.some.inj e; omega
            have hof := ((HO.out.kept (grown_setCell wr ⟨w.heap.size + 1, 0, none⟩ (.int .i64 d)) hrr).kept (grown_setCell _ ⟨w.heap.size + 1, 1, none⟩ (.string ⟨cz.toArray⟩)) hrr).kept (grown_setCell _ ⟨w.heap.size + 1, 2, none⟩ (.slice A2 N c2)) hrr
            obtain ⟨A9, c9, e9, hr9⟩ := hof.rds
            rw [HNE.out] at e9 hr9
            injection e9 with e91 _ e93
            subst e91 e93
            have hlns := Lib.hid (Lns.of_rds hr9 hN HSM.out)
            have hbf := Lib.hid (below_set3 HB4.out (b := w.heap.size + 1) (by omega) (.int .i64 d) (.string ⟨cz.toArray⟩) (.slice A2 N c2))
            clear z1 h64 hof hr9 hrr
            go_wp2_with fail
            exact bodyPost_ret (v := .tuple #[.agg #[.int .i64 d, .string ⟨cz.toArray⟩, .slice A2 N c2], .int .i64 0]) (by simp [results, Tryz.results21, go_sem, g10, g11, g12]) rfl (HGOOD.out _ A2 c2 hbf.out hr.out hlns.out)
end Go.Proofs.YtdnomfekblmnbaaGreatDoor

/- Contracts of the laws' line and made. -/
namespace Go.Proofs.YtdnomfekblmnbaaGreatDoor
open Go.RowKit Go.Maps Num

set_option maxRecDepth 100000 in
set_option maxHeartbeats 1000000 in
theorem line_any (s : List UInt8) (n : Int) (w : World) (h0 : -9223372036854775808 ≤ n) (h1 : n ≤ 9223372036854775807) (ht : Tab w) :
    Calls Tryz.prog 40 #[.string ⟨s.toArray⟩, .int .i64 n] w fun e w' => e = .returned (.agg #[.string ⟨s.toArray⟩, .string ⟨#[85, 83, 68]⟩, .string ⟨(txt n).toArray⟩]) ∧ Below w.heap.size w w' := by
  have hB0 : Below w.heap.size w (w.alloc (.cells #[.string ⟨#[]⟩, .string ⟨#[]⟩, .string ⟨#[]⟩] 45)) := (Below.refl _ w).alloc (Nat.le_refl _) _
  have c1 := Of_any n _ h0 h1 (ht.below hB0)
  have C1 := Lib.hid c1
  have HB := Lib.hid hB0
  have X := Lib.hid (heap_alloc_new w (.cells #[.string ⟨#[]⟩, .string ⟨#[]⟩, .string ⟨#[]⟩] 45))
  generalize txt n = t at *
  clear c1 hB0 ht
  go_enter Tryz.func40, Tryz.ntmps40
  go_wp2_with fail
  refine C1.out.mono ?_
  rintro e w2 ⟨rfl, hb⟩
  have z1 := (hb.block w.heap.size (by simp)).trans X.out
  have HB2 := Lib.hid (below_next HB.out hb ⟨rfl, rfl, rfl, rfl⟩)
  obtain ⟨⟨c10, c11, c12⟩, f10, f11, f12⟩ := cells3 z1
  obtain ⟨⟨g10, g11, g12⟩, _⟩ := cells3 (set3 z1 (.string ⟨s.toArray⟩) (.string ⟨#[85, 83, 68]⟩) (.string ⟨t.toArray⟩))
  have hb3 := below_set3 HB2.out (b := w.heap.size) (Nat.le_refl _) (.string ⟨s.toArray⟩) (.string ⟨#[85, 83, 68]⟩) (.string ⟨t.toArray⟩)
  clear z1 hb C1
  go_wp2_with fail
  exact bodyPost_ret (v := .agg #[.string ⟨s.toArray⟩, .string ⟨#[85, 83, 68]⟩, .string ⟨t.toArray⟩]) (by simp [results, Tryz.results40, go_sem, g10, g11, g12]) rfl ⟨rfl, hb3⟩
set_option maxRecDepth 100000 in
set_option maxHeartbeats 1000000 in
theorem made_any (s : List UInt8) (A : Option Addr) (n c : Nat) (w : World) :
    Calls Tryz.prog 39 #[.string ⟨s.toArray⟩, .slice A n c] w fun e w' => e = .returned (.agg (enV 0 s A n c)) ∧ Below w.heap.size w w' := by
  go_enter Tryz.func39, Tryz.ntmps39
  go_wp2_with fail
  exact bodyPost_ret (v := .agg (enV 0 s A n c)) (by simp [results, Tryz.results39, go_sem, enV]) rfl ⟨rfl, (Below.refl _ w).alloc (Nat.le_refl _) _⟩
end Go.Proofs.YtdnomfekblmnbaaGreatDoor

/- The numbers of the laws' awake. -/
namespace Go.Proofs.YtdnomfekblmnbaaGreatDoor
open Go.RowKit Go.Maps Num

def kash : List UInt8 := [49, 46, 99, 97, 115, 104]
def kapi : List UInt8 := [51, 46, 99, 97, 112, 105, 116, 97, 108]
def usd : List UInt8 := [85, 83, 68]
theorem dig1 (n : Nat) (h : 0 < n) (h2 : n < 10) : dig n = [UInt8.ofNat (48 + n)] := by
  rw [dig_pos (by omega), show n / 10 = 0 by omega, dig_zero, show n % 10 = n by omega]; rfl
theorem txt5 : txt 5 = [53] := by unfold txt; rw [if_neg (by omega)]; exact dig1 5 (by omega) (by omega)
theorem txt3 : txt 3 = [51] := by unfold txt; rw [if_neg (by omega)]; exact dig1 3 (by omega) (by omega)
theorem txtm3 : txt (-3) = [45, 51] := by unfold txt; rw [if_pos (by omega)]; show 45 :: dig 3 = _; rw [dig1 3 (by omega) (by omega)]; rfl
theorem txtm2 : txt (-2) = [45, 50] := by unfold txt; rw [if_pos (by omega)]; show 45 :: dig 2 = _; rw [dig1 2 (by omega) (by omega)]; rfl
def lnA : Ln := (kash, usd, [53])
def lnB : Ln := (kapi, usd, [45, 51])
def lnC : Ln := (kash, usd, [45, 50])
def lnD : Ln := (kash, usd, [51])
def lnE : Ln := (kash, usd, [45, 51])
def lnF : Ln := (kapi, usd, [51])
theorem vA : val [53] = 5 := by have := val_txt 5; rwa [txt5] at this
theorem vD : val [51] = 3 := by have := val_txt 3; rwa [txt3] at this
theorem vB : val [45, 51] = -3 := by have := val_txt (-3); rwa [txtm3] at this
theorem vC : val [45, 50] = -2 := by have := val_txt (-2); rwa [txtm2] at this
theorem cAB : cmpKy (kash, usd) (kapi, usd) = -1 := by decide
theorem cBA : cmpKy (kapi, usd) (kash, usd) = 1 := by decide
theorem cAA : cmpKy (kash, usd) (kash, usd) = 0 := by decide
theorem hdA : headI 0 [97] = 0 := by decide
theorem hdB : headI 0 [98] = 0 := by decide
theorem hdC : headI 0 [99] = 0 := by decide
theorem codeK : codeB kash = true := by decide
theorem codeP : codeB kapi = true := by decide
theorem curU : curB usd = true := by decide
theorem chk0 {l : List UInt8} {v : Int} (h : txt v = l) : chkI l = 0 := by
  unfold chkI; rw [if_pos]; unfold can; rw [← h, val_txt]
theorem lineK {m : List UInt8} (h : chkI m = 0) : lineI (kash, usd, m) = 0 := by unfold lineI; rw [codeK, curU]; exact h
theorem lineP {m : List UInt8} (h : chkI m = 0) : lineI (kapi, usd, m) = 0 := by unfold lineI; rw [codeP, curU]; exact h
theorem lA : lineI lnA = 0 := lineK (chk0 txt5)
theorem lB : lineI lnB = 0 := lineP (chk0 txtm3)
theorem lC : lineI lnC = 0 := lineK (chk0 txtm2)
theorem lD : lineI lnD = 0 := lineK (chk0 txt3)
theorem lE : lineI lnE = 0 := lineK (chk0 txtm3)
theorem lF : lineI lnF = 0 := lineP (chk0 txt3)
theorem nrmABC : nrmL [lnA, lnB, lnC] = [lnD, lnB] := by
  show putL (putL (putL [] lnA) lnB) lnC = _
  have e1 : putL [] lnA = [lnA] := by unfold putL; rw [if_neg (by show ¬ val [53] = 0; rw [vA]; decide)]
  have e2 : putL [lnA] lnB = [lnA, lnB] := by
    unfold putL
    rw [if_pos (by show cmpKy (kash, usd) (kapi, usd) < 0; rw [cAB]; decide)]
    unfold putL; rw [if_neg (by show ¬ val [45, 51] = 0; rw [vB]; decide)]
  have e3 : putL [lnA, lnB] lnC = [lnD, lnB] := by
    unfold putL
    rw [if_neg (by show ¬ cmpKy (kash, usd) (kash, usd) < 0; rw [cAA]; decide), if_pos (by show cmpKy (kash, usd) (kash, usd) = 0; exact cAA)]
    rw [if_neg (by show ¬ val [53] + val [45, 50] = 0; rw [vA, vC]; decide)]
    show (kash, usd, txt (val [53] + val [45, 50])) :: _ = _
    rw [vA, vC, show (5 : Int) + -2 = 3 from rfl, txt3]; rfl
  rw [e1, e2, e3]
theorem balABC : balB [lnA, lnB, lnC] = true := by
  rw [balB_iff]
  intro c
  rw [curT_cons, curT_cons, curT_cons]
  show (if usd = c then val [53] else 0) + ((if usd = c then val [45, 51] else 0) + ((if usd = c then val [45, 50] else 0) + 0)) = 0
  rw [vA, vB, vC]; split <;> omega
theorem balDB : balB [lnD, lnB] = true := by
  rw [balB_iff]
  intro c
  rw [curT_cons, curT_cons]
  show (if usd = c then val [51] else 0) + ((if usd = c then val [45, 51] else 0) + 0) = 0
  rw [vD, vB]; split <;> omega
theorem nrmI_a : nrmI 0 [97] [lnA, lnB, lnC] = 0 := by
  unfold nrmI
  rw [hdA, if_neg (by decide), show fldI [lnA, lnB, lnC] = 0 by rw [fldI_cons, lA, if_neg (by decide), fldI_cons, lB, if_neg (by decide), fldI_cons, lC, if_neg (by decide)]; rfl, if_neg (by decide), balABC, if_neg (by decide), nrmABC, if_neg (by decide)]
theorem chkDB {c : List UInt8} (h : headI 0 c = 0) : chkE 0 c [lnD, lnB] = 0 := by
  have e : chkLs none [lnD, lnB] = 0 := by
    rw [chkLs_cons, lD, if_neg (by decide), if_neg (by decide), show ordB none (key lnD) = false from rfl, if_neg (by decide), chkLs_cons, lB, if_neg (by decide), if_neg (by decide)]
    rw [show ordB (some (key lnD)) (key lnB) = false by show decide (0 ≤ cmpKy (kash, usd) (kapi, usd)) = false; rw [cAB]; rfl, if_neg (by decide)]; rfl
  unfold chkE
  rw [h, if_neg (by decide), if_neg (by decide), if_neg (by decide), e, if_neg (by decide), if_pos balDB]
theorem chk_nil : chkE 0 [] [] = 23 := by
  have : headI 0 [] = 23 := by decide
  unfold chkE; rw [this, if_pos (by decide)]
theorem negDB : [lnD, lnB].map negL = [lnE, lnF] := by
  show [(kash, usd, txt (- val [51])), (kapi, usd, txt (- val [45, 51]))] = _
  rw [vD, vB, txtm3, show (- (-3) : Int) = 3 from rfl, txt3]; rfl
def enX : En := (0, [97], [lnD, lnB])
def enY : En := (0, [98], [lnD, lnB])
def enZ : En := (0, [99], [lnD, lnB])
theorem okX : okE enX = true := decide_eq_true (chkDB hdA)
theorem okY : okE enY = true := decide_eq_true (chkDB hdB)
theorem okZ : okE enZ = true := decide_eq_true (chkDB hdC)
theorem cXX : cmpE enX enX = 0 := cmpE_cmp.self _
theorem cXY : cmpE enX enY = -1 := by
  show orC _ _ _ _ = _
  unfold orC
  rw [if_neg (by decide), if_pos (by decide)]
  decide
theorem cXZ : cmpE enX enZ = -1 := by
  show orC _ _ _ _ = _
  unfold orC
  rw [if_neg (by decide), if_pos (by decide)]
  decide
theorem cYZ : cmpE enY enZ = -1 := by
  show orC _ _ _ _ = _
  unfold orC
  rw [if_neg (by decide), if_pos (by decide)]
  decide
theorem srt_self {l : List En} (hs : Srt cmpE l) (h : ∀ x ∈ l, okE x = true) : srtE l = l := by
  refine srt_uniq cmpE_cmp (srtE_srt l) hs (srtE_perm l) (ok_tight fun x hx => h x ((srtE_perm l).mem_iff.1 hx))
theorem mnsXYZ : mns [enX, enX, enY] [enX, enZ] = ([enX, enY], [enZ]) := by
  have e1 : srtE [enX, enX, enY] = [enX, enX, enY] := srt_self (by
    refine List.pairwise_cons.2 ⟨fun z hz => ?_, List.pairwise_cons.2 ⟨fun z hz => ?_, List.pairwise_singleton _ _⟩⟩
    · rcases List.mem_cons.1 hz with e | hz
      · subst e; rw [cXX]; decide
      · rw [List.mem_singleton.1 hz, cXY]; decide
    · rw [List.mem_singleton.1 hz, cXY]; decide) (fun x hx => by
    simp only [List.mem_cons, List.not_mem_nil, or_false] at hx
    rcases hx with rfl | rfl | rfl
    · exact okX
    · exact okX
    · exact okY)
  have e2 : srtE [enX, enZ] = [enX, enZ] := srt_self (by
    refine List.pairwise_cons.2 ⟨fun z hz => ?_, List.pairwise_singleton _ _⟩
    rw [List.mem_singleton.1 hz, cXZ]; decide) (fun x hx => by
    simp only [List.mem_cons, List.not_mem_nil, or_false] at hx
    rcases hx with rfl | rfl
    · exact okX
    · exact okZ)
  unfold mns
  rw [e1, e2, mrg_cons, cXX, if_neg (by decide), if_neg (by decide), mrg_cons, cXZ, if_pos (by decide), mrg_cons, cYZ, if_pos (by decide), mrg_nil]
theorem okAll : ([enX, enX, enY] ++ [enX, enZ]).all okE = true := by simp [okX, okY, okZ]
end Go.Proofs.YtdnomfekblmnbaaGreatDoor

/- Blocks set up anew that read as lines, as entries; the laws' line at awake's own arguments. -/
namespace Go.Proofs.YtdnomfekblmnbaaGreatDoor
open Go.RowKit Go.Maps Num

theorem rds_block {α : Type} {R : Row α} (_ok : R.Ok) {W : World} {b : Nat} {cs : Array Value} {E : TypeId} (l : List α) (h : W.heap[b]? = some (.cells cs E)) (hcs : cs = (R.vs l).toArray) (hm : l.length ≤ maxLen) : R.Rds W (some ⟨b, 0, none⟩) l.length l.length l :=
  ⟨rfl, Nat.le_refl _, hm, fun _ => by
    have hb : b < W.heap.size := by
      rcases Nat.lt_or_ge b W.heap.size with h' | h'
      · exact h'
      · rw [Array.getElem?_eq_none h'] at h; cases h
    refine ⟨b, 0, rfl, hb, fun j u hu => ?_⟩
    rw [Nat.zero_add, cell_of_row _ _ _ _ _ _ h, hcs, ← hu]
    simp⟩
/-- lines in a block set up anew -/
theorem lns_block {W : World} {b : Nat} {cs : Array Value} {E : TypeId} (l : List Ln) (h : W.heap[b]? = some (.cells cs E)) (hcs : cs = (rowL.vs l).toArray) (hm : l.length ≤ 1000) (hs : ∀ x ∈ l, Sml x) : Lns W (some ⟨b, 0, none⟩) l.length l.length l :=
  Lns.of_rds (rds_block rowL_ok l h hcs (Nat.le_trans hm (by decide))) hm hs
/-- entries in a block set up anew -/
theorem ens_block {W : World} {b : Nat} {cs : Array Value} {E : TypeId} (ps : List RE) (h : W.heap[b]? = some (.cells cs E)) (hcs : cs = (rowE.vs ps).toArray) (hm : ps.length ≤ 1000) (hs : ∀ p ∈ ps, RdE W p) : Ens W (some ⟨b, 0, none⟩) ps.length ps.length (ps.map Prod.snd) :=
  Res.ens ⟨rds_block rowE_ok ps h hcs (Nat.le_trans hm (by decide)), hs⟩ hm
def AggPost (v : Value) (w : World) (e : Ending) (w' : World) : Prop := e = .returned v ∧ Below w.heap.size w w'
theorem lk5 (w : World) (ht : Tab w) : Calls Tryz.prog 40 #[.string ⟨#[49, 46, 99, 97, 115, 104]⟩, .int .i64 5] w (AggPost (.agg #[.string ⟨#[49, 46, 99, 97, 115, 104]⟩, .string ⟨#[85, 83, 68]⟩, .string ⟨#[53]⟩]) w) := by
  have h := line_any kash 5 w (by decide) (by decide) ht
  rw [txt5] at h; exact h
theorem lk3 (w : World) (ht : Tab w) : Calls Tryz.prog 40 #[.string ⟨#[49, 46, 99, 97, 115, 104]⟩, .int .i64 3] w (AggPost (.agg #[.string ⟨#[49, 46, 99, 97, 115, 104]⟩, .string ⟨#[85, 83, 68]⟩, .string ⟨#[51]⟩]) w) := by
  have h := line_any kash 3 w (by decide) (by decide) ht
  rw [txt3] at h; exact h
theorem lkm3 (w : World) (ht : Tab w) : Calls Tryz.prog 40 #[.string ⟨#[49, 46, 99, 97, 115, 104]⟩, .int .i64 (-3)] w (AggPost (.agg #[.string ⟨#[49, 46, 99, 97, 115, 104]⟩, .string ⟨#[85, 83, 68]⟩, .string ⟨#[45, 51]⟩]) w) := by
  have h := line_any kash (-3) w (by decide) (by decide) ht
  rw [txtm3] at h; exact h
theorem lkm2 (w : World) (ht : Tab w) : Calls Tryz.prog 40 #[.string ⟨#[49, 46, 99, 97, 115, 104]⟩, .int .i64 (-2)] w (AggPost (.agg #[.string ⟨#[49, 46, 99, 97, 115, 104]⟩, .string ⟨#[85, 83, 68]⟩, .string ⟨#[45, 50]⟩]) w) := by
  have h := line_any kash (-2) w (by decide) (by decide) ht
  rw [txtm2] at h; exact h
theorem lp3 (w : World) (ht : Tab w) : Calls Tryz.prog 40 #[.string ⟨#[51, 46, 99, 97, 112, 105, 116, 97, 108]⟩, .int .i64 3] w (AggPost (.agg #[.string ⟨#[51, 46, 99, 97, 112, 105, 116, 97, 108]⟩, .string ⟨#[85, 83, 68]⟩, .string ⟨#[51]⟩]) w) := by
  have h := line_any kapi 3 w (by decide) (by decide) ht
  rw [txt3] at h; exact h
theorem lpm3 (w : World) (ht : Tab w) : Calls Tryz.prog 40 #[.string ⟨#[51, 46, 99, 97, 112, 105, 116, 97, 108]⟩, .int .i64 (-3)] w (AggPost (.agg #[.string ⟨#[51, 46, 99, 97, 112, 105, 116, 97, 108]⟩, .string ⟨#[85, 83, 68]⟩, .string ⟨#[45, 51]⟩]) w) := by
  have h := line_any kapi (-3) w (by decide) (by decide) ht
  rw [txtm3] at h; exact h
theorem smA : Sml lnA := by unfold lnA Sml; decide
theorem smB : Sml lnB := by unfold lnB Sml; decide
theorem smC : Sml lnC := by unfold lnC Sml; decide
theorem smD : Sml lnD := by unfold lnD Sml; decide
theorem smE : Sml lnE := by unfold lnE Sml; decide
theorem smF : Sml lnF := by unfold lnF Sml; decide
theorem lns_ABC {W : World} {b : Nat} (h : W.heap[b]? = some (.cells #[.string ⟨#[49, 46, 99, 97, 115, 104]⟩, .string ⟨#[85, 83, 68]⟩, .string ⟨#[53]⟩, .string ⟨#[51, 46, 99, 97, 112, 105, 116, 97, 108]⟩, .string ⟨#[85, 83, 68]⟩, .string ⟨#[45, 51]⟩, .string ⟨#[49, 46, 99, 97, 115, 104]⟩, .string ⟨#[85, 83, 68]⟩, .string ⟨#[45, 50]⟩] 45)) : Lns W (some ⟨b, 0, none⟩) 3 3 [lnA, lnB, lnC] :=
  lns_block [lnA, lnB, lnC] h rfl (by decide) (by
    intro x hx
    simp only [List.mem_cons, List.not_mem_nil, or_false] at hx
    rcases hx with rfl | rfl | rfl
    · exact smA
    · exact smB
    · exact smC)
theorem lns_DB {W : World} {b : Nat} (h : W.heap[b]? = some (.cells #[.string ⟨#[49, 46, 99, 97, 115, 104]⟩, .string ⟨#[85, 83, 68]⟩, .string ⟨#[51]⟩, .string ⟨#[51, 46, 99, 97, 112, 105, 116, 97, 108]⟩, .string ⟨#[85, 83, 68]⟩, .string ⟨#[45, 51]⟩] 45)) : Lns W (some ⟨b, 0, none⟩) 2 2 [lnD, lnB] :=
  lns_block [lnD, lnB] h rfl (by decide) (by
    intro x hx
    simp only [List.mem_cons, List.not_mem_nil, or_false] at hx
    rcases hx with rfl | rfl
    · exact smD
    · exact smB)
theorem lns_EF {W : World} {b : Nat} (h : W.heap[b]? = some (.cells #[.string ⟨#[49, 46, 99, 97, 115, 104]⟩, .string ⟨#[85, 83, 68]⟩, .string ⟨#[45, 51]⟩, .string ⟨#[51, 46, 99, 97, 112, 105, 116, 97, 108]⟩, .string ⟨#[85, 83, 68]⟩, .string ⟨#[51]⟩] 45)) : Lns W (some ⟨b, 0, none⟩) 2 2 [lnE, lnF] :=
  lns_block [lnE, lnF] h rfl (by decide) (by
    intro x hx
    simp only [List.mem_cons, List.not_mem_nil, or_false] at hx
    rcases hx with rfl | rfl
    · exact smE
    · exact smF)
/-- one, two, three entries of day 0 in a block set up anew -/
theorem ens1 {W : World} {b : Nat} {s : List UInt8} {A : Option Addr} {n c : Nat} {l : List Ln} (h : W.heap[b]? = some (.cells #[.int .i64 0, .string ⟨s.toArray⟩, .slice A n c] 32)) (hl : Lns W A n c l) : Ens W (some ⟨b, 0, none⟩) 1 1 [(0, s, l)] :=
  ens_block [((0, s, A, n, c), (0, s, l))] h rfl (by show 1 ≤ 1000; decide) (by
    intro p hp
    rw [List.mem_singleton.1 hp]
    exact ⟨rfl, rfl, hl⟩)
theorem ens2 {W : World} {b : Nat} {s t : List UInt8} {A B : Option Addr} {n c m d : Nat} {l k : List Ln} (h : W.heap[b]? = some (.cells #[.int .i64 0, .string ⟨s.toArray⟩, .slice A n c, .int .i64 0, .string ⟨t.toArray⟩, .slice B m d] 32)) (hl : Lns W A n c l) (hk : Lns W B m d k) : Ens W (some ⟨b, 0, none⟩) 2 2 [(0, s, l), (0, t, k)] :=
  ens_block [((0, s, A, n, c), (0, s, l)), ((0, t, B, m, d), (0, t, k))] h rfl (by show 2 ≤ 1000; decide) (by
    intro p hp
    simp only [List.mem_cons, List.not_mem_nil, or_false] at hp
    rcases hp with rfl | rfl
    · exact ⟨rfl, rfl, hl⟩
    · exact ⟨rfl, rfl, hk⟩)
theorem ens3 {W : World} {b : Nat} {s t u : List UInt8} {A B C : Option Addr} {n c m d p q : Nat} {l k j : List Ln} (h : W.heap[b]? = some (.cells #[.int .i64 0, .string ⟨s.toArray⟩, .slice A n c, .int .i64 0, .string ⟨t.toArray⟩, .slice B m d, .int .i64 0, .string ⟨u.toArray⟩, .slice C p q] 32)) (hl : Lns W A n c l) (hk : Lns W B m d k) (hj : Lns W C p q j) : Ens W (some ⟨b, 0, none⟩) 3 3 [(0, s, l), (0, t, k), (0, u, j)] :=
  ens_block [((0, s, A, n, c), (0, s, l)), ((0, t, B, m, d), (0, t, k)), ((0, u, C, p, q), (0, u, j))] h rfl (by show 3 ≤ 1000; decide) (by
    intro r hr
    simp only [List.mem_cons, List.not_mem_nil, or_false] at hr
    rcases hr with rfl | rfl | rfl
    · exact ⟨rfl, rfl, hl⟩
    · exact ⟨rfl, rfl, hk⟩
    · exact ⟨rfl, rfl, hj⟩)
end Go.Proofs.YtdnomfekblmnbaaGreatDoor

/- Contract of the laws' awake. -/
namespace Go.Proofs.YtdnomfekblmnbaaGreatDoor
theorem block_lt_of_row {W : World} {b : Nat} {o : Obj} (h : W.heap[b]? = some o) : b < W.heap.size := by
  rcases Nat.lt_or_ge b W.heap.size with h' | h'
  · exact h'
  · rw [Array.getElem?_eq_none h'] at h; cases h
open Go.RowKit Go.Maps Num

/-- a box with an entry of day 0 in it -/
structure BoxE (W : World) (b : Nat) (s : List UInt8) (A : Option Addr) (n c : Nat) (l : List Ln) : Prop where
  c0 : W.cell? ⟨b, 0, none⟩ = some (.int .i64 0)
  c1 : W.cell? ⟨b, 1, none⟩ = some (.string ⟨s.toArray⟩)
  c2 : W.cell? ⟨b, 2, none⟩ = some (.slice A n c)
  lns : Lns W A n c l
theorem BoxE.lt {W : World} {b : Nat} {s : List UInt8} {A : Option Addr} {n c : Nat} {l : List Ln} (h : BoxE W b s A n c l) : b < W.heap.size := block_lt_of_cell h.c0
theorem BoxE.below {W W' : World} {b : Nat} {s : List UInt8} {A : Option Addr} {n c : Nat} {l : List Ln} (h : BoxE W b s A n c l) (hb : Below W.heap.size W W') : BoxE W' b s A n c l :=
  ⟨(hb.cell (p := ⟨b, 0, none⟩) h.lt).trans h.c0, (hb.cell (p := ⟨b, 1, none⟩) h.lt).trans h.c1, (hb.cell (p := ⟨b, 2, none⟩) h.lt).trans h.c2, h.lns.below hb⟩
theorem BoxE.new {W : World} {s : List UInt8} {A : Option Addr} {n c : Nat} {l : List Ln} (h : Lns W A n c l) : BoxE (W.alloc (.cells #[.int .i64 0, .string ⟨s.toArray⟩, .slice A n c] 32)) W.heap.size s A n c l := by
  obtain ⟨⟨c0, c1, c2⟩, _⟩ := cells3 (heap_alloc_new W (.cells #[.int .i64 0, .string ⟨s.toArray⟩, .slice A n c] 32))
  exact ⟨c0, c1, c2, h.below ((Below.refl _ _).alloc (Nat.le_refl _) _)⟩
theorem Below.al {w W : World} (h : Below w.heap.size w W) (o : Obj) : Below w.heap.size w (W.alloc o) := h.alloc h.size o
theorem lns_nil {w : World} : Lns w none 0 0 [] := ⟨rfl, Nat.le_refl _, Nat.zero_le _, Nat.zero_le _, fun x hx => (by cases hx), fun h => absurd h (Nat.lt_irrefl 0)⟩
theorem rds_cells {α : Type} {R : Row α} {W : World} {b : Nat} (l : List α) (hb : b < W.heap.size) (h : ∀ (j : Nat) (u : Value), (R.vs l)[j]? = some u → W.cell? ⟨b, j, none⟩ = some u) (hm : l.length ≤ maxLen) : R.Rds W (some ⟨b, 0, none⟩) l.length l.length l :=
  ⟨rfl, Nat.le_refl _, hm, fun _ => ⟨b, 0, rfl, hb, fun j u hu => by rw [Nat.zero_add]; exact h j u hu⟩⟩
/-- a block whose cells are these reads as these lines, entries -/
theorem lns_EFc {W : World} {b : Nat} (c0 : W.cell? ⟨b, 0, none⟩ = some (.string ⟨#[49, 46, 99, 97, 115, 104]⟩)) (c1 : W.cell? ⟨b, 1, none⟩ = some (.string ⟨#[85, 83, 68]⟩)) (c2 : W.cell? ⟨b, 2, none⟩ = some (.string ⟨#[45, 51]⟩))
    (c3 : W.cell? ⟨b, 3, none⟩ = some (.string ⟨#[51, 46, 99, 97, 112, 105, 116, 97, 108]⟩)) (c4 : W.cell? ⟨b, 4, none⟩ = some (.string ⟨#[85, 83, 68]⟩)) (c5 : W.cell? ⟨b, 5, none⟩ = some (.string ⟨#[51]⟩)) : Lns W (some ⟨b, 0, none⟩) 2 2 [lnE, lnF] := by
  refine Lns.of_rds (rds_cells [lnE, lnF] (block_lt_of_cell c0) ?_ (by show 2 ≤ maxLen; decide)) (by decide) (by
    intro x hx
    simp only [List.mem_cons, List.not_mem_nil, or_false] at hx
    rcases hx with rfl | rfl
    · exact smE
    · exact smF)
  intro j u hu
  rcases j with _ | _ | _ | _ | _ | _ | j
  · exact c0.trans hu
  · exact c1.trans hu
  · exact c2.trans hu
  · exact c3.trans hu
  · exact c4.trans hu
  · exact c5.trans hu
  · cases hu
theorem ens1c {W : World} {b : Nat} {s : List UInt8} {A : Option Addr} {n c : Nat} {l : List Ln} (c0 : W.cell? ⟨b, 0, none⟩ = some (.int .i64 0)) (c1 : W.cell? ⟨b, 1, none⟩ = some (.string ⟨s.toArray⟩)) (c2 : W.cell? ⟨b, 2, none⟩ = some (.slice A n c)) (hl : Lns W A n c l) : Ens W (some ⟨b, 0, none⟩) 1 1 [(0, s, l)] := by
  refine Res.ens (ps := [((0, s, A, n, c), (0, s, l))]) ⟨rds_cells [((0, s, A, n, c), (0, s, l))] (block_lt_of_cell c0) ?_ (by show 1 ≤ maxLen; decide), ?_⟩ (by decide)
  · intro j u hu
    rcases j with _ | _ | _ | j
    · exact c0.trans hu
    · exact c1.trans hu
    · exact c2.trans hu
    · cases hu
  · intro p hp
    rw [List.mem_singleton.1 hp]
    exact ⟨rfl, rfl, hl⟩
theorem ens2c {W : World} {b : Nat} {s t : List UInt8} {A B : Option Addr} {n c m d : Nat} {l k : List Ln} (c0 : W.cell? ⟨b, 0, none⟩ = some (.int .i64 0)) (c1 : W.cell? ⟨b, 1, none⟩ = some (.string ⟨s.toArray⟩)) (c2 : W.cell? ⟨b, 2, none⟩ = some (.slice A n c)) (c3 : W.cell? ⟨b, 3, none⟩ = some (.int .i64 0)) (c4 : W.cell? ⟨b, 4, none⟩ = some (.string ⟨t.toArray⟩)) (c5 : W.cell? ⟨b, 5, none⟩ = some (.slice B m d)) (hl : Lns W A n c l) (hk : Lns W B m d k) : Ens W (some ⟨b, 0, none⟩) 2 2 [(0, s, l), (0, t, k)] := by
  refine Res.ens (ps := [((0, s, A, n, c), (0, s, l)), ((0, t, B, m, d), (0, t, k))]) ⟨rds_cells [((0, s, A, n, c), (0, s, l)), ((0, t, B, m, d), (0, t, k))] (block_lt_of_cell c0) ?_ (by show 2 ≤ maxLen; decide), ?_⟩ (by show 2 ≤ 1000; decide)
  · intro j u hu
    rcases j with _ | _ | _ | _ | _ | _ | j
    · exact c0.trans hu
    · exact c1.trans hu
    · exact c2.trans hu
    · exact c3.trans hu
    · exact c4.trans hu
    · exact c5.trans hu
    · cases hu
  · intro p hp
    simp only [List.mem_cons, List.not_mem_nil, or_false] at hp
    rcases hp with rfl | rfl
    · exact ⟨rfl, rfl, hl⟩
    · exact ⟨rfl, rfl, hk⟩
theorem Same_self (A B : Option Addr) (n c p d : Nat) (l : List En) (w : World) (hl : Ens w A n c l) (hm : Ens w B p d l) : Calls Tryz.prog 17 #[.slice A n c, .slice B p d] w (BoolPost true w) := by
  have h := Same_any A B n c p d l l w hl hm
  rwa [decide_eq_true rfl] at h
theorem below_via {w W w' : World} (hb : Below W.heap.size W w') (h : Below w.heap.size w W) : Below w.heap.size w w' := h.trans (hb.mono h.size)
/-- the slice of one entry, built ahead of a call -/
theorem zR1 {X w' : World} {A : Option Addr} {c : Nat} (hb : Below (X.alloc (.cells #[.int .i64 0, .string ⟨#[97]⟩, .slice A 2 c] 32)).drew.heap.size (X.alloc (.cells #[.int .i64 0, .string ⟨#[97]⟩, .slice A 2 c] 32)).drew w') (hl : Lns X A 2 c [lnE, lnF]) : Hid (Ens w' (some ⟨X.heap.size, 0, none⟩) 1 1 [(0, [97], [lnE, lnF])]) :=
  Lib.hid ((ens1 (s := [97]) (heap_alloc_new X (.cells #[.int .i64 0, .string ⟨#[97]⟩, .slice A 2 c] 32)) (hl.below (Below.al (Below.refl _ _) _))).below (below_next (Below.refl _ _) hb ⟨rfl, rfl, rfl, rfl⟩))
theorem zR2 {X w' : World} {A : Option Addr} {c : Nat} (hb : Below (X.alloc (.cells #[.int .i64 0, .string ⟨#[97]⟩, .slice A 2 c] 32)).heap.size (X.alloc (.cells #[.int .i64 0, .string ⟨#[97]⟩, .slice A 2 c] 32)) w') (hl : Lns X A 2 c [lnE, lnF]) : Hid (Ens w' (some ⟨X.heap.size, 0, none⟩) 1 1 [(0, [97], [lnE, lnF])]) :=
  Lib.hid ((ens1 (s := [97]) (heap_alloc_new X (.cells #[.int .i64 0, .string ⟨#[97]⟩, .slice A 2 c] 32)) (hl.below (Below.al (Below.refl _ _) _))).below hb)
theorem keepD {W : World} {p : Addr} {v : Value} (h : W.cell? p = some v) : W.drew.cell? p = some v := h
theorem keepA {W : World} {p : Addr} {v : Value} (h : W.cell? p = some v) (o : Obj) : (W.alloc o).cell? p = some v := (World.cell?_alloc_some W p o (by rw [h]; rfl)).trans h
theorem keepS {W : World} {p : Addr} {v : Value} (h : W.cell? p = some v) (q : Addr) (u : Value) (hne : q.block ≠ p.block) : (W.setCell q u).cell? p = some v := (World.cell?_setCell_far W q p u hne).trans h
theorem made_at (s : ByteArray) (A : Option Addr) (n c : Nat) (w : World) :
    Calls Tryz.prog 39 #[.string s, .slice A n c] w fun e w' => e = .returned (.agg #[.int .i64 0, .string s, .slice A n c]) ∧ w' = w.alloc (.cells #[.int .i64 0, .string s, .slice A n c] 32) := by
  go_enter Tryz.func39, Tryz.ntmps39
  go_wp2_with fail
  exact bodyPost_ret (v := .agg #[.int .i64 0, .string s, .slice A n c]) (by simp [results, Tryz.results39, go_sem]) rfl ⟨rfl, rfl⟩
set_option maxRecDepth 100000 in
set_option maxHeartbeats 4000000 in
theorem awake_any (w : World) (ht : Tab w) (hm : ML w) : Calls Tryz.prog 11 #[] w (BoolPost true w) := by
  have HT := Lib.hid ht
  have HM := Lib.hid hm
  have HP := Lib.hid (fun W (h : Below w.heap.size w W) => (show BoolPost true w (.returned (.bool true)) W from ⟨rfl, h⟩))
  clear ht hm
  generalize BoolPost true w = Post at *
  go_enter Tryz.func11, Tryz.ntmps11
  go_wp2_with fail
  refine (lk5 _ HT.out).mono ?_
  rintro e w1 ⟨rfl, hb⟩
  have HB1 := Lib.hid hb
  clear hb
  go_wp2_with fail
  refine (lpm3 _ (HT.out.below HB1.out)).mono ?_
  rintro e w2 ⟨rfl, hb⟩
  have HB2 := Lib.hid (below_next HB1.out hb ⟨rfl, rfl, rfl, rfl⟩)
  clear hb HB1
  go_wp2_with fail
  refine (lkm2 _ (HT.out.below HB2.out)).mono ?_
  rintro e w3 ⟨rfl, hb⟩
  have HB3 := Lib.hid (below_next HB2.out hb ⟨rfl, rfl, rfl, rfl⟩)
  clear hb HB2
  go_wp2_with fail
  have hz := heap_alloc_new w3 (.cells #[.string ⟨#[49, 46, 99, 97, 115, 104]⟩, .string ⟨#[85, 83, 68]⟩, .string ⟨#[53]⟩, .string ⟨#[51, 46, 99, 97, 112, 105, 116, 97, 108]⟩, .string ⟨#[85, 83, 68]⟩, .string ⟨#[45, 51]⟩, .string ⟨#[49, 46, 99, 97, 115, 104]⟩, .string ⟨#[85, 83, 68]⟩, .string ⟨#[45, 50]⟩] 45)
  refine (made_any [97] _ _ _ _).mono ?_
  rintro e w4 ⟨rfl, hb⟩
  have HB4 := Lib.hid (below_next (HB3.out.alloc HB3.out.size _) hb ⟨rfl, rfl, rfl, rfl⟩)
  have HL := Lib.hid (lns_ABC ((hb.block w3.heap.size (by simp)).trans hz))
  clear hb HB3 hz
  unfold enV
  go_wp2_with fail
  have hN := Nrm_any 0 [97] _ _ _ _ _ HL.out (by decide) (by
    intro x hx
    simp only [List.mem_cons, List.not_mem_nil, or_false] at hx
    rcases hx with rfl | rfl | rfl <;> decide) (HT.out.below HB4.out) (HM.out.below HB4.out)
  unfold enV at hN
  refine hN.mono ?_
  clear hN HL
  rintro e w5 ⟨hb, he⟩
  rw [if_pos nrmI_a, nrmABC] at he
  obtain ⟨A1, c1, rfl, hL1⟩ := he
  have HB5 := Lib.hid (below_next HB4.out hb ⟨rfl, rfl, rfl, rfl⟩)
  clear hb HB4
  unfold enV
  go_wp2_with fail
  change Lns w5 A1 2 c1 [lnD, lnB] at hL1
  have HB6 := Lib.hid (HB5.out.alloc HB5.out.size (.cells #[.int .i64 0, .string ⟨#[97]⟩, .slice A1 2 c1] 32))
  have HA := Lib.hid (BoxE.new (s := [97]) hL1)
  clear hL1 HB5
  refine (lk3 _ (HT.out.below HB6.out)).mono ?_
  change Hid (BoxE (w5.alloc (.cells #[.int .i64 0, .string ⟨#[97]⟩, .slice A1 2 c1] 32)) _ _ _ _ _ _) at HA
  generalize w5.alloc (.cells #[.int .i64 0, .string ⟨#[97]⟩, .slice A1 2 c1] 32) = w6 at *
  generalize w5.heap.size = ba at *
  rintro e w7 ⟨rfl, hb⟩
  have HB7 := Lib.hid (below_next HB6.out hb ⟨rfl, rfl, rfl, rfl⟩)
  have HA7 := Lib.hid (HA.out.below hb)
  clear hb HA HB6
  go_wp2_with fail
  refine (lpm3 _ (HT.out.below HB7.out)).mono ?_
  rintro e w8 ⟨rfl, hb⟩
  have HB8 := Lib.hid (below_next HB7.out hb ⟨rfl, rfl, rfl, rfl⟩)
  have HA8 := Lib.hid (HA7.out.below hb)
  clear hb HA7 HB7
  go_wp2_with fail
  have hz := heap_alloc_new w8 (.cells #[.string ⟨#[49, 46, 99, 97, 115, 104]⟩, .string ⟨#[85, 83, 68]⟩, .string ⟨#[51]⟩, .string ⟨#[51, 46, 99, 97, 112, 105, 116, 97, 108]⟩, .string ⟨#[85, 83, 68]⟩, .string ⟨#[45, 51]⟩] 45)
  have h8 := (Below.refl w8.heap.size w8).alloc (Nat.le_refl _) (.cells #[.string ⟨#[49, 46, 99, 97, 115, 104]⟩, .string ⟨#[85, 83, 68]⟩, .string ⟨#[51]⟩, .string ⟨#[51, 46, 99, 97, 112, 105, 116, 97, 108]⟩, .string ⟨#[85, 83, 68]⟩, .string ⟨#[45, 51]⟩] 45)
  refine (made_any [97] _ _ _ _).mono ?_
  rintro e w9 ⟨rfl, hb⟩
  have h9 := below_next h8 hb ⟨rfl, rfl, rfl, rfl⟩
  have HB9 := Lib.hid (below_next HB8.out h9 ⟨rfl, rfl, rfl, rfl⟩)
  have HL := Lib.hid (lns_DB ((hb.block w8.heap.size (by simp)).trans hz))
  have HA9 := Lib.hid (HA8.out.below h9)
  clear hb hz h8 h9 HB8 HA8
  generalize w8.heap.size = bl at *
  unfold enV
  go_wp2_with fail
  have HBx := Lib.hid (HB9.out.alloc HB9.out.size (.cells #[.int .i64 0, .string ⟨#[97]⟩, .slice (some ⟨bl, 0, none⟩) 2 2] 32))
  have HX := Lib.hid (BoxE.new (s := [97]) HL.out)
  have HAx := Lib.hid (HA9.out.below ((Below.refl w9.heap.size w9).alloc (Nat.le_refl _) (.cells #[.int .i64 0, .string ⟨#[97]⟩, .slice (some ⟨bl, 0, none⟩) 2 2] 32)))
  clear HL HA9 HB9
  change Hid (BoxE (w9.alloc (.cells #[.int .i64 0, .string ⟨#[97]⟩, .slice (some ⟨bl, 0, none⟩) 2 2] 32)) _ _ _ _ _ _) at HX
  generalize w9.alloc (.cells #[.int .i64 0, .string ⟨#[97]⟩, .slice (some ⟨bl, 0, none⟩) 2 2] 32) = w10 at *
  generalize w9.heap.size = bx at *
  have hR := Rev_any 0 [97] _ _ _ _ _ HX.out.lns (by decide) (by
    intro x hx
    simp only [List.mem_cons, List.not_mem_nil, or_false] at hx
    rcases hx with rfl | rfl <;> decide) (HT.out.below HBx.out) (HM.out.below HBx.out)
  unfold enV at hR
  refine hR.mono ?_
  clear hR
  rintro e w11 ⟨hb, he⟩
  rw [if_pos (chkDB hdA), negDB] at he
  obtain ⟨A3, c3, rfl, hL3⟩ := he
  change Lns w11 A3 2 c3 [lnE, lnF] at hL3
  have HB11 := Lib.hid (below_next HBx.out hb ⟨rfl, rfl, rfl, rfl⟩)
  have HA11 := Lib.hid (HAx.out.below hb)
  have HX11 := Lib.hid (HX.out.below hb)
  clear hb HBx HAx HX
  unfold enV
  rw [show [lnD, lnB].length = 2 from rfl]
  have HBr := Lib.hid (HB11.out.alloc HB11.out.size (.cells #[.int .i64 0, .string ⟨#[97]⟩, .slice A3 2 c3] 32))
  have HR := Lib.hid (BoxE.new (s := [97]) hL3)
  have HAr := Lib.hid (HA11.out.below ((Below.refl w11.heap.size w11).alloc (Nat.le_refl _) (.cells #[.int .i64 0, .string ⟨#[97]⟩, .slice A3 2 c3] 32)))
  have HXr := Lib.hid (HX11.out.below ((Below.refl w11.heap.size w11).alloc (Nat.le_refl _) (.cells #[.int .i64 0, .string ⟨#[97]⟩, .slice A3 2 c3] 32)))
  clear hL3 HB11 HA11 HX11
  go_wp2_with fail
  generalize w11.alloc (.cells #[.int .i64 0, .string ⟨#[97]⟩, .slice A3 2 c3] 32) = w12 at *
  generalize w11.heap.size = br at *
  obtain ⟨x0, x1, x2, _⟩ := HXr.out
  have l4 : bx < w12.heap.size := block_lt_of_cell x2
  go_cut [6, 7] (fun s6 s7 wx => Hid (∃ b6 b7, s6 = .pointer (some ⟨b6, 0, none⟩) ∧ s7 = .pointer (some ⟨b7, 0, none⟩) ∧ Below w12.heap.size w12 wx ∧ wx.cell? ⟨b6, 0, none⟩ = some (.int .i64 0) ∧ wx.cell? ⟨b6, 1, none⟩ = some (.string ⟨#[98]⟩) ∧ wx.cell? ⟨b6, 2, none⟩ = some (.slice (some ⟨bl, 0, none⟩) 2 2) ∧ wx.cell? ⟨b7, 0, none⟩ = some (.int .i64 0) ∧ wx.cell? ⟨b7, 1, none⟩ = some (.string ⟨#[99]⟩) ∧ wx.cell? ⟨b7, 2, none⟩ = some (.slice (some ⟨bl, 0, none⟩) 2 2)))
  case first =>
    clear HP HT HM HAr HXr HBr HR
    have l5 : bx < w12.heap.size + 1 := by omega
    have l6 : bx < w12.heap.size + 1 + 1 := by omega
    have l7 : bx < w12.heap.size + 1 + 1 + 1 := by omega
    have l8 : ¬ bx = w12.heap.size := by omega
    have l9 : ¬ bx = w12.heap.size + 1 := by omega
    have l10 : ¬ bx = w12.heap.size + 1 + 1 := by omega
    have l11 : ¬ bx = w12.heap.size + 1 + 1 + 1 := by omega
    go_region_held3 (fun w' => w'.cell? ⟨bx, 2, none⟩ = some (.slice (some ⟨bl, 0, none⟩) 2 2))
      (repeat (first | exact x2 | refine keepD ?_ | refine keepA ?_ _ | refine keepS ?_ _ _ (by simp only []; omega)))
      (first | (go_at_call 39; with_reducible refine (made_at _ _ _ _ _).mono ?_; rintro e w' ⟨rfl, rfl⟩))
    all_goals (go_wp2_with fail; go_meet; refine Lib.hid ⟨_, _, rfl, rfl, ?_, ?_, ?_, ?_, ?_, ?_, ?_⟩)
    all_goals first
      | (refine Below.drew ?_; exact Below.al (Below.al (Below.al (Below.al (Below.refl _ _) _) _) _) _)
      | go_simp
  case rest =>
  obtain ⟨b2, b3, rfl, rfl, hbc, y0, y1, y2, z0, z1, z2⟩ := hcut.out
  have hbw := HBr.out.trans (hbc.mono HBr.out.size)
  have hX := HXr.out.below hbc
  have hY : BoxE wc b2 [98] (some ⟨bl, 0, none⟩) 2 2 [lnD, lnB] := ⟨y0, y1, y2, hX.lns⟩
  have hZ : BoxE wc b3 [99] (some ⟨bl, 0, none⟩) 2 2 [lnD, lnB] := ⟨z0, z1, z2, hX.lns⟩
  have BW := Lib.hid hbw
  have AC := Lib.hid (HAr.out.below hbc)
  have RC := Lib.hid (HR.out.below hbc)
  have XC := Lib.hid hX
  have YC := Lib.hid hY
  have ZC := Lib.hid hZ
  clear x0 x1 x2 l4 hcut hbc hbw hX hY hZ HBr HAr HXr HR
  obtain ⟨x0, x1, x2, _⟩ := XC.out
  have lx : bx < wc.heap.size := XC.out.lt
  have ly : b2 < wc.heap.size := YC.out.lt
  have lz : b3 < wc.heap.size := ZC.out.lt
  go_wp2_with fail
  have hE1 := ens3 (heap_alloc_new wc (.cells #[.int .i64 0, .string ⟨#[97]⟩, .slice (some ⟨bl, 0, none⟩) 2 2, .int .i64 0, .string ⟨#[97]⟩, .slice (some ⟨bl, 0, none⟩) 2 2, .int .i64 0, .string ⟨#[98]⟩, .slice (some ⟨bl, 0, none⟩) 2 2] 32)) (s := [97]) (t := [97]) (u := [98]) (XC.out.lns.below (Below.al (Below.refl _ _) _)) (XC.out.lns.below (Below.al (Below.refl _ _) _)) (XC.out.lns.below (Below.al (Below.refl _ _) _))
  have hBq := Below.al (Below.refl _ wc) (.cells #[.int .i64 0, .string ⟨#[97]⟩, .slice (some ⟨bl, 0, none⟩) 2 2, .int .i64 0, .string ⟨#[97]⟩, .slice (some ⟨bl, 0, none⟩) 2 2, .int .i64 0, .string ⟨#[98]⟩, .slice (some ⟨bl, 0, none⟩) 2 2] 32)
  have hsz : (wc.alloc (.cells #[.int .i64 0, .string ⟨#[97]⟩, .slice (some ⟨bl, 0, none⟩) 2 2, .int .i64 0, .string ⟨#[97]⟩, .slice (some ⟨bl, 0, none⟩) 2 2, .int .i64 0, .string ⟨#[98]⟩, .slice (some ⟨bl, 0, none⟩) 2 2] 32)).heap.size = wc.heap.size + 1 := by simp
  generalize wc.alloc (.cells #[.int .i64 0, .string ⟨#[97]⟩, .slice (some ⟨bl, 0, none⟩) 2 2, .int .i64 0, .string ⟨#[97]⟩, .slice (some ⟨bl, 0, none⟩) 2 2, .int .i64 0, .string ⟨#[98]⟩, .slice (some ⟨bl, 0, none⟩) 2 2] 32) = wd at *
  rw [← hsz]
  have hE2 := ens2 (heap_alloc_new wd (.cells #[.int .i64 0, .string ⟨#[97]⟩, .slice (some ⟨bl, 0, none⟩) 2 2, .int .i64 0, .string ⟨#[99]⟩, .slice (some ⟨bl, 0, none⟩) 2 2] 32)) (s := [97]) (t := [99]) (XC.out.lns.below (Below.al hBq _)) (XC.out.lns.below (Below.al hBq _))
  have hBe := Below.al hBq (.cells #[.int .i64 0, .string ⟨#[97]⟩, .slice (some ⟨bl, 0, none⟩) 2 2, .int .i64 0, .string ⟨#[99]⟩, .slice (some ⟨bl, 0, none⟩) 2 2] 32)
  have hE1' := hE1.below (Below.al (Below.refl _ wd) (.cells #[.int .i64 0, .string ⟨#[97]⟩, .slice (some ⟨bl, 0, none⟩) 2 2, .int .i64 0, .string ⟨#[99]⟩, .slice (some ⟨bl, 0, none⟩) 2 2] 32))
  have hM0 := Minus_any _ _ _ _ _ _ [enX, enX, enY] [enX, enZ] _ hE1' hE2 (by decide) (by decide) (by decide) (by decide) (HT.out.below (BW.out.trans (hBe.mono BW.out.size))) (HM.out.below (BW.out.trans (hBe.mono BW.out.size)))
  have BE := Lib.hid hBe
  clear hE1 hE1' hE2 hBq hBe
  refine hM0.mono ?_
  clear hM0 hsz
  rintro e w13 ⟨hb, he⟩
  rw [if_pos okAll, mnsXYZ] at he
  obtain ⟨A8, c8, A9, c9, rfl, hE8, hE9⟩ := he
  change Ens w13 A8 2 c8 [enX, enY] at hE8
  change Ens w13 A9 1 c9 [enZ] at hE9
  rw [show [enX, enY].length = 2 from rfl, show [enZ].length = 1 from rfl]
  have hbw := below_next BE.out hb ⟨rfl, rfl, rfl, rfl⟩
  have BD := Lib.hid (BW.out.trans (hbw.mono BW.out.size))
  have AD := Lib.hid (AC.out.below hbw)
  have RD := Lib.hid (RC.out.below hbw)
  have XD := Lib.hid (XC.out.below hbw)
  have YD := Lib.hid (YC.out.below hbw)
  have ZD := Lib.hid (ZC.out.below hbw)
  have E8 := Lib.hid hE8
  have E9 := Lib.hid hE9
  clear hb hbw hE8 hE9 BE BW AC RC XC YC ZC x0 x1 x2 y0 y1 y2 z0 z1 z2 lx ly lz
  obtain ⟨a0, a1, a2, _⟩ := AD.out
  obtain ⟨x0, x1, x2, _⟩ := XD.out
  have la : ba < w13.heap.size := AD.out.lt
  have lx : bx < w13.heap.size := XD.out.lt
  go_wp2_with fail
  have hE1 := (ens1 (heap_alloc_new w13 (.cells #[.int .i64 0, .string ⟨#[97]⟩, .slice A1 2 c1] 32)) (s := [97]) (AD.out.lns.below (Below.al (Below.refl _ _) _))).below (Below.al (Below.refl _ _) (.cells #[.int .i64 0, .string ⟨#[97]⟩, .slice (some ⟨bl, 0, none⟩) 2 2] 32))
  have hE2 := ens1 (heap_alloc_new (w13.alloc (.cells #[.int .i64 0, .string ⟨#[97]⟩, .slice A1 2 c1] 32)) (.cells #[.int .i64 0, .string ⟨#[97]⟩, .slice (some ⟨bl, 0, none⟩) 2 2] 32)) (s := [97]) (XD.out.lns.below (Below.al (Below.al (Below.refl _ _) _) _))
  rw [show (w13.alloc (.cells #[.int .i64 0, .string ⟨#[97]⟩, .slice A1 2 c1] 32)).heap.size = w13.heap.size + 1 by simp] at hE2
  have hBe := Below.al (Below.al (Below.refl _ w13) (.cells #[.int .i64 0, .string ⟨#[97]⟩, .slice A1 2 c1] 32)) (.cells #[.int .i64 0, .string ⟨#[97]⟩, .slice (some ⟨bl, 0, none⟩) 2 2] 32)
  have hS := Same_any _ _ _ _ _ _ [enX] [enX] _ hE1 hE2
  rw [decide_eq_true (rfl : [enX] = [enX])] at hS
  have BE := Lib.hid hBe
  clear hE1 hE2 hBe
  refine hS.mono ?_
  clear hS
  rintro e w14 ⟨rfl, hb⟩
  have hb14 := below_next BE.out hb ⟨rfl, rfl, rfl, rfl⟩
  have B14 := Lib.hid hb14
  clear hb BE a0 a1 a2 la x0 x1 x2 lx
  obtain ⟨x0, x1, x2, _⟩ := XD.out.below hb14
  clear hb14
  go_wp2_with fail
  have hC := Chk_any 0 [97] (some ⟨bl, 0, none⟩) 2 2 [lnD, lnB] w14 (XD.out.lns.below B14.out) (by decide) (HT.out.below (BD.out.trans (B14.out.mono BD.out.size))) (HM.out.below (BD.out.trans (B14.out.mono BD.out.size)))
  unfold enV at hC
  rw [chkDB hdA] at hC
  refine hC.mono ?_
  clear hC
  rintro e w15 ⟨rfl, hb⟩
  have B15 := Lib.hid (below_next B14.out hb ⟨rfl, rfl, rfl, rfl⟩)
  clear hb B14 x0 x1 x2
  go_wp2_with fail
  have hC := Chk_any 0 [] none 0 0 [] w15 lns_nil (by decide) (HT.out.below (BD.out.trans (B15.out.mono BD.out.size))) (HM.out.below (BD.out.trans (B15.out.mono BD.out.size)))
  unfold enV at hC
  rw [chk_nil] at hC
  refine hC.mono ?_
  clear hC
  rintro e w16 ⟨rfl, hb⟩
  have B16 := Lib.hid (below_next B15.out hb ⟨rfl, rfl, rfl, rfl⟩)
  clear hb B15
  have R16 := Lib.hid (RD.out.below B16.out)
  have X16 := Lib.hid (XD.out.below B16.out)
  have Y16 := Lib.hid (YD.out.below B16.out)
  have Z16 := Lib.hid (ZD.out.below B16.out)
  have E86 := Lib.hid (E8.out.below B16.out)
  have E96 := Lib.hid (E9.out.below B16.out)
  have B6 := Lib.hid (BD.out.trans (B16.out.mono BD.out.size))
  have T16 := Lib.hid (HT.out.below B6.out)
  clear AD RD XD YD ZD E8 E9 BD B16 HT HM
  go_wp2_with fail
  have HSC := Lib.hid (fun W (h : Below w16.heap.size w16 W) => (show (W.cell? ⟨br, 0, none⟩ = some (.int .i64 0) ∧ W.cell? ⟨br, 1, none⟩ = some (.string ⟨#[97]⟩) ∧ W.cell? ⟨br, 2, none⟩ = some (.slice A3 2 c3)) ∧ (W.cell? ⟨bx, 0, none⟩ = some (.int .i64 0) ∧ W.cell? ⟨bx, 1, none⟩ = some (.string ⟨#[97]⟩) ∧ W.cell? ⟨bx, 2, none⟩ = some (.slice (some ⟨bl, 0, none⟩) 2 2)) ∧ (W.cell? ⟨b2, 0, none⟩ = some (.int .i64 0) ∧ W.cell? ⟨b2, 1, none⟩ = some (.string ⟨#[98]⟩) ∧ W.cell? ⟨b2, 2, none⟩ = some (.slice (some ⟨bl, 0, none⟩) 2 2)) ∧ (W.cell? ⟨b3, 0, none⟩ = some (.int .i64 0) ∧ W.cell? ⟨b3, 1, none⟩ = some (.string ⟨#[99]⟩) ∧ W.cell? ⟨b3, 2, none⟩ = some (.slice (some ⟨bl, 0, none⟩) 2 2)) from
    ⟨⟨(R16.out.below h).c0, (R16.out.below h).c1, (R16.out.below h).c2⟩, ⟨(X16.out.below h).c0, (X16.out.below h).c1, (X16.out.below h).c2⟩, ⟨(Y16.out.below h).c0, (Y16.out.below h).c1, (Y16.out.below h).c2⟩, ⟨(Z16.out.below h).c0, (Z16.out.below h).c1, (Z16.out.below h).c2⟩⟩))
  have HBc := Lib.hid (Below.refl w16.heap.size w16)
  go_region_held3 (fun W => (W.cell? ⟨br, 0, none⟩ = some (.int .i64 0) ∧ W.cell? ⟨br, 1, none⟩ = some (.string ⟨#[97]⟩) ∧ W.cell? ⟨br, 2, none⟩ = some (.slice A3 2 c3)) ∧ (W.cell? ⟨bx, 0, none⟩ = some (.int .i64 0) ∧ W.cell? ⟨bx, 1, none⟩ = some (.string ⟨#[97]⟩) ∧ W.cell? ⟨bx, 2, none⟩ = some (.slice (some ⟨bl, 0, none⟩) 2 2)) ∧ (W.cell? ⟨b2, 0, none⟩ = some (.int .i64 0) ∧ W.cell? ⟨b2, 1, none⟩ = some (.string ⟨#[98]⟩) ∧ W.cell? ⟨b2, 2, none⟩ = some (.slice (some ⟨bl, 0, none⟩) 2 2)) ∧ (W.cell? ⟨b3, 0, none⟩ = some (.int .i64 0) ∧ W.cell? ⟨b3, 1, none⟩ = some (.string ⟨#[99]⟩) ∧ W.cell? ⟨b3, 2, none⟩ = some (.slice (some ⟨bl, 0, none⟩) 2 2)))
    (first | (refine HSC.out _ ?_; repeat (first | exact HBc.out | refine Below.drew ?_ | refine Below.al ?_ _)))
    (first
      | (go_at_call 40; with_reducible refine (lkm3 _ ?_).mono ?_
         · refine T16.out.below ?_
           repeat (first | exact HBc.out | refine Below.drew ?_ | refine Below.al ?_ _)
         rintro e w' ⟨rfl, hb⟩
         first
           | have z78 := Lib.hid (z78.out.below (below_next (Below.refl _ _) hb ⟨rfl, rfl, rfl, rfl⟩))
           | have z78 := zR1 hb (R16.out.lns.below HBc.out)
           | have z78 := zR2 hb (R16.out.lns.below HBc.out)
           | skip
         have HBc := Lib.hid (below_via (w := w16) hb (by repeat (first | exact HBc.out | refine Below.drew ?_ | refine Below.al ?_ _)))
         clear hb)
      | (go_at_call 40; with_reducible refine (lp3 _ ?_).mono ?_
         · refine T16.out.below ?_
           repeat (first | exact HBc.out | refine Below.drew ?_ | refine Below.al ?_ _)
         rintro e w' ⟨rfl, hb⟩
         first
           | have z78 := Lib.hid (z78.out.below (below_next (Below.refl _ _) hb ⟨rfl, rfl, rfl, rfl⟩))
           | have z78 := zR1 hb (R16.out.lns.below HBc.out)
           | have z78 := zR2 hb (R16.out.lns.below HBc.out)
           | skip
         have HBc := Lib.hid (below_via (w := w16) hb (by repeat (first | exact HBc.out | refine Below.drew ?_ | refine Below.al ?_ _)))
         clear hb)
      | (go_at_call 39; with_reducible refine (made_at _ _ _ _ _).mono ?_; rintro e w' ⟨rfl, rfl⟩)
      | (go_at_call 17; with_reducible refine (Same_self A8 _ 2 c8 2 2 [enX, enY] _ ?_ ?_).mono ?_
         · refine E86.out.below ?_
           repeat (first | exact HBc.out | refine Below.drew ?_ | refine Below.al ?_ _)
         · refine ens2c ?_ ?_ ?_ ?_ ?_ ?_ (X16.out.lns.below ?_) (X16.out.lns.below ?_)
           all_goals first | (repeat (first | exact HBc.out | refine Below.drew ?_ | refine Below.al ?_ _)); done | go_simp
         rintro e w' ⟨rfl, hb⟩
         have HBc := Lib.hid (below_via (w := w16) hb (by repeat (first | exact HBc.out | refine Below.drew ?_ | refine Below.al ?_ _)))
         clear hb)
      | (go_at_call 17; with_reducible refine (Same_self A9 _ 1 c9 1 1 [enZ] _ ?_ ?_).mono ?_
         · refine E96.out.below ?_
           repeat (first | exact HBc.out | refine Below.drew ?_ | refine Below.al ?_ _)
         · refine ens1c ?_ ?_ ?_ (X16.out.lns.below ?_)
           all_goals first | (repeat (first | exact HBc.out | refine Below.drew ?_ | refine Below.al ?_ _)); done | go_simp
         rintro e w' ⟨rfl, hb⟩
         have HBc := Lib.hid (below_via (w := w16) hb (by repeat (first | exact HBc.out | refine Below.drew ?_ | refine Below.al ?_ _)))
         clear hb)
      | (go_at_call 17; with_reducible refine (Same_self _ _ 1 1 1 1 [(0, [97], [lnE, lnF])] _ ?_ ?_).mono ?_
         · first
             | refine z78.out.below ?_
               repeat (first | exact Below.refl _ _ | refine Below.drew ?_ | refine Below.al ?_ _)
             | refine ens1c ?_ ?_ ?_ (R16.out.lns.below ?_)
               all_goals first | (repeat (first | exact HBc.out | refine Below.drew ?_ | refine Below.al ?_ _)); done | go_simp
         · first
             | refine ens1c (A := some ⟨w'.heap.size, 0, none⟩) ?_ ?_ ?_ (lns_EFc ?_ ?_ ?_ ?_ ?_ ?_)
               all_goals (go_simp; done)
             | refine ens1c (A := some ⟨w'.heap.size + 1, 0, none⟩) ?_ ?_ ?_ (lns_EFc ?_ ?_ ?_ ?_ ?_ ?_)
               all_goals (go_simp; done)
         rintro e w' ⟨rfl, hb⟩
         have HBc := Lib.hid (below_via (w := w16) hb (by repeat (first | exact HBc.out | refine Below.drew ?_ | refine Below.al ?_ _)))
         clear hb))
  all_goals
    go_wp2_with fail
    exact HP.out _ (B6.out.trans (HBc.out.mono B6.out.size))
end Go.Proofs.YtdnomfekblmnbaaGreatDoor
