/- Clone, Reverse and SortFunc on slices of accounts of the call's own. -/
import Derived.Test.YtklmgogppljolaaShelfB
import Derived.Test.YtklmgogppljolaaOwnR
import Derived.Test.YtklmgogppljolaaOwnA
namespace Go.Proofs.Ytklmgogppljolaa
open Go.RowKit Go.Sort Go.Lib Go.Shelf

theorem enc_len (a : Acc) : (encA a).length = 2 := rfl
theorem enc_one (a : Acc) : ∀ v ∈ encA a, v.oneCell' = true := fun v hv => by
  simp only [encA, List.mem_cons, List.not_mem_nil, or_false] at hv
  rcases hv with rfl | rfl <;> rfl
noncomputable def accI : TypeInfo := (Try.prog.info? 26).get (by kernel_rfl)
theorem clone_any (A : Option Addr) (n c : Nat) (l : List Acc) (w : World) (h : Accs w A n c l) (h0 : 0 < n) (h1 : n ≤ 256) :
    Calls Try.prog 27 #[.slice A n c] w fun e w' => ∃ v', e = .returned v' ∧ OwnA w.heap.size w' v' l ∧ Below w.heap.size w w' := by
  obtain ⟨b, o, rfl, hbl, hcs⟩ := h.at_ (by have := h.cap; omega)
  have hl := h.len
  have hc := AnyE.slices_Clone Try.laysClone accI (.agg #[.string ⟨#[]⟩, .int .i64 0]) 2 24 (by kernel_rfl) (by kernel_rfl) (by kernel_rfl) (by kernel_rfl) rfl (by decide) Try.sizeOf26 b o n c (AVs l) w (by rw [avs_len, hl]) (by unfold maxLen; omega) (by omega) ?_ ?_
  · refine hc.mono fun e w' ⟨v', he, ho, _, hb⟩ => ⟨v', he, ?_, hb⟩
    unfold OwnA
    rw [hl]
    exact ho
  · intro j u hu
    have hj := (List.getElem?_eq_some_iff.1 hu).1
    rw [avs_len] at hj
    obtain ⟨a1, a2⟩ := avs_get l (j / 2) (by omega)
    obtain ⟨c1, c2⟩ := hcs (j / 2) (by omega)
    rcases Nat.mod_two_eq_zero_or_one j with hp | hp
    · have e : j / 2 * 2 = j := by omega
      rw [e] at a1 c1
      rw [c1, ← hu, a1]; rfl
    · have e : j / 2 * 2 + 1 = j := by omega
      rw [e] at a2
      rw [show o + j = o + j / 2 * 2 + 1 by omega, c2, ← hu, a2]; rfl
  · intro u hu
    simp only [AVs, List.mem_flatMap] at hu
    obtain ⟨z, _, hz⟩ := hu
    exact enc_one z u hz
theorem reverse_any (B : Nat) (v : Value) (l : List Acc) (w : World) (h : OwnA B w v l) (h0 : 0 < l.length) (h1 : l.length ≤ 256) :
    Calls Try.prog 28 #[v] w fun e w' => e = .returned (.tuple #[]) ∧ OwnA B w' v l.reverse ∧ Below B w w' := by
  obtain ⟨g, cap, rfl, hB, hg, hH⟩ := own_holds encA 2 enc_len h h0
  have hc := AnyQ.slices_Reverse Try.laysReverse 2 Try.isAgg26 Try.sizeOf26 encA enc_len enc_one g 0 cap l.toArray w hH (by simp; omega)
  refine Calls.mono (show Calls Try.prog 28 #[.slice (some ⟨g, 0, none⟩) l.length cap] w _ from hc) fun e w' ⟨he, n, hw⟩ => ?_
  obtain ⟨p1, p2⟩ := own_put encA 2 enc_len (n := n) (m := l.reverse) h (by simp) h0 #[]
  have e : grow (putRowK encA 2 (Sort.ahead w n) g 0 l.reverse.toArray) #[] = w' := by
    rw [hw]; simp [grow]
  rw [e] at p1 p2
  exact ⟨he, p1, p2⟩
def cmpA (x y : Acc) : Int := Lib.compareBytes x.1 y.1
set_option maxHeartbeats 1000000 in
theorem closure30 (x y : Acc) (W : World) : Calls Try.prog 30 #[.agg (encA x).toArray, .agg (encA y).toArray] W fun e w' => e = .returned (.int .i64 (cmpA x y)) ∧ ∃ q os', w' = grow (W.drewN q) os' := by
  have hcon := fun W' => Any.strings_Compare Try.lays106 ⟨x.1.toArray⟩ ⟨y.1.toArray⟩ W'
  change ∀ W', Calls Try.prog 31 _ _ _ at hcon
  unfold cmpA
  generalize Lib.compareBytes _ _ = r at hcon ⊢
  obtain ⟨x1, x2⟩ := x
  obtain ⟨y1, y2⟩ := y
  simp only [encA] at hcon ⊢
  go_enter Try.func30, Try.ntmps30
  go_wp2_with (go_at_call 31; refine (hcon _).mono ?_; rintro e w' ⟨rfl, rfl⟩)
  go_ret
  exact ⟨rfl, 0, _, by rw [alloc_eq_grow, alloc_eq_grow, grow_grow]; rfl⟩
theorem cmpLays30 (blk off size : Nat) (w : World) : CmpLays Try.prog 30 #[] encA 2 cmpA blk off size w :=
  fun _ _ _ _ x y => closure30 x y _
theorem cmp_lt : ∀ (a b : List UInt8), Lib.compareBytes a b < 0 ↔ a < b
  | [], [] => by simp [Lib.compareBytes]
  | [], _ :: _ => by simp [Lib.compareBytes]
  | _ :: _, [] => by simp [Lib.compareBytes]
  | a :: xs, b :: ys => by
    have ih := cmp_lt xs ys
    rw [Lib.compareBytes, List.cons_lt_cons_iff, ← ih]
    by_cases h1 : a < b
    · simp [h1]
    · by_cases h2 : b < a
      · rw [if_neg h1, if_pos h2]
        have : a ≠ b := fun e => by rw [e] at h2; exact absurd h2 (by simp)
        simp [h1, this]
      · rw [if_neg h1, if_neg h2]
        have : a = b := by
          have h3 := UInt8.not_lt.1 h1
          have h4 := UInt8.not_lt.1 h2
          exact UInt8.le_antisymm h4 h3
        simp [this]
theorem lt_cmp (x y : Acc) : ltOf cmpA x y = decide (x.1 < y.1) := by
  unfold ltOf cmpA
  exact decide_eq_decide.2 (cmp_lt _ _)
theorem swoA : SWO (ltOf cmpA) where
  irrefl x := by rw [lt_cmp]; simp
  trans x y z h1 h2 := by
    rw [lt_cmp] at *
    simp only [decide_eq_true_eq] at *
    exact List.lt_trans h1 h2
  ntrans x y z h1 h2 := by
    rw [lt_cmp] at *
    simp only [decide_eq_false_iff_not, List.not_lt] at *
    exact List.le_trans h2 h1
theorem sort_any (B : Nat) (v : Value) (l : List Acc) (w : World) (h : OwnA B w v l) (h0 : 0 < l.length) (h1 : l.length ≤ 1000) :
    Calls Try.prog 29 #[v, .func (.func 30) #[] #[]] w fun e w' => e = .returned (.tuple #[]) ∧ ∃ m : List Acc, OwnA B w' v m ∧ m.Perm l ∧ Below B w w' := by
  obtain ⟨g, cap, rfl, hB, hg, hH⟩ := own_holds encA 2 enc_len h h0
  have eg : ∀ args w, (callFunc 30 args).run Try.prog w = .ok (.enter 30 args) w := enters_of Try.func30 (by kernel_rfl) rfl
  have hc := AnyQ.slices_SortFunc Try.laysSort 2 Try.isAgg26 Try.sizeOf26 encA enc_len enc_one cmpA swoA 30 #[] g 0 cap l.toArray w eg (cmpLays30 g 0 _ w) hH hg (by simp; omega)
  refine Calls.mono (show Calls Try.prog 29 #[.slice (some ⟨g, 0, none⟩) l.length cap, .func (.func 30) #[] #[]] w _ from hc) fun e w' ⟨he, d, n, os, hp, _, hw⟩ => ?_
  have hs : d.toList.length = l.length := by simpa using hp.1
  obtain ⟨p1, p2⟩ := own_put encA 2 enc_len (n := n) (m := d.toList) h hs h0 os
  have e : grow (putRowK encA 2 (Sort.ahead w n) g 0 d.toList.toArray) os = w' := by
    rw [hw]; rfl
  rw [e] at p1 p2
  refine ⟨he, d.toList, p1, ?_, p2⟩
  have hq := hp.2.2
  have e1 : l.toArray.size = d.size := by simpa using hp.1.symm
  simpa [e1, List.take_of_length_le (show l.length ≤ d.size by rw [← e1]; simp)] using hq
theorem OwnA.mono {B B' : Nat} {w : World} {v : Value} {l : List Acc} (h : OwnA B w v l) (hb : B' ≤ B) : OwnA B' w v l := by
  rcases h.2 with ⟨rfl, h0⟩ | ⟨g, cap, cur, rfl, hB, hr⟩
  · exact ⟨h.1, .inl ⟨rfl, h0⟩⟩
  · exact ⟨h.1, .inr ⟨g, cap, cur, rfl, Nat.le_trans hb hB, hr⟩⟩
theorem OwnA.alloc {B : Nat} {w : World} {v : Value} {l : List Acc} (h : OwnA B w v l) (o : Obj) : OwnA B (w.alloc o) v l := World.ownsRow.alloc h o
theorem step_append_acc {ops : Array Oper} {o : Oper} {a : Act} {K : Act → World → Prop} {Q : Exit → Act → World → Prop} {E : Prop} (hgd : o.guard = none) (s x : Operand)
    (ho : o.op = .call { callee := .builtin .append, args := #[s, x], argTypes := #[22, 22] })
    (B : Nat) (v : Value) (ns : List Acc) (w : World) (g : Nat) (y : Acc) (hs : a.eval s = v) (hown : OwnA B w v ns) (hx : a.eval x = .slice (some ⟨g, 0, none⟩) 1 1)
    (c0 : w.cell? ⟨g, 0, none⟩ = some (.string ⟨y.1.toArray⟩)) (c1 : w.cell? ⟨g, 1, none⟩ = some (.int .i64 y.2))
    (hB : B ≤ w.heap.size) (hn : ns.length ≤ 1000000)
    (h : ∀ v' w', OwnA B w' v' (ns ++ [y]) → Below B w w' → K (a.put o.dst v') w') :
    if Region.wanted o (yielded ops a.tmps) = true then Oper.wp Try.prog o a w K Q else E := by
  have hw : Region.wanted o (yielded ops a.tmps) = true := by simp [Region.wanted, hgd]
  rw [if_pos hw]
  obtain ⟨i0, hi, hz0, hz1, hz2⟩ := info_parts info26
  refine wp_append_own _ s x 22 ho B 26 i0 (.agg #[.string ⟨#[]⟩, .int .i64 0]) 2 24 Try.underlying22 hi hz0 hz1 hz2 rfl (by decide) v ns.length (AVs ns) hs hown ⟨g, 0, none⟩ 1 1 (encA y) hx rfl ?_ (enc_one y) ?_ ?_ hB ?_
  · intro j u hu
    have hadd : (⟨g, 0, none⟩ : Addr).add j = ⟨g, j, none⟩ := by unfold Addr.add; split <;> simp_all
    rw [hadd]
    match j, hu with
    | 0, hu => rw [c0]; exact hu
    | 1, hu => rw [c1]; exact hu
  · simp only [maxLen]; omega
  · omega
  · intro v' w' h2 h3 _
    refine h v' w' ?_ ?_
    · unfold OwnA
      rw [List.length_append, avs_app]
      exact h2
    · have hlt := World.ownsRow.lt hown
      exact (Below.refl B w).grown h3 hB (fun k hk => (hlt k hk).1)
theorem wp_append_acc {ops : Array Oper} {rest : List Oper} {o : Oper} {a : Act} {Q : Exit → Act → World → Prop} (hgd : o.guard = none) (s x : Operand)
    (ho : o.op = .call { callee := .builtin .append, args := #[s, x], argTypes := #[22, 22] })
    (B : Nat) (v : Value) (ns : List Acc) (w : World) (y : Acc) (hs : a.eval s = v) (hown : OwnA B w v ns) (H : Nat) (hH : w.heap.size = H) (hx : a.eval x = .slice (some ⟨H, 0, none⟩) 1 1)
    (hB : B ≤ w.heap.size) (hn : ns.length ≤ 999999)
    (h : ∀ v' w', OwnA B w' v' (ns ++ [y]) → Below B w w' → wpList Try.prog ops Q rest (a.put o.dst v') w') :
    wpList Try.prog ops Q (o :: rest) a (w.alloc (.cells #[.string ⟨y.1.toArray⟩, .int .i64 y.2] 26)) :=
  wp_append_accs hgd s x ho B v ns w [y] hs hown (by rw [hH]; exact hx) hB (by simp; omega) h
theorem clone_B (B : Nat) (A : Option Addr) (n c : Nat) (l : List Acc) (w : World) (h : Accs w A n c l) (h0 : 0 < n) (h1 : n ≤ 256) (hB : B ≤ w.heap.size) :
    Calls Try.prog 27 #[.slice A n c] w fun e w' => ∃ v', e = .returned v' ∧ OwnA B w' v' l ∧ Below w.heap.size w w' :=
  (clone_any A n c l w h h0 h1).mono fun _ _ ⟨v, he, ho, hb⟩ => ⟨v, he, ho.mono hB, hb⟩
theorem step_append_acc1 {ops : Array Oper} {o : Oper} {a : Act} {K : Act → World → Prop} {Q : Exit → Act → World → Prop} {E : Prop} (hgd : o.guard = none) (s x : Operand)
    (ho : o.op = .call { callee := .builtin .append, args := #[s, x], argTypes := #[22, 22] })
    (B : Nat) (v : Value) (ns : List Acc) (w : World) (y : Acc) (hs : a.eval s = v) (hown : OwnA B w v ns) (hx : a.eval x = .slice (some ⟨w.heap.size, 0, none⟩) 1 1)
    (hB : B ≤ w.heap.size) (hn : ns.length ≤ 999999)
    (h : ∀ v' w', OwnA B w' v' (ns ++ [y]) → Below B w w' → K (a.put o.dst v') w') :
    if Region.wanted o (yielded ops a.tmps) = true then Oper.wp Try.prog o a (w.alloc (.cells #[.string ⟨y.1.toArray⟩, .int .i64 y.2] 26)) K Q else E := by
  have hw : Region.wanted o (yielded ops a.tmps) = true := by simp [Region.wanted, hgd]
  rw [if_pos hw]
  exact op_append_accs s x ho B v ns w [y] hs hown hx hB (by simp; omega) h
/-- Clone where two cells and an account are kept in sight. -/
theorem clone_S (B : Nat) (A : Option Addr) (n c : Nat) (l : List Acc) (w0 W : World) (hb0 : Below w0.heap.size w0 W) (h : Accs w0 A n c l) (h0 : 0 < n) (h1 : n ≤ 256) (hB : B ≤ w0.heap.size)
    (p1 p2 : Addr) (v1 v2 : Value) (hp1 : p1.block < w0.heap.size) (hp2 : p2.block < w0.heap.size) (c1 : w0.cell? p1 = some v1) (c2 : w0.cell? p2 = some v2) :
    Calls Try.prog 27 #[.slice A n c] W fun e w' => ∃ v', e = .returned v' ∧ OwnA B w' v' l ∧ Hid (Below W.heap.size W w') ∧ Hid (Below w0.heap.size w0 w') ∧ w'.cell? p1 = some v1 ∧ w'.cell? p2 = some v2 :=
  (clone_B B A n c l W (h.below hb0) h0 h1 (Nat.le_trans hB hb0.size)).mono fun _ w' ⟨v, he, ho, hb⟩ =>
    have hh : Below w0.heap.size w0 w' := hb0.trans (hb.mono hb0.size)
    ⟨v, he, ho, Lib.hid hb, Lib.hid hh, (hh.cell hp1).trans c1, (hh.cell hp2).trans c2⟩
end Go.Proofs.Ytklmgogppljolaa
