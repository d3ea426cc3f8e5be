/- digest.parts and digest.Grow. -/
import Derived.Test.YtlgpdmejnabinaaSeq
import Derived.Test.YtlgpdmejnabinaaChain
import Derived.Outline
namespace Go.Proofs.Ytlgpdmejnabinaa
open Go.RowKit Go.Shelf
attribute [local go_sem] Oper.semAt_some

def partsW (w : World) (A : Option Addr) (n c k : Nat) (bf : Bool) : World :=
  ((((w.alloc (.cells #[.slice A n c] 27)).alloc (.cells #[.int .i64 0] 3)).alloc (.cells #[.int .i64 (n : Int)] 3)).alloc (.cells #[.int .i64 (k : Int)] 3)).alloc (.cells #[.bool bf] 4)
def partsV (H : Nat) : Value := .func (.func 61) #[] #[.pointer (some ⟨H + 1 + 1 + 1 + 1, 0, none⟩), .pointer (some ⟨H + 1 + 1 + 1, 0, none⟩), .pointer (some ⟨H, 0, none⟩), .pointer (some ⟨H + 1, 0, none⟩), .pointer (some ⟨H + 1 + 1, 0, none⟩)]
set_option maxHeartbeats 1000000 in
theorem parts_any (A : Option Addr) (n c k : Nat) (bf : Bool) (w : World) :
    Calls Try.prog 48 #[.slice A n c, .int .i64 0, .int .i64 (n : Int), .int .i64 (k : Int), .bool bf] w fun e w' => e = .returned (partsV w.heap.size) ∧ w' = partsW w A n c k bf := by
  go_enter Try.func48, Try.ntmps48
  go_wp2_with fail
  go_ret
  exact ⟨rfl, rfl⟩
structure PartsW (w W : World) (A : Option Addr) (n c k : Nat) (bf : Bool) : Prop where
  size : W.heap.size = w.heap.size + 5
  below : Below w.heap.size w W
  l : Boxed W w.heap.size 27 (.slice A n c)
  fr : Boxed W (w.heap.size + 1) 3 (.int .i64 0)
  to_ : Boxed W (w.heap.size + 1 + 1) 3 (.int .i64 (n : Int))
  k : Boxed W (w.heap.size + 1 + 1 + 1) 3 (.int .i64 (k : Int))
  bf : Boxed W (w.heap.size + 1 + 1 + 1 + 1) 4 (.bool bf)
theorem partsW_is (w : World) (A : Option Addr) (n c k : Nat) (bf : Bool) : PartsW w (partsW w A n c k bf) A n c k bf := by
  unfold partsW
  refine ⟨by simp, ?_, ?_, ?_, ?_, ?_, ?_⟩
  · exact (((((Below.refl _ w).alloc (Nat.le_refl _) _).alloc (by simp) _).alloc (by simp; omega) _).alloc (by simp; omega) _).alloc (by simp; omega) _
  · exact ((((Boxed.new w 27 _).alloc _).alloc _).alloc _).alloc _
  · have := Boxed.new (w.alloc (.cells #[.slice A n c] 27)) 3 (.int .i64 0)
    simp only [World.size_alloc] at this
    exact ((this.alloc _).alloc _).alloc _
  · have := Boxed.new ((w.alloc (.cells #[.slice A n c] 27)).alloc (.cells #[.int .i64 0] 3)) 3 (.int .i64 (n : Int))
    simp only [World.size_alloc] at this
    exact (this.alloc _).alloc _
  · have := Boxed.new (((w.alloc (.cells #[.slice A n c] 27)).alloc (.cells #[.int .i64 0] 3)).alloc (.cells #[.int .i64 (n : Int)] 3)) 3 (.int .i64 (k : Int))
    simp only [World.size_alloc] at this
    exact this.alloc _
  · have := Boxed.new ((((w.alloc (.cells #[.slice A n c] 27)).alloc (.cells #[.int .i64 0] 3)).alloc (.cells #[.int .i64 (n : Int)] 3)).alloc (.cells #[.int .i64 (k : Int)] 3)) 4 (.bool bf)
    simp only [World.size_alloc] at this
    exact this
theorem kp_own {β : Type} {n₀ Bo : Nat} {w : World} (hn : n₀ ≤ w.heap.size) : OwnFrom w.heap.size (fun (_ : β) W => Kp n₀ Bo w W) :=
  fun _ X Y row hs hg hr => ⟨hs.1.grown hg (Nat.le_trans hn hs.1.size) (fun k e => Nat.le_trans hn (hr k e).1), fun k vs t h1 h2 h3 => by
    have h4 := hs.2 k vs t h1 h2 h3
    refine (hg.block k (Array.getElem?_eq_some_iff.1 h4).1 (fun e => ?_)).trans h4
    obtain ⟨_, o, ho, hc⟩ := hr k e.symm
    rw [h4] at ho
    cases ho
    cases hc⟩
theorem kp_app {n₀ Bo : Nat} {W w1 : World} {v v' : Value} {k : Nat} {xs : List Value} {tmp : Obj} (hrow : W.ownsRow n₀ 9 1 v k xs) (hgrow : (W.alloc tmp).grownBy w1 v.ownBlock) (hb : Below n₀ W (w1.setCell ⟨Bo, 0, none⟩ v')) : Kp n₀ Bo W (w1.setCell ⟨Bo, 0, none⟩ v') :=
  ⟨hb, fun i vs t h1 h2 h3 => by
    have hi := (Array.getElem?_eq_some_iff.1 h3).1
    have h4 : (W.alloc tmp).heap[i]? = some (.cells vs t (0, 0)) := ((World.grownBy_alloc W tmp none).block i hi (by simp)).trans h3
    have h5 : w1.heap[i]? = some (.cells vs t (0, 0)) := by
      refine (hgrow.block i (by simp; omega) (fun e => ?_)).trans h4
      rcases hrow.2 with ⟨rfl, _⟩ | ⟨g, cap, cur, rfl, _, hg, _⟩
      · cases e
      · cases e
        rw [hg] at h3
        cases h3
        exact h2 rfl
    exact ((grownBy_setCell' w1 Bo v').block i (Array.getElem?_eq_some_iff.1 h5).1 (fun e => h1 (by cases e; rfl))).trans h5⟩
theorem parts_at (A : Option Addr) (n c k : Nat) (bf : Bool) (w : World) (H : Nat) (hH : w.heap.size = H) :
    Calls Try.prog 48 #[.slice A n c, .int .i64 0, .int .i64 (n : Int), .int .i64 (k : Int), .bool bf] w fun e w' => e = .returned (partsV H) ∧ PartsW w w' A n c k bf := by
  subst hH
  exact (parts_any A n c k bf w).mono fun _ _ ⟨he, hw⟩ => ⟨he, hw ▸ partsW_is w A n c k bf⟩
theorem cells2 {W : World} {B : Nat} {a b : Value} {t : TypeId} (h : W.heap[B]? = some (.cells #[a, b] t (0, 0))) : W.cell? ⟨B, 0, none⟩ = some a ∧ W.cell? ⟨B, 1, none⟩ = some b := by
  constructor <;> simp [World.cell?, h]

set_option maxRecDepth 100000 in
set_option maxHeartbeats 8000000 in
theorem Grow_any (A : Option Addr) (n c k : Nat) (l : List ByteArray) (w : World) (hn : n ≤ 1024) (hk : k ≤ n) (h : Strs w A n c l) (hl : ∀ x ∈ l, x.size ≤ 1000000) (N : Nat) (hN1 : (visitB l k true 0 n).length ≤ N) (hN2 : (visitB l k false 0 n).length ≤ N) (hN : N ≤ 1000000) :
    Calls Try.prog 27 #[.slice A n c, .int .i64 (k : Int)] w fun e w' => ∃ v, e = .returned (.tuple #[v, .int .i64 0]) ∧ OwnS w.heap.size w' v (visitB l k true 0 n ++ visitB l k false 0 n) ∧ Below w.heap.size w w' := by
  obtain ⟨i0, hi, hz0, hz1, hz2⟩ := info_parts info9
  have HS := Lib.hid h
  have HL := Lib.hid hl
  clear h hl
  have d1 : decide (1024 < (n : Int)) = false := by simp; omega
  have d2 : decide ((k : Int) < 0) = false := by simp
  have d3 : decide (n < k) = false := by simpa using hk
  have bO : Boxed ((w.alloc (.cells #[.slice none 0 0] 27)).alloc (.cells #[.bool true, .bool false] 4)) w.heap.size 27 (.slice none 0 0) := (Boxed.new w 27 _).alloc _
  have bL : ((w.alloc (.cells #[.slice none 0 0] 27)).alloc (.cells #[.bool true, .bool false] 4)).heap[w.heap.size + 1]? = some (.cells #[.bool true, .bool false] 4 (0, 0)) := by
    have := World.alloc_heap_new (w.alloc (.cells #[.slice none 0 0] 27)) (.cells #[.bool true, .bool false] 4)
    rw [World.size_alloc] at this
    exact this
  have hB0 : Below w.heap.size w ((w.alloc (.cells #[.slice none 0 0] 27)).alloc (.cells #[.bool true, .bool false] 4)) := ((Below.refl _ w).alloc (Nat.le_refl _) _).alloc (by simp) _
  have hS0 : ((w.alloc (.cells #[.slice none 0 0] 27)).alloc (.cells #[.bool true, .bool false] 4)).heap.size = w.heap.size + 1 + 1 := by simp
  have BL := Lib.hid bL
  have HS0 := Lib.hid hS0
  clear bL hS0
  refine (callsIn_wide (n := 6)).1 ?_
  refine callsIn_of_wp_marks Try.func27 rfl trivial ?_ rfl
  simp only [Try.ntmps27, List.size_toArray, List.length_cons, List.length_nil, Nat.reduceAdd, Nat.reduceSub, Array.replicate_succ, Array.replicate_zero, List.push_toArray, List.append_toArray, List.nil_append, List.cons_append]
  gi_wp2
  refine wpIn_loop_rounds 3 ?_
  rw [roundsIn_succ]
  gi_wp2
  refine ⟨trivial, ?_⟩
  refine (callsIn_wide.2 (parts_at A n c k true _ (w.heap.size + 1 + 1) HS0.out)).mono ?_
  rintro e W1 ⟨rfl, hP1⟩
  generalize (w.alloc (.cells #[.slice none 0 0] 27)).alloc (.cells #[.bool true, .bool false] 4) = W0 at *
  gi_wp2
  have z1 := hP1.size
  have z0 := HS0.out
  have bb1 := hP1.bf
  have bn1 := hP1.k
  have bl1 := hP1.l
  have bfr1 := hP1.fr
  have bto1 := hP1.to_
  rw [z0] at bb1 bn1 bl1 bfr1 bto1 z1
  have bO1 : Boxed W1 w.heap.size 27 (.slice none 0 0) := (hP1.below.block _ bO.lt).trans bO
  have bL1 : W1.heap[w.heap.size + 1]? = some (.cells #[.bool true, .bool false] 4 (0, 0)) := (hP1.below.block _ (by omega)).trans BL.out
  have hB1 : Below w.heap.size w W1 := hB0.trans (hP1.below.mono (by omega))
  have BL1 := Lib.hid bL1
  have Z1 := Lib.hid z1
  have z1' : w.heap.size + 7 ≤ W1.heap.size := by omega
  clear bL1 BL z0 z1 HS0
  refine wpIn_rangeFunc_ownG (Kp := Kp w.heap.size w.heap.size) rfl (show 1 ≤ 6 by decide) (gf := 61) (lb := #[.pointer (some ⟨(w.heap.size + 1 + 1) + 1 + 1 + 1 + 1, 0, none⟩), .pointer (some ⟨(w.heap.size + 1 + 1) + 1 + 1 + 1, 0, none⟩), .pointer (some ⟨(w.heap.size + 1 + 1), 0, none⟩), .pointer (some ⟨(w.heap.size + 1 + 1) + 1, 0, none⟩), .pointer (some ⟨(w.heap.size + 1 + 1) + 1 + 1, 0, none⟩)]) rfl trivial (enters_of Try.func61 (by kernel_rfl) rfl)
    (seq_parts w.heap.size w.heap.size ((w.heap.size + 1 + 1) + 1 + 1 + 1 + 1) ((w.heap.size + 1 + 1) + 1 + 1 + 1) (w.heap.size + 1 + 1) ((w.heap.size + 1 + 1) + 1) ((w.heap.size + 1 + 1) + 1 + 1) k n c N 5 w W1 true A l rfl HS.out (by omega) HL.out hk bb1 bn1 bl1 bfr1 bto1 hB1 (by omega) (by omega) hN1)
    Kp.trans (Kp.put (w := W1) (by omega)) (Below.refl _ _) (fun _ => rfl)
    (fun pre W => (∃ v, Boxed W w.heap.size 27 v ∧ W.ownsRow w.heap.size 9 1 v pre.length (SVs pre) ∧ True) ∧ Kp w.heap.size w.heap.size W1 W ∧ KeepsFrom 0 W1 W)
    (fun _ _ _ => False)
    (OwnFrom.and (Own.from (holdsRow_own w.heap.size w.heap.size 27 9 1 (fun pre => pre.length) (fun pre => SVs pre) (fun _ _ => True)) _) (OwnFrom.and (kp_own (by omega)) (ownFrom_keepsFrom (Nat.le_refl _))))
    (fun _ _ _ _ _ hs _ _ => hs)
    ⟨⟨_, bO1, World.ownsRow_nil _ _ _ _, trivial⟩, Kp.refl _ _ _, KeepsFrom.refl _ _⟩
    ?a1 ?assign1 ?body1 ?done1 ?stop1
  case assign1 =>
    intro l' x W K hK
    gi_wp2
    exact hK
  case body1 =>
    rintro l' pre x W ⟨⟨v, hv, hrow, -⟩, hkp, hkf⟩ hlt
    have hc := hv.cell
    have hsz := hkp.1.size
    obtain ⟨L, hL2⟩ : ∃ L, pre.length = L := ⟨_, rfl⟩
    have hLN : L ≤ 1000000 := by rw [← hL2]; omega
    rw [hL2] at hrow
    have HL2 := Lib.hid hL2
    clear hL2
    gi_wp2_with (gi_at_builtin; refine wpListIn_append_own _ rfl _ _ 27 rfl w.heap.size 9 i0 (.string ⟨#[]⟩) 1 16 Try.underlying27 hi hz0 hz1 hz2 rfl (by decide) _ _ _ rfl (hrow.alloc _) ⟨W.heap.size, 0, none⟩ 1 1 [.string x] rfl rfl (cell_one_new _ _ _) (by simp [Value.oneCell']) (by unfold maxLen; omega) (by omega) (by simp; omega) ?_; intro v' w1 hown' hgrow _; obtain ⟨g', cap', rfl⟩ := ownsRow_succ hown'; obtain ⟨hv1, hv2, hr2, hk2, hb2⟩ := hv.appended (by decide) hrow (by omega) (Nat.le_refl _) hown' hgrow; have hc1 := hv1.cell; have hf1 := hv1.frozen)
    have hkq := kp_app hrow hgrow hb2
    refine ⟨hk2.from _, hkq, ⟨_, hv2, ?_, trivial⟩, hkp.trans hkq, hkf.trans (hk2.from _)⟩
    have e1 : (pre ++ [x]).length = L + 1 := by rw [← HL2.out]; simp [Nat.add_assoc]
    have e2 : SVs (pre ++ [x]) = SVs pre ++ [.string x] := by simp [SVs]
    rw [e1, e2]
    exact hr2
  case stop1 =>
    rintro D c pre W _ _ h _
    exact h.elim
  case done1 =>
    rintro D1 ys W2 hD1 rfl ⟨⟨v2, hv2, hrow2, -⟩, hkp2, hkf2⟩ hK1
    have z2 := hkp2.1.size
    have bL2 := hkp2.2 (w.heap.size + 1) _ 4 (by omega) (by decide) BL1.out
    obtain ⟨-, cL2⟩ := cells2 bL2
    have hB2 : Below w.heap.size w W2 := hB1.trans hkp2.1
    have HK1 := Lib.hid hK1
    have BL2 := Lib.hid bL2
    clear hK1 bL2
    gi_wp2
    rw [roundsIn_succ]
    gi_wp2
    refine ⟨trivial, ?_⟩
    refine (callsIn_wide.2 (parts_at A n c k false _ W2.heap.size rfl)).mono ?_
    rintro e W3 ⟨rfl, hP3⟩
    gi_wp2
    have z3 := hP3.size
    have bb2 := hP3.bf
    have bn2 := hP3.k
    have bl2 := hP3.l
    have bfr2 := hP3.fr
    have bto2 := hP3.to_
    have bO3 : Boxed W3 w.heap.size 27 v2 := (hP3.below.block _ hv2.lt).trans hv2
    have hB3 : Below w.heap.size w W3 := hB2.trans (hP3.below.mono (by omega))
    have hrow3 : W3.ownsRow w.heap.size 9 1 v2 (visitB l k true 0 n ++ []).length (SVs (visitB l k true 0 n ++ [])) := by
      rw [List.append_nil]; exact OwnS.below (l := visitB l k true 0 n) hrow2 hP3.below
    have HK3 := Lib.hid ((hP3.below.block _ (Array.getElem?_eq_some_iff.1 HK1.out).1).trans HK1.out)
    have Z3 := Lib.hid z3
    have z3' : W2.heap.size + 5 ≤ W3.heap.size := by omega
    clear z3
    refine wpIn_rangeFunc_ownG (Kp := Kp w.heap.size w.heap.size) rfl (show 1 ≤ 6 by decide) (gf := 61) (lb := #[.pointer (some ⟨W2.heap.size + 1 + 1 + 1 + 1, 0, none⟩), .pointer (some ⟨W2.heap.size + 1 + 1 + 1, 0, none⟩), .pointer (some ⟨W2.heap.size, 0, none⟩), .pointer (some ⟨W2.heap.size + 1, 0, none⟩), .pointer (some ⟨W2.heap.size + 1 + 1, 0, none⟩)]) rfl trivial (enters_of Try.func61 (by kernel_rfl) rfl)
      (seq_parts w.heap.size w.heap.size (W2.heap.size + 1 + 1 + 1 + 1) (W2.heap.size + 1 + 1 + 1) W2.heap.size (W2.heap.size + 1) (W2.heap.size + 1 + 1) k n c N 5 w W3 false A l rfl HS.out (by omega) HL.out hk bb2 bn2 bl2 bfr2 bto2 hB3 (by omega) (by omega) hN2)
      Kp.trans (Kp.put (w := W3) (by omega)) (Below.refl _ _) (fun _ => rfl)
      (fun pre W => (∃ v, Boxed W w.heap.size 27 v ∧ W.ownsRow w.heap.size 9 1 v (visitB l k true 0 n ++ pre).length (SVs (visitB l k true 0 n ++ pre)) ∧ True) ∧ Kp w.heap.size w.heap.size W3 W ∧ KeepsFrom 0 W3 W)
      (fun _ _ _ => False)
      (OwnFrom.and (Own.from (holdsRow_own w.heap.size w.heap.size 27 9 1 (fun pre => (visitB l k true 0 n ++ pre).length) (fun pre => SVs (visitB l k true 0 n ++ pre)) (fun _ _ => True)) _) (OwnFrom.and (kp_own (by omega)) (ownFrom_keepsFrom (Nat.le_refl _))))
      (fun _ _ _ _ _ hs _ _ => hs)
      ⟨⟨_, bO3, hrow3, trivial⟩, Kp.refl _ _ _, KeepsFrom.refl _ _⟩
      ?a2 ?assign2 ?body2 ?done2 ?stop2
    case assign2 =>
      intro l' x W K hK
      gi_wp2
      exact hK
    case body2 =>
      rintro l' pre x W ⟨⟨v, hv, hrow, -⟩, hkp, hkf⟩ hlt
      have hc := hv.cell
      have hsz := hkp.1.size
      obtain ⟨L, hL2⟩ : ∃ L, (visitB l k true 0 n ++ pre).length = L := ⟨_, rfl⟩
      have hLN : L ≤ 2000000 := by rw [← hL2, List.length_append]; omega
      rw [hL2] at hrow
      have HL2 := Lib.hid hL2
      clear hL2
      gi_wp2_with (gi_at_builtin; refine wpListIn_append_own _ rfl _ _ 27 rfl w.heap.size 9 i0 (.string ⟨#[]⟩) 1 16 Try.underlying27 hi hz0 hz1 hz2 rfl (by decide) _ _ _ rfl (hrow.alloc _) ⟨W.heap.size, 0, none⟩ 1 1 [.string x] rfl rfl (cell_one_new _ _ _) (by simp [Value.oneCell']) (by unfold maxLen; omega) (by omega) (by simp; omega) ?_; intro v' w1 hown' hgrow _; obtain ⟨g', cap', rfl⟩ := ownsRow_succ hown'; obtain ⟨hv1, hv2, hr2, hk2, hb2⟩ := hv.appended (by decide) hrow (by omega) (Nat.le_refl _) hown' hgrow; have hc1 := hv1.cell; have hf1 := hv1.frozen)
      have hkq := kp_app hrow hgrow hb2
      refine ⟨hk2.from _, hkq, ⟨_, hv2, ?_, trivial⟩, hkp.trans hkq, hkf.trans (hk2.from _)⟩
      have e1 : (visitB l k true 0 n ++ (pre ++ [x])).length = L + 1 := by rw [← HL2.out]; simp [Nat.add_assoc]
      have e2 : SVs (visitB l k true 0 n ++ (pre ++ [x])) = SVs (visitB l k true 0 n ++ pre) ++ [.string x] := by simp [SVs]
      rw [e1, e2]
      exact hr2
    case stop2 =>
      rintro D c pre W _ _ h _
      exact h.elim
    case done2 =>
      rintro D2 ys W4 hD2 rfl ⟨⟨v4, hv4, hrow4, -⟩, hkp4, hkf4⟩ hK2
      have hc4 := hv4.cell
      have hB4 : Below w.heap.size w W4 := hB3.trans hkp4.1
      have hK1 := hkf4.same D1 _ (Nat.zero_le _) HK3.out rfl
      have hne : D1 ≠ D2 := by have := (Array.getElem?_eq_some_iff.1 HK3.out).1; omega
      have HQ := Lib.hid (And.intro hK1 hK2)
      clear hK1 hK2
      gi_wp2
      rw [roundsIn_succ]
      gi_wp2
      refine ⟨by simp, .inl ⟨_, _, rfl, run_takeDeferred HQ.out.2, ?_⟩⟩
      have hK1' : (W4.putObj D2 (.deferred none)).heap[D1]? = some (.deferred (some [])) := (World.putObj_heap_other hne).trans HQ.out.1
      refine ⟨by simp, .inl ⟨_, _, rfl, run_takeDeferred hK1', ?_⟩⟩
      refine ⟨.tuple #[v4, .int .i64 0], by simp [results, Try.results27, go_sem], v4, rfl, ?_, ?_⟩
      · exact ownsRow_putObj (ownsRow_putObj hrow4 _ HQ.out.2 rfl) _ hK1' rfl
      · refine (hB4.trans (belowK_b (w := w) (Nat.le_refl _) W4 D2 _ _ (by omega) HQ.out.2 rfl rfl)).trans (belowK_b (w := w) (Nat.le_refl _) _ D1 _ _ (by omega) hK1' rfl rfl)
end Go.Proofs.Ytlgpdmejnabinaa
