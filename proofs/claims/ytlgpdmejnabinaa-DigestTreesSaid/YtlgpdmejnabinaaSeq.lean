/- The iterator of digest.parts, and digest.parts. -/
import Derived.Test.YtlgpdmejnabinaaVisit
import Derived.Laws.EntriesVeiled
namespace Go.Proofs.Ytlgpdmejnabinaa
open Go.RowKit Go.Shelf
attribute [local go_sem] Oper.semAt_some

set_option maxRecDepth 100000 in
set_option maxHeartbeats 2000000 in
theorem seq_parts (n₀ Bo bb bn bl bfr bto at_ n c N d : Nat) (w₀ w : World) (bf : Bool) (A : Option Addr) (l : List ByteArray) (hw : w₀.heap.size = n₀) (hS : Strs w₀ A n c l) (hn : n ≤ 1000000) (hl : ∀ x ∈ l, x.size ≤ 1000000) (hat : at_ ≤ n)
    (hbb : Boxed w bb 4 (.bool bf)) (hbn : Boxed w bn 3 (.int .i64 (at_ : Int))) (hbl : Boxed w bl 27 (.slice A n c)) (hfr : Boxed w bfr 3 (.int .i64 0)) (hto : Boxed w bto 3 (.int .i64 (n : Int)))
    (hB : Below n₀ w₀ w) (hout : bb ≠ Bo ∧ bn ≠ Bo ∧ bl ≠ Bo) (hBo : Bo < w.heap.size) (hN : (visitB l at_ bf 0 n).length ≤ N) :
    SeqStopsK Fence.wide d Try.prog 61 #[.pointer (some ⟨bb, 0, none⟩), .pointer (some ⟨bn, 0, none⟩), .pointer (some ⟨bl, 0, none⟩), .pointer (some ⟨bfr, 0, none⟩), .pointer (some ⟨bto, 0, none⟩)]
      (fun x : ByteArray => #[.string x]) (Kp n₀ Bo) (fun xs => xs = visitB l at_ bf 0 n) (fun pre => pre <+: visitB l at_ bf 0 n) N w := by
  subst hw
  intro l0 J Jx W hW hJ hJx hY h0
  have hk : ∀ {B t v}, Boxed w B t v → Boxed W B t v := fun h => (hW.block _ h.lt).trans h
  have e1 := hk hbb
  have e2 := hk hbn
  have e3 := hk hbl
  have cfr := (((hk hfr).alloc (.cells #[.func (.yield l0) #[] #[]] 26)).alloc (.cells #[.func (.func 62) #[] #[.pointer (some ⟨bb, 0, none⟩), .pointer (some ⟨bn, 0, none⟩), .pointer (some ⟨W.heap.size, 0, none⟩), .pointer (some ⟨bl, 0, none⟩), .pointer (some ⟨W.heap.size + 1, 0, none⟩)]] 77)).cell
  have cto := (((hk hto).alloc (.cells #[.func (.yield l0) #[] #[]] 26)).alloc (.cells #[.func (.func 62) #[] #[.pointer (some ⟨bb, 0, none⟩), .pointer (some ⟨bn, 0, none⟩), .pointer (some ⟨W.heap.size, 0, none⟩), .pointer (some ⟨bl, 0, none⟩), .pointer (some ⟨W.heap.size + 1, 0, none⟩)]] 77)).cell
  have hBW : Below w₀.heap.size w₀ W := hB.trans (hW.mono hB.size)
  have hWs := hW.size
  have env : Env w₀.heap.size Bo l0 bb bn W.heap.size bl (W.heap.size + 1) w₀ bf at_ A n c ((W.alloc (.cells #[.func (.yield l0) #[] #[]] 26)).alloc (.cells #[.func (.func 62) #[] #[.pointer (some ⟨bb, 0, none⟩), .pointer (some ⟨bn, 0, none⟩), .pointer (some ⟨W.heap.size, 0, none⟩), .pointer (some ⟨bl, 0, none⟩), .pointer (some ⟨W.heap.size + 1, 0, none⟩)]] 77)) := by
    refine ⟨(e1.alloc _).alloc _, (e2.alloc _).alloc _, (Boxed.new W 26 _).alloc _, (e3.alloc _).alloc _, ?_, (hBW.alloc hBW.size _).alloc (by have := hBW.size; simp; omega) _, hout.1, hout.2.1, by omega, hout.2.2, by omega⟩
    have := Boxed.new (W.alloc (.cells #[.func (.yield l0) #[] #[]] 26)) 77 (.func (.func 62) #[] #[.pointer (some ⟨bb, 0, none⟩), .pointer (some ⟨bn, 0, none⟩), .pointer (some ⟨W.heap.size, 0, none⟩), .pointer (some ⟨bl, 0, none⟩), .pointer (some ⟨W.heap.size + 1, 0, none⟩)])
    rw [World.size_alloc] at this
    exact this
  have hV := Lib.hid (fun d' => visit_in l0 w₀.heap.size Bo bb bn W.heap.size bl (W.heap.size + 1) N at_ n c w₀ bf A l rfl hS hn hl hat W.heap.size J Jx hJ (fun m pre x W1 h1 h2 => yieldAny rfl m (hY pre x W1 h1 h2)) n 0 n d' [] _ (by omega) (Nat.le_refl _)
    (hJ _ _ _ none h0 ((World.grownBy_alloc W _ none).trans (World.grownBy_alloc _ _ none)) (fun r e => by cases e)) env (by simpa using hN))
  clear env e1 e2 e3 hk hY hfr hto
  refine callsIn_of_wp Try.func61 rfl trivial ?_ rfl
  simp only [Try.ntmps61, List.size_toArray, List.length_cons, List.length_nil, Nat.reduceAdd, Nat.reduceSub, Array.replicate_succ, Array.replicate_zero, List.push_toArray, List.append_toArray, List.nil_append, List.cons_append]
  gi_wp2
  refine ⟨trivial, fun h => (by cases h), ?_⟩
  refine (hV.out _).mono ?_
  rintro e W' (⟨rfl, hj, -⟩ | ⟨rfl, q, hq, hx⟩)
  · gi_wp2
    go_end0
    exact ⟨⟨_, rfl⟩, .inl ⟨_, rfl, hj⟩⟩
  · gi_wp2
    go_end0
    exact ⟨⟨_, rfl⟩, .inr ⟨q, hq, hx⟩⟩
end Go.Proofs.Ytlgpdmejnabinaa
