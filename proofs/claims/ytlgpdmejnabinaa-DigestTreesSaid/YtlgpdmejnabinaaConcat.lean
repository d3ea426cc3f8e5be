/- Contracts of slices.Grow and slices.Concat of two slices of strings. -/
import Derived.Test.YtlgpdmejnabinaaChain
import Derived.Lib.AppendZeros
namespace Go.Proofs.Ytlgpdmejnabinaa
open Go.RowKit

def RetOwn (l : List ByteArray) (w : World) (e : Ending) (w' : World) : Prop := ∃ v, e = .returned v ∧ OwnS w.heap.size w' v l ∧ Below w.heap.size w w'
theorem grow_none (w : World) : Calls Try.prog 47 #[.slice none 0 0, .int .i64 0] w (RetOwn [] w) := by
  go_enter Try.func47, Try.ntmps47
  go_wp2
  go_ret
  exact ⟨_, rfl, OwnS.nil _ _, Below.refl _ _⟩
theorem grow_any (n : Nat) (w : World) (h0 : 0 < n) (hn : n ≤ 1000000) : Calls Try.prog 47 #[.slice none 0 0, .int .i64 (n : Int)] w (RetOwn [] w) := by
  obtain ⟨i0, hi, hz0, hz1, hz2⟩ := info_parts info9
  have hr := fun ty => Lib.run_append_nil_zeros (P := Try.prog) w 27 3 ty 9 i0 (.string ⟨#[]⟩) .i64 .i64 Try.underlying27 Try.underlying3 hi hz0 n h0 (by omega) (by omega) (by rw [hz2]; omega)
  have hge := grownCap_ge w n 0 9
  have hmx := grownCap_le_maxLen w n 0 9 (by unfold maxLen; omega)
  have hsz : (Builtin.zeroCells (Value.string ⟨#[]⟩).cells n ++ Builtin.zeroCells (Value.string ⟨#[]⟩).cells (grownCap w n 0 9 - n)).size = grownCap w n 0 9 := by
    simp [Builtin.zeroCells, Value.cells]; omega
  generalize grownCap w n 0 9 = cap at *
  generalize Builtin.zeroCells (Value.string ⟨#[]⟩).cells n ++ Builtin.zeroCells (Value.string ⟨#[]⟩).cells (cap - n) = cs at *
  have HR := Lib.hid hr
  have HS := Lib.hid hsz
  clear hr hsz
  have hc0 : (0 : Int) ≤ (cap : Int) := by omega
  go_enter Try.func47, Try.ntmps47
  go_wp2_with (at_builtin; go_must (refine Lib.wpList_append_run w rfl (.tmp 20) (.tmp 21) 27 3 rfl _ _ rfl rfl _ _ (HR.out _) ?_))
  go_ret
  refine ⟨_, rfl, ⟨by simp [SVs], .inr ⟨w.heap.size, cap, cs, rfl, Nat.le_refl _, ?_, by simp, hmx, by rw [HS.out]; omega, by simp [SVs]⟩⟩, ?_⟩
  · exact heap_alloc_new _ _
  · exact (Below.refl _ _).drew.alloc (Nat.le_refl _) _
theorem run_append_nothing (w : World) (B : Nat) (ty : TypeId) (v : Value) (n : Nat) (xs : List Value) (hown : w.ownsRow B 9 1 v n xs) (c : Nat) : (Builtin.append_ #[27, 27] ty #[v, .slice none 0 c]).run Try.prog w = .ok v w := by
  obtain ⟨i0, hi, hz0, hz1, hz2⟩ := info_parts info9
  rcases hown.2 with ⟨rfl, rfl⟩ | ⟨g, cap, cur, rfl, _, _, hnc, _⟩
  · simp [Builtin.append_, run_underlying Try.underlying27, sizeOf, typeInfo, hi, Builtin.lenOf, Builtin.firstCells]
  · simp [Builtin.append_, run_underlying Try.underlying27, sizeOf, typeInfo, hi, Builtin.lenOf, Builtin.firstCells, hnc, storeCells]
/-- append of a slice of strings, whatever it is -/
theorem op_append_from {o : Oper} {a : Act} {K : Act → World → Prop} {Q : Exit → Act → World → Prop} (s x : Operand)
    (ho : o.op = .call { callee := .builtin .append, args := #[s, x], argTypes := #[27, 27] })
    (B : Nat) (v : Value) (ns : List ByteArray) (w : World) (A : Option Addr) (m c : Nat) (zs : List ByteArray) (hs : a.eval s = v) (hown : OwnS B w v ns) (hx : a.eval x = .slice A m c) (hz : Strs w A m c zs)
    (hB : B ≤ w.heap.size) (hn : ns.length + m ≤ 8796093022208)
    (h : ∀ v' w', OwnS B w' v' (ns ++ zs) → Below B w w' → K (a.put o.dst v') w') : o.wp Try.prog a w K Q := by
  obtain ⟨i0, hi, hz0, hz1, hz2⟩ := info_parts info9
  rcases A with _ | ad
  · have hm : m = 0 := by
      rcases Nat.eq_zero_or_pos m with h0 | h0
      · exact h0
      · obtain ⟨b, o, e, _⟩ := hz.at_ h0
        cases e
    subst hm
    have : zs = [] := List.eq_nil_of_length_eq_zero hz.len
    subst this
    refine Lib.wp_append_run w s x 27 27 ho _ _ hs hx v w (run_append_nothing w B o.type v _ _ hown c) ?_
    exact h v w (by simpa using hown) (Below.refl _ _)
  · refine wp_append_own _ s x 27 ho B 9 i0 (.string ⟨#[]⟩) 1 16 Try.underlying27 hi hz0 hz1 hz2 rfl (by decide) v ns.length (SVs ns) hs hown ad m c (SVs zs) hx (by simp [SVs, hz.len]) ?_ ?_ ?_ ?_ hB ?_
    · intro j u hu
      have hj : j < zs.length := by
        rcases Nat.lt_or_ge j zs.length with h' | h'
        · exact h'
        · rw [List.getElem?_eq_none (by simpa [SVs] using h')] at hu; cases hu
      obtain ⟨b, off, e, _, hc⟩ := hz.at_ (by rw [← hz.len]; omega)
      cases e
      have hadd : (⟨b, off, none⟩ : Addr).add j = ⟨b, off + j, none⟩ := by unfold Addr.add; split <;> simp_all
      rw [hadd, hc j (by rw [← hz.len]; exact hj), ← hu]
      simp [SVs, hj]
    · intro u hu
      simp only [SVs, List.mem_map] at hu
      obtain ⟨z, _, rfl⟩ := hu
      rfl
    · simp only [maxLen]; omega
    · omega
    · intro v' w' h2 h3 _
      refine h v' w' ?_ ?_
      · unfold OwnS
        rw [List.length_append, hz.len]
        simpa [SVs] using h2
      · have hlt := World.ownsRow.lt hown
        exact (Below.refl B w).grown h3 hB (fun k hk => (hlt k hk).1)
theorem wp_append_from {ops : Array Oper} {rest : List Oper} {o : Oper} {a : Act} {Q : Exit → Act → World → Prop} (hgd : o.guard = none) (s x : Operand)
    (ho : o.op = .call { callee := .builtin .append, args := #[s, x], argTypes := #[27, 27] })
    (B : Nat) (v : Value) (ns : List ByteArray) (w : World) (A : Option Addr) (m c : Nat) (zs : List ByteArray) (hs : a.eval s = v) (hown : OwnS B w v ns) (hx : a.eval x = .slice A m c) (hz : Strs w A m c zs)
    (hB : B ≤ w.heap.size) (hn : ns.length + m ≤ 8796093022208)
    (h : ∀ v' w', OwnS B w' v' (ns ++ zs) → Below B w w' → wpList Try.prog ops Q rest (a.put o.dst v') w') : wpList Try.prog ops Q (o :: rest) a w :=
  wpList_plain hgd fun _ hK => op_append_from s x ho B v ns w A m c zs hs hown hx hz hB hn fun v' w' h2 h3 => hK _ _ (h v' w' h2 h3)
def szTo (n m : Nat) : Nat → Nat | 0 => 0 | 1 => n | _ => n + m
def catTo (l r : List ByteArray) : Nat → List ByteArray | 0 => [] | 1 => l | _ => l ++ r
theorem two_at {w : World} {g : Nat} {A B : Option Addr} {n c m d : Nat} {l r : List ByteArray} (c0 : w.cell? ⟨g, 0, none⟩ = some (.slice A n c)) (c1 : w.cell? ⟨g, 1, none⟩ = some (.slice B m d)) (h : Strs w A n c l) (k : Strs w B m d r) (j : Nat) (hj : j < 2) (hn : n ≤ 100000) (hm : m ≤ 100000) :
    ∃ (C : Option Addr) (q e : Nat) (z : List ByteArray), w.cell? ⟨g, j, none⟩ = some (.slice C q e) ∧ Strs w C q e z ∧ q ≤ 100000 ∧ szTo n m (j + 1) = szTo n m j + q ∧ catTo l r (j + 1) = catTo l r j ++ z := by
  rcases j with _ | _ | j
  · exact ⟨A, n, c, l, c0, h, hn, by simp [szTo], by simp [catTo]⟩
  · exact ⟨B, m, d, r, c1, k, hm, rfl, rfl⟩
  · omega
theorem catTo_len {w : World} {A B : Option Addr} {n c m d : Nat} {l r : List ByteArray} (h : Strs w A n c l) (k : Strs w B m d r) (j : Nat) : (catTo l r j).length = szTo n m j := by
  rcases j with _ | _ | j
  · rfl
  · exact h.len
  · simp [catTo, szTo, h.len, k.len]
theorem szTo_le (n m j : Nat) (hn : n ≤ 100000) (hm : m ≤ 100000) : szTo n m j ≤ 200000 := by
  rcases j with _ | _ | j
  · exact Nat.zero_le _
  · show n ≤ _; omega
  · show n + m ≤ _; omega
set_option maxHeartbeats 1000000 in
set_option maxRecDepth 100000 in
theorem concat_any (g : Nat) (A B : Option Addr) (n c m d : Nat) (l r : List ByteArray) (w : World) (hgl : g < w.heap.size) (c0 : w.cell? ⟨g, 0, none⟩ = some (.slice A n c)) (c1 : w.cell? ⟨g, 1, none⟩ = some (.slice B m d)) (h : Strs w A n c l) (k : Strs w B m d r) (hn : n ≤ 100000) (hm : m ≤ 100000) :
    Calls Try.prog 26 #[.slice (some ⟨g, 0, none⟩) 2 2] w (RetOwn (l ++ r) w) := by
  have C0 := Lib.hid c0
  have C1 := Lib.hid c1
  clear c0 c1
  go_enter Try.func26, Try.ntmps26
  go_wp2_with fail
  go_loop [3, 11] (fun t i => ∃ (j u : Nat), j ≤ 2 ∧ i = .int .i64 (j : Int) ∧ t = .int .i64 (u : Int) ∧ Hid (u = szTo n m j) ∧ u ≤ 200000) (fun _ i => 2 - (intOf i).toNat)
  case atStart => exact ⟨0, 0, by omega, rfl, rfl, rfl, by omega⟩
  case round =>
    obtain ⟨j, u, hj, rfl, rfl, HU, hu⟩ := hrel
    by_cases hlt : j < 2
    · obtain ⟨C, q, e, z, hcell, hs, hq, hsz, _⟩ := two_at C0.out C1.out h k j hlt hn hm
      have hji : (j : Int) < 2 := by omega
      have HZ := Lib.hid hsz
      have hd : decide ((u : Int) + (q : Int) < 0) = false := by simp; omega
      clear hsz hs
      go_wp2_with fail
      go_round
      case rel =>
        refine ⟨j + 1, u + q, by omega, by go_num, by go_num, ?_, ?_⟩
        · show _ = _
          rw [HZ.out, HU.out]
        · have := szTo_le n m (j + 1) hn hm
          rw [HZ.out, ← HU.out] at this
          exact this
      case measure => simp [intOf]; omega
    · have hd : decide ((j : Int) < 2) = false := by simp; omega
      have h2 : j = 2 := by omega
      have hu2 : u = n + m := by rw [HU.out, h2]; rfl
      have hgrow : Calls Try.prog 47 #[.slice none 0 0, .int .i64 (u : Int)] w (RetOwn [] w) := by
        rcases Nat.eq_zero_or_pos u with h0 | h0
        · subst h0; exact grow_none w
        · exact grow_any u w h0 (by omega)
      have HG := Lib.hid hgrow
      clear hgrow h2 hu2
      go_wp2_with fail
      refine HG.out.mono ?_
      rintro e w1 ⟨v1, rfl, ho1, hb1⟩
      go_wp2_with fail
      go_loopw [6, 27] (fun v i wr => ∃ (j : Nat), j ≤ 2 ∧ i = .int .i64 (j : Int) ∧ OwnS w.heap.size wr v (catTo l r j) ∧ Below w.heap.size w wr) (fun _ i _ => 2 - (intOf i).toNat)
      case atStart => exact ⟨0, by omega, rfl, ho1, hb1⟩
      case round =>
        obtain ⟨j2, hj2, rfl, hown, hbw⟩ := hrel
        by_cases hlt2 : j2 < 2
        · obtain ⟨C, q, e, z, hcell, hs, hq, _, hcat⟩ := two_at (w := wr) (by rw [hbw.cell (by simpa using hgl)]; exact C0.out) (by rw [hbw.cell (by simpa using hgl)]; exact C1.out) (h.below hbw) (k.below hbw) j2 hlt2 hn hm
          have hji : (j2 : Int) < 2 := by omega
          have hd2 : decide ((j2 : Int) < 2) = true := by simp; omega
          have hcl := catTo_len h k j2
          have hsl := szTo_le n m j2 hn hm
          have HC := Lib.hid (And.intro hcat hcl)
          clear hcat hcl
          go_wp2_with (at_builtin; go_must (refine wp_append_from rfl (.tmp 31) (.tmp 32) rfl w.heap.size _ (catTo l r j2) wr C q e z rfl hown rfl hs hbw.size (by rw [HC.out.2]; omega) ?_); intro v' w5 hown' hbw')
          go_roundw
          case rel => exact ⟨j2 + 1, by omega, by go_num, by rw [HC.out.1]; exact hown', hbw.trans hbw'⟩
          case measure => simp [intOf]; omega
        · go_wp2_with fail
          go_ret
          refine ⟨_, rfl, ?_, hbw⟩
          obtain rfl : j2 = 2 := by omega
          exact hown
end Go.Proofs.Ytlgpdmejnabinaa
