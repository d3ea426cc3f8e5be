/- Slices of strings of the call's own; contract of digest.Chain. -/
import Derived.Test.YtlgpdmejnabinaaGreat
namespace Go.Proofs.Ytlgpdmejnabinaa
open Go.RowKit

def SVs (l : List ByteArray) : List Value := l.map Value.string
/-- v is a slice of strings of the call's own (from block B on), with the strings l. -/
def OwnS (B : Nat) (w : World) (v : Value) (l : List ByteArray) : Prop := w.ownsRow B 9 1 v l.length (SVs l)
theorem info9 : (Try.prog.info? 9).map (fun i => (i.zero, i.size, i.bytes)) = some (some (.string ⟨#[]⟩), 1, 16) := by kernel_rfl
theorem OwnS.nil (B : Nat) (w : World) : OwnS B w (.slice none 0 0) [] := ⟨by simp [SVs], .inl ⟨rfl, rfl⟩⟩

theorem op_append_strs {o : Oper} {a : Act} {K : Act → World → Prop} {Q : Exit → Act → World → Prop} (s x : Operand)
    (ho : o.op = .call { callee := .builtin .append, args := #[s, x], argTypes := #[27, 27] })
    (B : Nat) (v : Value) (ns : List ByteArray) (w : World) (zs : List ByteArray) (hs : a.eval s = v) (hown : OwnS B w v ns) (hx : a.eval x = .slice (some ⟨w.heap.size, 0, none⟩) zs.length zs.length)
    (hB : B ≤ w.heap.size) (hn : ns.length + zs.length ≤ 8796093022208)
    (h : ∀ v' w', OwnS B w' v' (ns ++ zs) → Below B w w' → K (a.put o.dst v') w') : o.wp Try.prog a (w.alloc (.cells ⟨SVs zs⟩ 9)) K Q := by
  obtain ⟨i0, hi, hz0, hz1, hz2⟩ := info_parts info9
  refine wp_append_own _ s x 27 ho B 9 i0 (.string ⟨#[]⟩) 1 16 Try.underlying27 hi hz0 hz1 hz2 rfl (by decide) v ns.length (SVs ns) hs (World.ownsRow.alloc hown _) ⟨w.heap.size, 0, none⟩ zs.length zs.length (SVs zs) hx (by simp [SVs]) ?_ ?_ ?_ ?_ ?_ ?_
  · intro j u hu
    have hadd : (⟨w.heap.size, 0, none⟩ : Addr).add j = ⟨w.heap.size, j, none⟩ := by unfold Addr.add; split <;> simp_all
    rw [hadd, cell_of_row _ _ _ _ _ _ (heap_alloc_new w _)]
    simpa using hu
  · intro u hu
    simp only [SVs, List.mem_map] at hu
    obtain ⟨z, _, rfl⟩ := hu
    rfl
  · simp only [maxLen]; omega
  · omega
  · simp; omega
  · intro v' w' h2 h3 _
    refine h v' w' ?_ ?_
    · unfold OwnS
      rw [List.length_append]
      simpa [SVs] using h2
    · have hlt := World.ownsRow.lt hown
      exact ((Below.refl B w).alloc hB _).grown h3 (by simp; omega) (fun k hk => (hlt k hk).1)
theorem wp_append_strs {ops : Array Oper} {rest : List Oper} {o : Oper} {a : Act} {Q : Exit → Act → World → Prop} (hgd : o.guard = none) (s x : Operand)
    (ho : o.op = .call { callee := .builtin .append, args := #[s, x], argTypes := #[27, 27] })
    (B : Nat) (v : Value) (ns : List ByteArray) (w : World) (zs : List ByteArray) (hs : a.eval s = v) (hown : OwnS B w v ns) (hx : a.eval x = .slice (some ⟨w.heap.size, 0, none⟩) zs.length zs.length)
    (hB : B ≤ w.heap.size) (hn : ns.length + zs.length ≤ 8796093022208)
    (h : ∀ v' w', OwnS B w' v' (ns ++ zs) → Below B w w' → wpList Try.prog ops Q rest (a.put o.dst v') w') : wpList Try.prog ops Q (o :: rest) a (w.alloc (.cells ⟨SVs zs⟩ 9)) :=
  wpList_plain hgd fun _ hK => op_append_strs s x ho B v ns w zs hs hown hx hB hn fun v' w' h2 h3 => hK _ _ (h v' w' h2 h3)
theorem OwnS.strs {B : Nat} {w : World} {v : Value} {l : List ByteArray} (h : OwnS B w v l) : ∃ A c, v = .slice A l.length c ∧ Strs w A l.length c l := by
  rcases h.2 with ⟨rfl, h0⟩ | ⟨g, cap, cur, rfl, _, hg, hc, hm, hsz, htake⟩
  · exact ⟨none, 0, by rw [h0], rfl, by omega, by omega, fun hh => by omega⟩
  · refine ⟨_, _, rfl, rfl, hc, by unfold maxLen at hm; omega, fun _ => ⟨g, 0, rfl, ?_, fun k hk => ?_⟩⟩
    · rcases Nat.lt_or_ge g w.heap.size with h' | h'
      · exact h'
      · rw [Array.getElem?_eq_none h'] at hg; cases hg
    · rw [Nat.zero_add, cell_of_row _ _ _ _ _ _ hg]
      have h1 : (cur.toList.take (l.length * 1))[k]? = (SVs l)[k]? := by rw [htake]
      rw [List.getElem?_take, if_pos (by omega)] at h1
      rw [← Array.getElem?_toList, h1]
      simp [SVs, hk]
theorem OwnS.below {B : Nat} {w w' : World} {v : Value} {l : List ByteArray} (h : OwnS B w v l) (hb : Below w.heap.size w w') : OwnS B w' v l := by
  rcases h.2 with ⟨rfl, h0⟩ | ⟨g, cap, cur, rfl, hB, hg, hr⟩
  · exact ⟨h.1, .inl ⟨rfl, h0⟩⟩
  · refine ⟨h.1, .inr ⟨g, cap, cur, rfl, hB, ?_, hr⟩⟩
    rw [hb.block]
    · exact hg
    · rcases Nat.lt_or_ge g w.heap.size with h' | h'
      · exact h'
      · rw [Array.getElem?_eq_none h'] at hg; cases hg

/-- the digest of a string -/
def dig (s : ByteArray) : ByteArray := ⟨(sha s.data.toList).toArray⟩
theorem dig_size (s : ByteArray) : (dig s).size = 32 := by
  show ((sha s.data.toList).toArray).size = 32
  simp [sha, outOf_len]
theorem sum_dig (s : ByteArray) (w : World) (hs : s.size ≤ 140737488351232) :
    Calls Try.prog 14 #[.string s] w fun e w' => e = .returned (.string (dig s)) ∧ Below w.heap.size w w' := sum_any s w hs
/-- the chain after k strings: the last digest, and all -/
def chainTo (s : ByteArray) (l : List ByteArray) : Nat → ByteArray × List ByteArray
  | 0 => (s, [])
  | k + 1 => (dig ((chainTo s l k).1 ++ l.getD k ByteArray.empty), (chainTo s l k).2 ++ [dig ((chainTo s l k).1 ++ l.getD k ByteArray.empty)])
theorem chainTo_len (s : ByteArray) (l : List ByteArray) (k : Nat) : (chainTo s l k).2.length = k := by
  induction k with
  | zero => rfl
  | succ n ih => simp [chainTo, ih]
theorem chainTo_size (s : ByteArray) (l : List ByteArray) (k : Nat) (hs : s.size ≤ 1000000) : (chainTo s l k).1.size ≤ 1000000 := by
  cases k with
  | zero => exact hs
  | succ n => simp [chainTo, dig_size]
def chainL (s : ByteArray) (l : List ByteArray) : List ByteArray := (chainTo s l l.length).2
/-- a list of strings and a code -/
def RetS (l : List ByteArray) (code : Int) (w : World) (e : Ending) (w' : World) : Prop := ∃ v, e = .returned (.tuple #[v, .int .i64 code]) ∧ OwnS w.heap.size w' v l ∧ Below w.heap.size w w'
theorem append_size (a b : ByteArray) : (a ++ b).size = a.size + b.size := by simp
set_option maxHeartbeats 1000000 in
set_option maxRecDepth 100000 in
theorem chain_any (s : ByteArray) (A : Option Addr) (n c : Nat) (l : List ByteArray) (w : World) (h : Strs w A n c l) (hs : s.size ≤ 1000000) (hl : ∀ x ∈ l, x.size ≤ 1000000) (hn : n ≤ 10000) :
    Calls Try.prog 17 #[.string s, .slice A n c] w (RetS (chainL s l) 0 w) := by
  have hlen := Lib.hid h.len
  have HL := Lib.hid hl
  clear hl
  have hd : decide (10000 < (n : Int)) = false := by simp; omega
  go_enter Try.func17, Try.ntmps17
  go_wp2_with fail
  go_loopw [0, 6, 14] (fun t v i wr => ∃ (k : Nat) (q : ByteArray) (O : List ByteArray), k ≤ n ∧ i = .int .i64 (k : Int) ∧ t = .string q ∧ Hid (chainTo s l k = (q, O)) ∧ OwnS w.heap.size wr v O ∧ Below w.heap.size w wr) (fun _ _ i _ => n - (intOf i).toNat)
  case atStart => exact ⟨0, s, [], by omega, rfl, rfl, rfl, OwnS.nil _ _, Below.refl _ _⟩
  case round =>
    obtain ⟨k, q, O, hk, rfl, rfl, HQ, hown, hbw⟩ := hrel
    by_cases hlt : k < n
    · obtain ⟨b, o, rfl, hb, hcell⟩ := (h.below hbw).at_ (by omega)
      have hc := hcell k hlt
      have hki : (k : Int) < (n : Int) := by omega
      have hdk : decide ((k : Int) < (n : Int)) = true := by simp; omega
      have hsz := HL.out _ (getD_mem l k (by rw [hlen.out]; omega))
      have hqs : q.size ≤ 1000000 := by have := chainTo_size s l k hs; rw [HQ.out] at this; exact this
      have hOl : O.length ≤ 10000 := by have := chainTo_len s l k; rw [HQ.out] at this; simp at this; omega
      generalize hx : l.getD k ByteArray.empty = x at *
      have HX := Lib.hid hx
      clear hx hcell
      go_wp2_with fail
      refine (sum_dig (q ++ x) _ (by rw [append_size]; omega)).mono ?_
      rintro e w1 ⟨rfl, hb1⟩
      have hown1 := hown.below hb1
      have hbw1 : Below w.heap.size w w1 := hbw.trans (hb1.mono hbw.size)
      clear hown hb1
      go_wp2_with (at_builtin; go_must (refine wp_append_strs rfl (.tmp 22) (.tmp 24) rfl w.heap.size _ O w1 [dig (q ++ x)] rfl hown1 rfl hbw1.size (by simp; omega) ?_); intro v' w5 hown' hbw')
      go_roundw
      case rel =>
        refine ⟨k + 1, _, _, by omega, by go_num, rfl, ?_, hown', hbw1.trans hbw'⟩
        show chainTo s l (k + 1) = _
        rw [chainTo, HQ.out, HX.out]
      case measure => simp [intOf]; omega
    · go_wp2_with fail
      go_ret2
      refine ⟨_, rfl, ?_, hbw⟩
      have : chainL s l = O := by
        rw [chainL, hlen.out, show n = k by omega, HQ.out]
      rw [this]
      exact hown
theorem chain_many (s : ByteArray) (A : Option Addr) (n c : Nat) (w : World) (hn : 10000 < n) (hm : n ≤ 9223372036854775807) :
    Calls Try.prog 17 #[.string s, .slice A n c] w (RetS [] 4 w) := by
  have hd : decide (10000 < (n : Int)) = true := by simp; omega
  go_enter Try.func17, Try.ntmps17
  go_wp2_with fail
  go_ret2
  exact ⟨_, rfl, OwnS.nil _ _, Below.refl _ _⟩
end Go.Proofs.Ytlgpdmejnabinaa
