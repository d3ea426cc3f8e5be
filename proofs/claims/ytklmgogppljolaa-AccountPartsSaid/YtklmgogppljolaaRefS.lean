/- Slices of strings of the call's own; the contract of the reference's Segments. -/
import Derived.Test.YtklmgogppljolaaRefF
import Derived.OwnWalk
namespace Go.Proofs.Ytklmgogppljolaa
open Go.RowKit

def SVs (l : List (List UInt8)) : List Value := l.map fun x => Value.string ⟨x.toArray⟩
/-- v is a slice of strings of the call's own (from block B on), with the strings l. -/
def OwnS (B : Nat) (w : World) (v : Value) (l : List (List UInt8)) : Prop := w.ownsRow B 9 1 v l.length (SVs l)
theorem OwnS.fresh (w : World) : OwnS w.heap.size (w.alloc (.cells #[] 9)) (.slice (some ⟨w.heap.size, 0, none⟩) 0 0) [] :=
  ⟨by simp [SVs], .inr ⟨w.heap.size, 0, #[], rfl, Nat.le_refl _, heap_alloc_new w _, Nat.le_refl _, by unfold maxLen; omega, rfl, rfl⟩⟩
theorem op_append_strs {o : Oper} {a : Act} {K : Act → World → Prop} {Q : Exit → Act → World → Prop} (s x : Operand)
    (ho : o.op = .call { callee := .builtin .append, args := #[s, x], argTypes := #[55, 55] })
    (B : Nat) (v : Value) (ns : List (List UInt8)) (w : World) (zs : List (List UInt8)) (hs : a.eval s = v) (hown : OwnS B w v ns) (hx : a.eval x = .slice (some ⟨w.heap.size, 0, none⟩) zs.length zs.length)
    (hB : B ≤ w.heap.size) (hn : ns.length + zs.length ≤ 8796093022208)
    (h : ∀ v' w', OwnS B w' v' (ns ++ zs) → Below B w w' → K (a.put o.dst v') w') : o.wp Try.prog a (w.alloc (.cells ⟨SVs zs⟩ 9)) K Q := by
  obtain ⟨i0, hi, hz0, hz1, hz2⟩ := info_parts info9
  refine wp_append_own _ s x 55 ho B 9 i0 (.string ⟨#[]⟩) 1 16 Try.underlying55 hi hz0 hz1 hz2 rfl (by decide) v ns.length (SVs ns) hs (World.ownsRow.alloc hown _) ⟨w.heap.size, 0, none⟩ zs.length zs.length (SVs zs) hx (by simp [SVs]) ?_ ?_ ?_ ?_ ?_ ?_
  · intro j u hu
    have hadd : (⟨w.heap.size, 0, none⟩ : Addr).add j = ⟨w.heap.size, j, none⟩ := by unfold Addr.add; split <;> simp_all
    rw [hadd, cell_of_row _ _ _ _ _ _ (heap_alloc_new w _)]
    simpa using hu
  · intro u hu
    simp only [SVs, List.mem_map] at hu
    obtain ⟨z, _, rfl⟩ := hu
    rfl
  · simp only [maxLen]; omega
  · omega
  · simp; omega
  · intro v' w' h2 h3 _
    refine h v' w' ?_ ?_
    · unfold OwnS
      rw [List.length_append]
      simpa [SVs] using h2
    · have hlt := World.ownsRow.lt hown
      exact ((Below.refl B w).alloc hB _).grown h3 (by simp; omega) (fun k hk => (hlt k hk).1)
theorem wp_append_strs {ops : Array Oper} {rest : List Oper} {o : Oper} {a : Act} {Q : Exit → Act → World → Prop} (hgd : o.guard = none) (s x : Operand)
    (ho : o.op = .call { callee := .builtin .append, args := #[s, x], argTypes := #[55, 55] })
    (B : Nat) (v : Value) (ns : List (List UInt8)) (w : World) (zs : List (List UInt8)) (hs : a.eval s = v) (hown : OwnS B w v ns) (hx : a.eval x = .slice (some ⟨w.heap.size, 0, none⟩) zs.length zs.length)
    (hB : B ≤ w.heap.size) (hn : ns.length + zs.length ≤ 8796093022208)
    (h : ∀ v' w', OwnS B w' v' (ns ++ zs) → Below B w w' → wpList Try.prog ops Q rest (a.put o.dst v') w') : wpList Try.prog ops Q (o :: rest) a (w.alloc (.cells ⟨SVs zs⟩ 9)) :=
  wpList_plain hgd fun _ hK => op_append_strs s x ho B v ns w zs hs hown hx hB hn fun v' w' h2 h3 => hK _ _ (h v' w' h2 h3)
theorem OwnS.cells {B : Nat} {w : World} {v : Value} {l : List (List UInt8)} (h : OwnS B w v l) : ∃ A c, v = .slice A l.length c ∧ l.length ≤ c ∧ c ≤ 9223372036854775807 ∧ (0 < l.length → ∃ g, A = some ⟨g, 0, none⟩ ∧ g < w.heap.size ∧ ∀ k, k < l.length → w.cell? ⟨g, k, none⟩ = some (.string ⟨(l.getD k []).toArray⟩)) := by
  rcases h.2 with ⟨rfl, h0⟩ | ⟨g, cap, cur, rfl, _, hg, hc, hm, hsz, htake⟩
  · exact ⟨none, 0, by rw [h0], by omega, by omega, fun hh => by omega⟩
  · refine ⟨_, _, rfl, hc, by unfold maxLen at hm; omega, fun _ => ⟨g, rfl, ?_, fun k hk => ?_⟩⟩
    · rcases Nat.lt_or_ge g w.heap.size with h' | h'
      · exact h'
      · rw [Array.getElem?_eq_none h'] at hg; cases hg
    · rw [cell_of_row _ _ _ _ _ _ hg]
      have h1 : (cur.toList.take (l.length * 1))[k]? = (SVs l)[k]? := by rw [htake]
      rw [List.getElem?_take, if_pos (by omega)] at h1
      rw [← Array.getElem?_toList, h1]
      simp [SVs, hk]
theorem OwnS.below {B : Nat} {w w' : World} {v : Value} {l : List (List UInt8)} (h : OwnS B w v l) (hb : Below w.heap.size w w') : OwnS B w' v l := by
  rcases h.2 with ⟨rfl, h0⟩ | ⟨g, cap, cur, rfl, hB, hg, hr⟩
  · exact ⟨h.1, .inl ⟨rfl, h0⟩⟩
  · refine ⟨h.1, .inr ⟨g, cap, cur, rfl, hB, ?_, hr⟩⟩
    rw [hb.block]
    · exact hg
    · rcases Nat.lt_or_ge g w.heap.size with h' | h'
      · exact h'
      · rw [Array.getElem?_eq_none h'] at hg; cases hg
theorem ba_eta (b : ByteArray) : (⟨b.data.toList.toArray⟩ : ByteArray) = b := rfl
theorem ext_mid (s : List UInt8) (f k : Nat) : ((⟨s.toArray⟩ : ByteArray).extract f k).data.toList = (s.drop f).take (k - f) := by
  rw [ByteArray.data_extract]
  simp [List.extract_eq_take_drop]
def RetL (l : List (List UInt8)) (w : World) (e : Ending) (w' : World) : Prop := ∃ v, e = .returned v ∧ OwnS w.heap.size w' v l ∧ Below w.heap.size w w'
/-- what is cut so far -/
structure Cut (s : List UInt8) (o : List (List UInt8)) (f k : Nat) : Prop where
  le : f ≤ k
  num : o.length ≤ f
  all : segs s = o ++ segs (s.drop f)
  no : 46 ∉ (s.drop f).take (k - f)
theorem Cut.dot {s : List UInt8} {o : List (List UInt8)} {f k : Nat} (h : Cut s o f k) (hk : k < s.length) (hd : s[k] = 46) : Cut s (o ++ [(s.drop f).take (k - f)]) (k + 1) (k + 1) := by
  have hle := h.le
  refine ⟨Nat.le_refl _, by have := h.num; simp; omega, ?_, by simp⟩
  have e : s.drop f = (s.drop f).take (k - f) ++ 46 :: s.drop (k + 1) := by
    conv => lhs; rw [← List.take_append_drop (k - f) (s.drop f)]
    rw [List.drop_drop, show f + (k - f) = k by omega, List.drop_eq_getElem_cons hk, hd]
  rw [h.all]
  conv => lhs; rw [e]
  rw [segs_split h.no]
  simp
theorem Cut.go {s : List UInt8} {o : List (List UInt8)} {f k : Nat} (h : Cut s o f k) (hk : k < s.length) (hd : s[k] ≠ 46) : Cut s o f (k + 1) := by
  have hle := h.le
  refine ⟨by omega, h.num, h.all, ?_⟩
  rw [show k + 1 - f = (k - f) + 1 by omega, List.take_succ_eq_append_getElem (by simp; omega), List.mem_append]
  rintro (h' | h')
  · exact h.no h'
  · rw [List.mem_singleton, List.getElem_drop] at h'
    simp only [show f + (k - f) = k by omega] at h'
    exact hd h'.symm
theorem Cut.fin {s : List UInt8} {o : List (List UInt8)} {f k : Nat} (h : Cut s o f k) (hk : s.length ≤ k) : segs s = o ++ [s.drop f] := by
  have hno := h.no
  rw [List.take_of_length_le (by simp; omega)] at hno
  rw [h.all, segs_none hno]
set_option maxHeartbeats 1000000 in
set_option maxRecDepth 100000 in
theorem rSegs_any (s : List UInt8) (w : World) (hs : s.length ≤ 4294967296) : Calls Try.prog 37 #[.string ⟨s.toArray⟩] w (RetL (segs s) w) := by
  go_enter Try.func37, Try.ntmps37
  go_wp2_with fail
  go_loopw [3, 4, 5] (fun v g i wr => ∃ (k f : Nat) (o : List (List UInt8)), k ≤ s.length ∧ i = .int .i64 (k : Int) ∧ g = .int .i64 (f : Int) ∧ OwnS w.heap.size wr v o ∧ Hid (Cut s o f k) ∧ Below w.heap.size w wr) (fun _ _ i _ => s.length - (intOf i).toNat)
  case atStart => exact ⟨0, 0, [], by omega, rfl, rfl, OwnS.fresh w, ⟨Nat.le_refl _, Nat.le_refl _, rfl, by simp⟩, (Below.refl _ _).alloc (Nat.le_refl _) _⟩
  case round =>
    obtain ⟨k, f, o, hk, rfl, rfl, hown, hcut, hbw⟩ := hrel
    have hfk := hcut.out.le
    have hof := hcut.out.num
    by_cases hlt : k < s.length
    · by_cases hd : s[k] = 46
      · have q : (((⟨s.toArray⟩ : ByteArray)[k]'hlt).toNat == (46 : Int)) = true := by rw [ba_get, hd]; rfl
        have HC := Lib.hid (hcut.out.dot hlt hd)
        clear hd
        obtain ⟨X, hX⟩ : ∃ X : List UInt8, X = ((⟨s.toArray⟩ : ByteArray).extract f k).data.toList := ⟨_, rfl⟩
        have hx : (⟨s.toArray⟩ : ByteArray).extract f k = ⟨X.toArray⟩ := by rw [hX]
        rw [ext_mid] at hX
        rw [← hX] at HC
        clear hX hcut
        have b1 : (f : Int) ≤ (k : Int) := by omega
        have b2 : (k : Int) ≤ (s.length : Int) := by omega
        go_wp2_with (at_builtin; refine wp_append_strs rfl (.tmp 17) (.tmp 22) rfl w.heap.size _ o wr [X] rfl hown rfl hbw.size (by simp; omega) ?_; intro v' w5 hown' hbw'; clear hown hx q b1 b2)
        go_roundw
        case rel =>
          refine ⟨k + 1, k + 1, _, by omega, by go_num, by go_num, hown', ?_, hbw.trans hbw'⟩
          exact HC
        case measure => simp [intOf]; omega
      · have q : (((⟨s.toArray⟩ : ByteArray)[k]'hlt).toNat == (46 : Int)) = false := by
          rw [ba_get]
          exact beq_eq_false_iff_ne.2 (fun e => hd (UInt8.toNat_inj.1 (by rw [show (46 : UInt8).toNat = 46 from rfl]; omega)))
        have HC := Lib.hid (hcut.out.go hlt hd)
        clear hd
        go_wp2_with fail
        go_roundw
        case rel => exact ⟨k + 1, f, o, by omega, by go_num, rfl, hown, HC.out, hbw⟩
        case measure => simp [intOf]; omega
    · have HC := Lib.hid (hcut.out.fin (by omega))
      obtain ⟨X, hX⟩ : ∃ X : List UInt8, X = ((⟨s.toArray⟩ : ByteArray).extract f s.length).data.toList := ⟨_, rfl⟩
      have hx : (⟨s.toArray⟩ : ByteArray).extract f s.length = ⟨X.toArray⟩ := by rw [hX]
      rw [ext_mid, List.take_of_length_le (by simp)] at hX
      rw [← hX] at HC
      have b1 : (f : Int) ≤ (s.length : Int) := by omega
      clear hX hcut
      go_wp2_with (at_builtin; refine wp_append_strs rfl (.tmp 26) (.tmp 30) rfl w.heap.size _ o wr [X] rfl hown rfl hbw.size (by simp; omega) ?_; intro v' w5 hown' hbw'; clear hown hx b1)
      go_ret
      refine ⟨_, rfl, ?_, hbw.trans hbw'⟩
      rw [HC.out]
      exact hown'
end Go.Proofs.Ytklmgogppljolaa
