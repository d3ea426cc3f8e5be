/- Contracts of digest.path, Path. -/
import Derived.Test.YtlgpdmejnabinaaRoot
import Derived.Test.YtlgpdmejnabinaaConcat
namespace Go.Proofs.Ytlgpdmejnabinaa
open Go.RowKit

def pathF : Nat → List ByteArray → Nat → List ByteArray
  | 0, _, _ => []
  | f + 1, l, i => if l.length ≤ 1 then [] else if i < cutN l.length then pathF f (l.take (cutN l.length)) i ++ [rootB (l.drop (cutN l.length))] else pathF f (l.drop (cutN l.length)) (i - cutN l.length) ++ [rootB (l.take (cutN l.length))]
def pathB (l : List ByteArray) (i : Nat) : List ByteArray := pathF (l.length + 1) l i
theorem pathF_more (f g : Nat) (l : List ByteArray) (i : Nat) (hf : l.length < f) (hg : l.length < g) : pathF f l i = pathF g l i := by
  induction f generalizing g l i with
  | zero => omega
  | succ f ih =>
    cases g with
    | zero => omega
    | succ g =>
      rw [pathF, pathF]
      split
      · rfl
      · have h2 : 2 ≤ l.length := by omega
        have a := cutN_pos l.length h2
        have b := cutN_lt l.length h2
        rw [ih g (l.take (cutN l.length)) i (by simp; omega) (by simp; omega), ih g (l.drop (cutN l.length)) (i - cutN l.length) (by simp; omega) (by simp; omega)]
theorem pathB_one (l : List ByteArray) (i : Nat) (h : l.length ≤ 1) : pathB l i = [] := by rw [pathB, pathF, if_pos h]
theorem pathB_left (l : List ByteArray) (i : Nat) (h : 2 ≤ l.length) (hi : i < cutN l.length) : pathB l i = pathB (l.take (cutN l.length)) i ++ [rootB (l.drop (cutN l.length))] := by
  have a := cutN_pos l.length h
  have b := cutN_lt l.length h
  rw [pathB, pathF, if_neg (by omega), if_pos hi, pathB, pathF_more l.length ((l.take (cutN l.length)).length + 1) _ _ (by simp; omega) (by omega)]
theorem pathB_right (l : List ByteArray) (i : Nat) (h : 2 ≤ l.length) (hi : ¬ i < cutN l.length) : pathB l i = pathB (l.drop (cutN l.length)) (i - cutN l.length) ++ [rootB (l.take (cutN l.length))] := by
  have a := cutN_pos l.length h
  have b := cutN_lt l.length h
  rw [pathB, pathF, if_neg (by omega), if_neg hi, pathB, pathF_more l.length ((l.drop (cutN l.length)).length + 1) _ _ (by simp; omega) (by omega)]
theorem pathF_len (f : Nat) (l : List ByteArray) (i : Nat) : (pathF f l i).length ≤ l.length := by
  induction f generalizing l i with
  | zero => simp [pathF]
  | succ f ih =>
    rw [pathF]
    split
    · simp
    · have h2 : 2 ≤ l.length := by omega
      have a := cutN_pos l.length h2
      have b := cutN_lt l.length h2
      split
      · have := ih (l.take (cutN l.length)) i
        simp at this ⊢; omega
      · have := ih (l.drop (cutN l.length)) (i - cutN l.length)
        simp at this ⊢; omega
theorem pathB_len (l : List ByteArray) (i : Nat) : (pathB l i).length ≤ l.length := pathF_len _ _ _
theorem pathF_size (f : Nat) (l : List ByteArray) (i : Nat) : ∀ x ∈ pathF f l i, x.size ≤ 32 := by
  induction f generalizing l i with
  | zero => simp [pathF]
  | succ f ih =>
    rw [pathF]
    split
    · simp
    · split
      · intro x hx
        rcases List.mem_append.1 hx with hx | hx
        · exact ih _ _ x hx
        · simp at hx; subst hx; rw [rootB_size]; omega
      · intro x hx
        rcases List.mem_append.1 hx with hx | hx
        · exact ih _ _ x hx
        · simp at hx; subst hx; rw [rootB_size]; omega
theorem pathB_size (l : List ByteArray) (i : Nat) : ∀ x ∈ pathB l i, x.size ≤ 32 := pathF_size _ _ _
theorem Strs.drew {w : World} {A : Option Addr} {n c : Nat} {l : List ByteArray} (h : Strs w A n c l) : Strs w.drew A n c l := ⟨h.len, h.cap, h.top, h.at_⟩
theorem below_undrew {w w' : World} (h : Below w.drew.heap.size w.drew w') : Below w.heap.size w w' := ⟨h.os, h.tape, h.output, h.size, h.block⟩
theorem step_append_strs {ops : Array Oper} {o : Oper} {a : Act} {K : Act → World → Prop} {Q : Exit → Act → World → Prop} {E : Prop} (hgd : o.guard = none) (s x : Operand)
    (ho : o.op = .call { callee := .builtin .append, args := #[s, x], argTypes := #[27, 27] })
    (B : Nat) (v : Value) (ns : List ByteArray) (w : World) (zs : List ByteArray) (hs : a.eval s = v) (hown : OwnS B w v ns) (hx : a.eval x = .slice (some ⟨w.heap.size, 0, none⟩) zs.length zs.length)
    (hB : B ≤ w.heap.size) (hn : ns.length + zs.length ≤ 8796093022208)
    (h : ∀ v' w', OwnS B w' v' (ns ++ zs) → Below B w w' → K (a.put o.dst v') w') :
    if Region.wanted o (yielded ops a.tmps) = true then Oper.wp Try.prog o a (w.alloc (.cells ⟨SVs zs⟩ 9)) K Q else E := by
  have hw : Region.wanted o (yielded ops a.tmps) = true := by simp [Region.wanted, hgd]
  rw [if_pos hw]
  exact op_append_strs s x ho B v ns w zs hs hown hx hB hn h
set_option maxHeartbeats 2000000 in
set_option maxRecDepth 100000 in
theorem path_any (m : Nat) : ∀ (A : Option Addr) (n c : Nat) (l : List ByteArray) (i : Nat) (w : World), n ≤ m → i < n → n ≤ 1000000 → Strs w A n c l → (∀ x ∈ l, x.size ≤ 1000000) →
    Calls Try.prog 49 #[.slice A n c, .int .i64 (i : Int)] w (RetOwn (pathB l i) w) := by
  induction m with
  | zero => intro A n c l i w hm hi; omega
  | succ m ih =>
    intro A n c l i w hm hi hn h hl
    have IH := Lib.hid ih
    have HL := Lib.hid hl
    have hlen := Lib.hid h.len
    clear ih hl
    by_cases h1 : n = 1
    · subst h1
      go_enter Try.func49, Try.ntmps49
      go_wp2_with fail
      go_ret
      exact ⟨_, rfl, by rw [pathB_one l i (by rw [hlen.out]; omega)]; exact OwnS.nil _ _, Below.refl _ _⟩
    · have h2 : 2 ≤ n := by omega
      have hd1 : ((n : Int) == 1) = false := beq_eq_false_iff_ne.2 (by omega)
      obtain ⟨b, o, rfl, hb, hcell⟩ := h.at_ (by omega)
      clear hcell h1
      have hk1 := cutN_pos n h2
      have hk2 := cutN_lt n h2
      go_enter Try.func49, Try.ntmps49
      go_wp2_with fail
      refine (cut_any n _ hn).mono ?_
      rintro e w1 ⟨rfl, rfl⟩
      have hcap := h.cap
      obtain ⟨k, hk⟩ : ∃ k, k = cutN n := ⟨_, rfl⟩
      rw [← hk] at hk1 hk2 ⊢
      have HK := Lib.hid hk
      clear hk
      have b1 : (k : Int) ≤ (c : Int) := by omega
      have b2 : (k : Int) ≤ (n : Int) := by omega
      have hne : c ≠ k := by omega
      have t1 := h.take k (by omega)
      have t2 := h.drop k (by omega)
      have z1 : ∀ x ∈ l.take k, x.size ≤ 1000000 := fun x hx => HL.out x (List.mem_of_mem_take hx)
      have z2 : ∀ x ∈ l.drop k, x.size ≤ 1000000 := fun x hx => HL.out x (List.mem_of_mem_drop hx)
      have T := Lib.hid (And.intro t1 (And.intro t2 (And.intro z1 z2)))
      clear t1 t2 z1 z2
      have lt1 : (l.take k).length = k := by rw [List.length_take, hlen.out]; omega
      have lt2 : (l.drop k).length = n - k := by rw [List.length_drop, hlen.out]
      by_cases hik : i < k
      · have hdk : decide ((i : Int) < (k : Int)) = true := by simp; omega
        have hpl : (pathB (l.take k) i).length ≤ 1000000 := Nat.le_trans (pathB_len _ _) (by omega)
        have HPL := Lib.hid hpl
        clear hpl lt1 lt2
        go_wp2_with fail
        go_region_law (first
          | (refine step_append_strs rfl (.tmp 19) (.tmp 24) rfl w1.heap.size _ (pathB (l.take k) i) w3 [rootB (l.drop k)] rfl ho3 rfl hb3.size (by have := HPL.out; simp; omega) ?_; intro v4 w4 ho4 hb4)
          | (go_simp; go_at_call 49; refine (IH.out _ k c (l.take k) i _ (by omega) (by omega) (by omega) (Strs.drew T.out.1) T.out.2.2.1).mono ?_; rintro e w2 ⟨v2, rfl, ho2, hb2'⟩; have hb2 := below_undrew hb2')
          | (go_simp; go_at_call 44; refine (root_any (n - k) _ (n - k) (c - k) (l.drop k) _ (Nat.le_refl _) (by omega) (T.out.2.1.below hb2) T.out.2.2.2).mono ?_; rintro e w3 ⟨rfl, hb3'⟩; have ho3 := ho2.below hb3'; have hb3 : Below w1.heap.size w1 w3 := hb2.trans (hb3'.mono hb2.size)))
        all_goals go_wp2_with fail
        all_goals
          go_ret
          refine ⟨_, rfl, ?_, hb3.trans hb4⟩
          rw [pathB_left l i (by rw [hlen.out]; omega) (by rw [hlen.out, ← HK.out]; omega), hlen.out, ← HK.out]
          exact ho4
      · have hdk : decide ((i : Int) < (k : Int)) = false := by simp; omega
        have hpl : (pathB (l.drop k) (i - k)).length ≤ 1000000 := Nat.le_trans (pathB_len _ _) (by omega)
        have HPL := Lib.hid hpl
        have hwi : IntKind.i64.wrap ((i : Int) - (k : Int)) = ((i - k : Nat) : Int) := by rw [IntWalk.i64_in _ (by omega)]; omega
        clear hpl lt1 lt2
        go_wp2_with fail
        go_region_law (first
          | (refine step_append_strs rfl (.tmp 32) (.tmp 37) rfl w1.heap.size _ (pathB (l.drop k) (i - k)) w3 [rootB (l.take k)] rfl ho3 rfl hb3.size (by have := HPL.out; simp; omega) ?_; intro v4 w4 ho4 hb4)
          | (go_simp; go_at_call 49; refine (IH.out _ (n - k) (c - k) (l.drop k) (i - k) _ (by omega) (by omega) (by omega) (Strs.drew T.out.2.1) T.out.2.2.2).mono ?_; rintro e w2 ⟨v2, rfl, ho2, hb2'⟩; have hb2 := below_undrew hb2')
          | (go_simp; go_at_call 44; refine (root_any k _ k c (l.take k) _ (Nat.le_refl _) (by omega) (T.out.1.below hb2) T.out.2.2.1).mono ?_; rintro e w3 ⟨rfl, hb3'⟩; have ho3 := ho2.below hb3'; have hb3 : Below w1.heap.size w1 w3 := hb2.trans (hb3'.mono hb2.size)))
        all_goals go_wp2_with fail
        all_goals
          go_ret
          refine ⟨_, rfl, ?_, hb3.trans hb4⟩
          rw [pathB_right l i (by rw [hlen.out]; omega) (by rw [hlen.out, ← HK.out]; omega), hlen.out, ← HK.out]
          exact ho4
theorem Path_any (A : Option Addr) (n c : Nat) (l : List ByteArray) (i : Nat) (w : World) (hi : i < n) (hn : n ≤ 1024) (h : Strs w A n c l) (hl : ∀ x ∈ l, x.size ≤ 1000000) :
    Calls Try.prog 30 #[.slice A n c, .int .i64 (i : Int)] w (RetS (pathB l i) 0 w) := by
  have hd : decide (1024 < (n : Int)) = false := by simp; omega
  have hd1 : decide ((i : Int) < 0) = false := by simp
  have hd2 : decide ((n : Int) ≤ (i : Int)) = false := by simp; omega
  go_enter Try.func30, Try.ntmps30
  go_wp2_with fail
  refine (path_any n A n c l i w (Nat.le_refl _) hi (by omega) h hl).mono ?_
  rintro e w1 ⟨v, rfl, ho, hb⟩
  go_wp2_with fail
  go_ret2
  exact ⟨_, rfl, ho, hb⟩
theorem Path_big (A : Option Addr) (n c : Nat) (i : Int) (w : World) (hn : 1024 < n) (hm : n ≤ 9223372036854775807) :
    Calls Try.prog 30 #[.slice A n c, .int .i64 i] w (RetS [] 4 w) := by
  have hd : decide (1024 < (n : Int)) = true := by simp; omega
  go_enter Try.func30, Try.ntmps30
  go_wp2_with fail
  go_ret2
  exact ⟨_, rfl, OwnS.nil _ _, Below.refl _ _⟩
theorem Path_neg (A : Option Addr) (n c : Nat) (i : Int) (w : World) (hn : n ≤ 1024) (hi : i < 0) :
    Calls Try.prog 30 #[.slice A n c, .int .i64 i] w (RetS [] 2 w) := by
  have hd : decide (1024 < (n : Int)) = false := by simp; omega
  have hd1 : decide (i < 0) = true := by simpa using hi
  go_enter Try.func30, Try.ntmps30
  go_wp2_with fail
  go_ret2
  exact ⟨_, rfl, OwnS.nil _ _, Below.refl _ _⟩
theorem Path_out (A : Option Addr) (n c : Nat) (i : Int) (w : World) (hn : n ≤ 1024) (hi : 0 ≤ i) (hin : (n : Int) ≤ i) :
    Calls Try.prog 30 #[.slice A n c, .int .i64 i] w (RetS [] 2 w) := by
  have hd : decide (1024 < (n : Int)) = false := by simp; omega
  have hd1 : decide (i < 0) = false := by simp; omega
  have hd2 : decide ((n : Int) ≤ i) = true := by simpa using hin
  go_enter Try.func30, Try.ntmps30
  go_wp2_with fail
  go_ret2
  exact ⟨_, rfl, OwnS.nil _ _, Below.refl _ _⟩
end Go.Proofs.Ytlgpdmejnabinaa
