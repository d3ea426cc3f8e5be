/- What Grow returns, plain. -/
import Derived.Test.YtlgpdmejnabinaaVisit
namespace Go.Proofs.Ytlgpdmejnabinaa
open Go.RowKit

def seg (l : List ByteArray) (a b : Nat) : List ByteArray := (l.drop a).take (b - a)
theorem seg_len {l : List ByteArray} {a b : Nat} (h : b ≤ l.length) : (seg l a b).length = b - a := by
  unfold seg; rw [List.length_take, List.length_drop]; omega
theorem seg_all (l : List ByteArray) : seg l 0 l.length = l := by simp [seg]
theorem seg_take (l : List ByteArray) (k : Nat) : seg l 0 k = l.take k := by simp [seg]
theorem root_seg {l : List ByteArray} {a b m : Nat} (hb : b ≤ l.length) (h2 : 2 ≤ b - a) (hm : m = a + cutN (b - a)) : rootB (seg l a b) = nodeB (rootB (seg l a m)) (rootB (seg l m b)) := by
  have k1 := cutN_pos _ h2
  have k2 := cutN_lt _ h2
  rw [rootB_two _ (by rw [seg_len hb]; exact h2), seg_len hb]
  have e1 : (seg l a b).take (cutN (b - a)) = seg l a m := by
    unfold seg; rw [List.take_take, Nat.min_eq_left (by omega)]; congr 1; omega
  have e2 : (seg l a b).drop (cutN (b - a)) = seg l m b := by
    unfold seg; rw [List.drop_take, List.drop_drop, hm]; congr 1; omega
  rw [e1, e2]
theorem v_low {l : List ByteArray} {k a b : Nat} (hab : a < b) (h : b ≤ k) : visitB l k true a b = [rootB (seg l a b)] ∧ visitB l k false a b = [] :=
  ⟨visitB_whole (by simp; omega) (.inl ⟨rfl, h⟩), visitB_none (.inr (.inr ⟨rfl, h⟩))⟩
theorem v_high {l : List ByteArray} {k a b : Nat} (hab : a < b) (h : k ≤ a) : visitB l k true a b = [] ∧ visitB l k false a b = [rootB (seg l a b)] :=
  ⟨visitB_none (.inr (.inl ⟨rfl, h⟩)), visitB_whole (by simp; omega) (.inr ⟨rfl, h⟩)⟩
theorem v_mid {l : List ByteArray} {k a b : Nat} (bf : Bool) (h1 : a < k) (h2 : k < b) : 2 ≤ b - a ∧ visitB l k bf a b = visitB l k bf a (a + cutN (b - a)) ++ visitB l k bf (a + cutN (b - a)) b :=
  visitB_cut (by cases bf <;> simp <;> omega) (by cases bf <;> simp <;> omega)
theorem cutLoop_same (f g k n n' : Nat) (hk : 1 ≤ k) (h1 : n ≤ f + k) (h1' : n' ≤ g + k) (h2 : cutLoop f k n < n') (h3 : n' ≤ n) : cutLoop g k n' = cutLoop f k n := by
  induction f generalizing g k with
  | zero => rw [cutLoop] at *; rw [cutLoop_stop _ _ _ (by omega)]
  | succ f ih =>
    rw [cutLoop] at h2 ⊢
    by_cases hc : 2 * k < n
    · rw [if_pos hc] at h2 ⊢
      cases g with
      | zero =>
        have := cutLoop_bounds f (2 * k) n (by omega) hc
        have hmon : 2 * k ≤ cutLoop f (2 * k) n := by
          clear ih h2 this h1 h1' h3
          generalize 2 * k = q
          induction f generalizing q with
          | zero => exact Nat.le_refl _
          | succ f ih => rw [cutLoop]; split
                         · exact Nat.le_trans (by omega) (ih (2 * q))
                         · exact Nat.le_refl _
        omega
      | succ g =>
        have hmon : 2 * k ≤ cutLoop f (2 * k) n := by
          clear ih h2 h1 h1' h3
          generalize 2 * k = q
          induction f generalizing q with
          | zero => exact Nat.le_refl _
          | succ f ih => rw [cutLoop]; split
                         · exact Nat.le_trans (by omega) (ih (2 * q))
                         · exact Nat.le_refl _
        rw [cutLoop, if_pos (by omega)]
        exact ih g (2 * k) (by omega) (by omega) (by omega) h2
    · rw [if_neg hc] at h2 ⊢
      rw [cutLoop_stop _ _ _ (by omega)]
theorem cutN_same {n n' : Nat} (h1 : cutN n < n') (h2 : n' ≤ n) : cutN n' = cutN n := cutLoop_same n n' 1 n n' (by omega) (by omega) (by omega) h1 h2
/-- the number of the subtrees before k -/
def cntF : Nat → Nat → Nat → Nat → Nat
  | 0, _, _, _ => 0
  | f + 1, k, a, b => if b ≤ a ∨ k ≤ a then 0 else if b ≤ k then 1 else cntF f k a (a + cutN (b - a)) + cntF f k (a + cutN (b - a)) b
theorem visit_cnt (f : Nat) (l : List ByteArray) (k a b : Nat) : (visitF f l k true a b).length = cntF f k a b := by
  induction f generalizing a b with
  | zero => rfl
  | succ f ih =>
    rw [visitF, cntF]
    by_cases h1 : b ≤ a ∨ k ≤ a
    · rw [if_pos h1, if_pos (by simpa using h1)]; rfl
    · rw [if_neg h1, if_neg (by simpa using h1)]
      by_cases h2 : b ≤ k
      · rw [if_pos h2, if_pos (.inl ⟨rfl, h2⟩)]; rfl
      · rw [if_neg h2, if_neg (by simpa using h2), List.length_append, ih, ih]
def bitsF : Nat → Nat → Nat
  | 0, _ => 0
  | f + 1, x => if x = 0 then 0 else x % 2 + bitsF f (x / 2)
theorem cnt_bits : ∀ n, n < 13 → ∀ k, k < n → cntF n k 0 n = bitsF 4 k := by decide +kernel
theorem visitN (f : Nat) (l : List ByteArray) (k : Nat) (bf : Bool) (a b : Nat) : (visitF f l k bf a b).length ≤ b - a := by
  induction f generalizing a b with
  | zero => simp [visitF]
  | succ f ih =>
    rw [visitF]
    split
    · simp
    · split
      · rename_i h1 _; simp; omega
      · rename_i h1 h2
        have h3 : 2 ≤ b - a := by cases bf <;> simp at h1 h2 <;> omega
        have k1 := cutN_pos _ h3
        have k2 := cutN_lt _ h3
        have i1 := ih a (a + cutN (b - a))
        have i2 := ih (a + cutN (b - a)) b
        rw [List.length_append]; omega
/-- fold, plain -/
def foldB : Nat → List ByteArray → ByteArray
  | _, [] => ByteArray.empty
  | _, [x] => x
  | n, x :: y :: r => nodeB x (foldB (n - cutN n) (y :: r))
def foldOk : Nat → List ByteArray → Prop
  | _, [] => False
  | _, [_] => True
  | n, _ :: y :: r => 2 ≤ n ∧ foldOk (n - cutN n) (y :: r)
theorem fold_visit (m : Nat) (l : List ByteArray) (k : Nat) : ∀ a b, b - a ≤ m → b ≤ l.length → a < k → k ≤ b → foldB (k - a) (visitB l k true a b) = rootB (seg l a k) ∧ visitB l k true a b ≠ [] ∧ foldOk (k - a) (visitB l k true a b) := by
  induction m with
  | zero => intro a b h1 h2 h3 h4; omega
  | succ m ih =>
    intro a b h1 h2 h3 h4
    by_cases hk : b ≤ k
    · obtain rfl : b = k := by omega
      rw [(v_low (l := l) (k := b) h3 (Nat.le_refl _)).1]
      exact ⟨rfl, by simp, trivial⟩
    · obtain ⟨hba, hv⟩ := v_mid (l := l) true h3 (by omega : k < b)
      have k1 := cutN_pos _ hba
      have k2 := cutN_lt _ hba
      rw [hv]
      by_cases hm : k ≤ a + cutN (b - a)
      · rw [(v_high (l := l) (by omega) hm).1, List.append_nil]
        exact ih a _ (by omega) (by omega) h3 hm
      · obtain ⟨i1, i2, i3⟩ := ih (a + cutN (b - a)) b (by omega) h2 (by omega) h4
        rw [(v_low (l := l) (k := k) (a := a) (b := a + cutN (b - a)) (by omega) (by omega)).1]
        obtain ⟨y, r, e⟩ : ∃ y r, visitB l k true (a + cutN (b - a)) b = y :: r := by
          cases hh : visitB l k true (a + cutN (b - a)) b with
          | nil => exact (i2 hh).elim
          | cons y r => exact ⟨y, r, rfl⟩
        have hc : cutN (k - a) = cutN (b - a) := cutN_same (by omega) (by omega)
        refine ⟨?_, by simp, ?_⟩
        · rw [e, List.singleton_append, foldB, ← e, hc, show k - a - cutN (b - a) = k - (a + cutN (b - a)) by omega, i1]
          exact (root_seg (l := l) (a := a) (b := k) (m := a + cutN (b - a)) (by omega) (by omega) (by rw [hc])).symm
        · rw [e, List.singleton_append, foldOk, ← e, hc, show k - a - cutN (b - a) = k - (a + cutN (b - a)) by omega]
          exact ⟨by omega, i3⟩
theorem foldB_size (q : Nat) (L : List ByteArray) (h : ∀ x ∈ L, x.size ≤ 1000000) : (foldB q L).size ≤ 1000000 := by
  match L with
  | [] => simp [foldB]
  | [x] => exact h x (by simp)
  | x :: y :: r => rw [foldB, nodeB, dig_size]; omega
end Go.Proofs.Ytlgpdmejnabinaa
