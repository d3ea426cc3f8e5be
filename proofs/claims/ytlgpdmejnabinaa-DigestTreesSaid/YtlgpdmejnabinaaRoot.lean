/- Contracts of digest.cut, node, root, Root. -/
import Derived.Test.YtlgpdmejnabinaaChain
import Derived.Lib.QuietBelow
namespace Go.Proofs.Ytlgpdmejnabinaa
open Go.RowKit Go.Sort

def cutLoop : Nat → Nat → Nat → Nat
  | 0, k, _ => k
  | f + 1, k, n => if 2 * k < n then cutLoop f (2 * k) n else k
/-- how many strings the first part of a tree has -/
def cutN (n : Nat) : Nat := cutLoop n 1 n
theorem cutLoop_stop (f k n : Nat) (h : ¬ 2 * k < n) : cutLoop f k n = k := by cases f <;> simp [cutLoop, h]
theorem cutLoop_bounds (f k n : Nat) (h1 : 1 ≤ k) (h2 : k < n) : 1 ≤ cutLoop f k n ∧ cutLoop f k n < n := by
  induction f generalizing k with
  | zero => exact ⟨h1, h2⟩
  | succ f ih =>
    rw [cutLoop]
    split
    · exact ih (2 * k) (by omega) (by assumption)
    · exact ⟨h1, h2⟩
theorem cutN_pos (n : Nat) (h : 2 ≤ n) : 1 ≤ cutN n := (cutLoop_bounds n 1 n (by omega) (by omega)).1
theorem cutN_lt (n : Nat) (h : 2 ≤ n) : cutN n < n := (cutLoop_bounds n 1 n (by omega) (by omega)).2
theorem cut_any (n : Nat) (w : World) (hn : n ≤ 1000000) : Calls Try.prog 58 #[.int .i64 (n : Int)] w fun e w' => e = .returned (.int .i64 (cutN n : Int)) ∧ w' = w := by
  go_enter Try.func58, Try.ntmps58
  go_wp2_with fail
  go_loop [3] (fun i => ∃ f k : Nat, n ≤ f + k ∧ 1 ≤ k ∧ k ≤ n + 1 ∧ Hid (cutLoop f k n = cutN n) ∧ i = .int .i64 (k : Int)) (fun i => n + 1 - (intOf i).toNat)
  case atStart => exact ⟨n, 1, by omega, by omega, by omega, rfl, rfl⟩
  case round =>
    obtain ⟨f, k, h1, h2, h3, hc, rfl⟩ := hrel
    by_cases hlt : 2 * k < n
    · go_wp2_with fail
      go_round
      case rel =>
        refine ⟨f - 1, 2 * k, by omega, by omega, by omega, ?_, by go_num⟩
        show cutLoop (f - 1) (2 * k) n = cutN n
        have := hc.out
        rw [show f = (f - 1) + 1 by omega, cutLoop, if_pos hlt] at this
        exact this
      case measure => simp [intOf]; omega
    · go_wp2_with fail
      go_ret
      have := hc.out
      rw [cutLoop_stop _ _ _ hlt] at this
      exact ⟨by rw [← this]; rfl, rfl⟩
def nodeB (a b : ByteArray) : ByteArray := dig ((⟨#[1]⟩ ++ a) ++ b)
theorem node_any (a b : ByteArray) (w : World) (ha : a.size ≤ 1000000) (hb : b.size ≤ 1000000) : Calls Try.prog 59 #[.string a, .string b] w fun e w' => e = .returned (.string (nodeB a b)) ∧ Below w.heap.size w w' := by
  go_enter Try.func59, Try.ntmps59
  go_wp2_with fail
  refine (sum_dig _ _ (by simp only [append_size]; have : (⟨#[1]⟩ : ByteArray).size = 1 := rfl; omega)).mono ?_
  rintro e w1 ⟨rfl, hb1⟩
  go_wp2_with fail
  go_ret
  exact ⟨rfl, hb1⟩
def rootF : Nat → List ByteArray → ByteArray
  | 0, _ => ByteArray.empty
  | f + 1, l => if l.length = 0 then dig ⟨#[]⟩ else if l.length = 1 then dig (⟨#[0]⟩ ++ l.getD 0 ByteArray.empty) else nodeB (rootF f (l.take (cutN l.length))) (rootF f (l.drop (cutN l.length)))
def rootB (l : List ByteArray) : ByteArray := rootF (l.length + 1) l
theorem rootF_more (f g : Nat) (l : List ByteArray) (hf : l.length < f) (hg : l.length < g) : rootF f l = rootF g l := by
  induction f generalizing g l with
  | zero => omega
  | succ f ih =>
    cases g with
    | zero => omega
    | succ g =>
      rw [rootF, rootF]
      split
      · rfl
      · split
        · rfl
        · have h2 : 2 ≤ l.length := by omega
          have a := cutN_pos l.length h2
          have b := cutN_lt l.length h2
          rw [ih g (l.take (cutN l.length)) (by simp; omega) (by simp; omega), ih g (l.drop (cutN l.length)) (by simp; omega) (by simp; omega)]
theorem rootB_none (l : List ByteArray) (h : l.length = 0) : rootB l = dig ⟨#[]⟩ := by rw [rootB, rootF, if_pos h]
theorem rootB_one (l : List ByteArray) (h : l.length = 1) : rootB l = dig (⟨#[0]⟩ ++ l.getD 0 ByteArray.empty) := by rw [rootB, rootF, if_neg (by omega), if_pos h]
theorem rootB_two (l : List ByteArray) (h : 2 ≤ l.length) : rootB l = nodeB (rootB (l.take (cutN l.length))) (rootB (l.drop (cutN l.length))) := by
  have a := cutN_pos l.length h
  have b := cutN_lt l.length h
  rw [rootB, rootF, if_neg (by omega), if_neg (by omega), rootB, rootB, rootF_more l.length ((l.take (cutN l.length)).length + 1) _ (by simp; omega) (by omega), rootF_more l.length ((l.drop (cutN l.length)).length + 1) _ (by simp; omega) (by omega)]
theorem rootB_size (l : List ByteArray) : (rootB l).size = 32 := by
  rcases Nat.lt_or_ge l.length 2 with h | h
  · rcases Nat.eq_zero_or_pos l.length with h0 | h0
    · rw [rootB_none l h0, dig_size]
    · rw [rootB_one l (by omega), dig_size]
  · rw [rootB_two l h, nodeB, dig_size]
theorem Strs.take {w : World} {b o n c : Nat} {l : List ByteArray} (h : Strs w (some ⟨b, o, none⟩) n c l) (k : Nat) (hk : k ≤ n) : Strs w (some ⟨b, o, none⟩) k c (l.take k) := by
  have hl := h.len
  have hc := h.cap
  have ht := h.top
  refine ⟨by simp; omega, by omega, by omega, fun h0 => ?_⟩
  obtain ⟨b', o', e, hb, hcell⟩ := h.at_ (by omega)
  cases e
  refine ⟨_, _, rfl, hb, fun j hj => ?_⟩
  rw [hcell j (by omega), List.getD_eq_getElem?_getD, List.getD_eq_getElem?_getD, List.getElem?_take, if_pos hj]
theorem Strs.drop {w : World} {b o n c : Nat} {l : List ByteArray} (h : Strs w (some ⟨b, o, none⟩) n c l) (k : Nat) (hk : k ≤ n) : Strs w (some ⟨b, o + k, none⟩) (n - k) (c - k) (l.drop k) := by
  have hl := h.len
  have hc := h.cap
  have ht := h.top
  refine ⟨by simp; omega, by omega, by omega, fun h0 => ?_⟩
  obtain ⟨b', o', e, hb, hcell⟩ := h.at_ (by omega)
  cases e
  refine ⟨_, _, rfl, hb, fun j hj => ?_⟩
  rw [Nat.add_assoc, hcell (k + j) (by omega), List.getD_eq_getElem?_getD, List.getD_eq_getElem?_getD, List.getElem?_drop]
set_option maxHeartbeats 1000000 in
set_option maxRecDepth 100000 in
theorem root_any (m : Nat) : ∀ (A : Option Addr) (n c : Nat) (l : List ByteArray) (w : World), n ≤ m → n ≤ 1000000 → Strs w A n c l → (∀ x ∈ l, x.size ≤ 1000000) →
    Calls Try.prog 44 #[.slice A n c] w fun e w' => e = .returned (.string (rootB l)) ∧ Below w.heap.size w w' := by
  induction m with
  | zero =>
    intro A n c l w hm hn h hl
    obtain rfl : n = 0 := by omega
    go_enter Try.func44, Try.ntmps44
    go_wp2_with fail
    refine (sum_dig ⟨#[]⟩ _ (by decide)).mono ?_
    rintro e w1 ⟨rfl, hb1⟩
    go_wp2_with fail
    go_ret
    exact ⟨by rw [rootB_none l h.len]; rfl, hb1⟩
  | succ m ih =>
    intro A n c l w hm hn h hl
    have IH := Lib.hid ih
    have HL := Lib.hid hl
    have hlen := Lib.hid h.len
    clear ih hl
    rcases Nat.lt_or_ge n 2 with h2 | h2
    · rcases Nat.eq_zero_or_pos n with h0 | h0
      · subst h0
        go_enter Try.func44, Try.ntmps44
        go_wp2_with fail
        refine (sum_dig ⟨#[]⟩ _ (by decide)).mono ?_
        rintro e w1 ⟨rfl, hb1⟩
        go_wp2_with fail
        go_ret
        exact ⟨by rw [rootB_none l hlen.out]; rfl, hb1⟩
      · obtain rfl : n = 1 := by omega
        obtain ⟨b, o, rfl, hb, hcell⟩ := h.at_ (by omega)
        have hc := hcell 0 (by omega)
        simp only [Nat.add_zero] at hc
        have hsz := HL.out _ (getD_mem l 0 (by rw [hlen.out]; omega))
        generalize hx : l.getD 0 ByteArray.empty = x at *
        have HX := Lib.hid hx
        clear hx hcell
        go_enter Try.func44, Try.ntmps44
        go_wp2_with fail
        refine (sum_dig _ _ (by simp only [append_size]; have : (⟨#[0]⟩ : ByteArray).size = 1 := rfl; omega)).mono ?_
        rintro e w1 ⟨rfl, hb1⟩
        go_wp2_with fail
        go_ret
        exact ⟨by rw [rootB_one l hlen.out, HX.out]; rfl, hb1⟩
    · obtain ⟨b, o, rfl, hb, hcell⟩ := h.at_ (by omega)
      clear hcell
      have d0 : ((n : Int) == 0) = false := beq_eq_false_iff_ne.2 (by omega)
      have d1 : ((n : Int) == 1) = false := beq_eq_false_iff_ne.2 (by omega)
      have hk1 := cutN_pos n h2
      have hk2 := cutN_lt n h2
      go_enter Try.func44, Try.ntmps44
      go_wp2_with fail
      refine (cut_any n _ hn).mono ?_
      rintro e w1 ⟨rfl, rfl⟩
      have hcap := h.cap
      obtain ⟨k, hk⟩ : ∃ k, k = cutN n := ⟨_, rfl⟩
      rw [← hk] at hk1 hk2 ⊢
      have HK := Lib.hid hk
      clear hk
      have b1 : (k : Int) ≤ (c : Int) := by omega
      have b2 : (k : Int) ≤ (n : Int) := by omega
      have hne : c ≠ k := by omega
      have t1 := h.take k (by omega)
      have t2 := h.drop k (by omega)
      have z1 : ∀ x ∈ l.take k, x.size ≤ 1000000 := fun x hx => HL.out x (List.mem_of_mem_take hx)
      have z2 : ∀ x ∈ l.drop k, x.size ≤ 1000000 := fun x hx => HL.out x (List.mem_of_mem_drop hx)
      have T := Lib.hid (And.intro t1 (And.intro t2 (And.intro z1 z2)))
      clear t1 t2 z1 z2
      go_wp2_with fail
      refine wp_region_quiet_below (by kernel_rfl) (by kernel_rfl) ?_
      repeat (quiet_step (first
        | exact Calls.regrown_of (IH.out _ _ _ _ _ (by omega) (by omega) (T.out.1.below (below_regrown w1 _ _)) T.out.2.2.1)
        | exact Calls.regrown_of (IH.out _ _ _ _ _ (by omega) (by omega) (T.out.2.1.below (below_regrown w1 _ _)) T.out.2.2.2)
        | exact Calls.regrown_of (node_any _ _ _ (by rw [rootB_size]; omega) (by rw [rootB_size]; omega))))
      refine wpQuiet_nil ?_
      intro _ hw'
      obtain ⟨⟨dq, osq⟩, hw''⟩ := hw'
      subst hw''
      go_wp2_with fail
      go_ret
      refine ⟨?_, below_regrown w1 dq osq⟩
      rw [rootB_two l (by rw [hlen.out]; omega), hlen.out, ← HK.out]
      rfl
def RetStr (s : ByteArray) (code : Int) (w : World) (e : Ending) (w' : World) : Prop := e = .returned (.tuple #[.string s, .int .i64 code]) ∧ Below w.heap.size w w'
theorem Root_any (A : Option Addr) (n c : Nat) (l : List ByteArray) (w : World) (hn : n ≤ 1024) (h : Strs w A n c l) (hl : ∀ x ∈ l, x.size ≤ 1000000) :
    Calls Try.prog 22 #[.slice A n c] w (RetStr (rootB l) 0 w) := by
  have hd : decide (1024 < (n : Int)) = false := by simp; omega
  go_enter Try.func22, Try.ntmps22
  go_wp2_with fail
  refine (root_any n A n c l w (Nat.le_refl _) (by omega) h hl).mono ?_
  rintro e w1 ⟨rfl, hb1⟩
  go_wp2_with fail
  go_ret2
  exact ⟨rfl, hb1⟩
theorem Root_many (A : Option Addr) (n c : Nat) (w : World) (hn : 1024 < n) (hm : n ≤ 9223372036854775807) :
    Calls Try.prog 22 #[.slice A n c] w (RetStr ⟨#[]⟩ 4 w) := by
  have hd : decide (1024 < (n : Int)) = true := by simp; omega
  go_enter Try.func22, Try.ntmps22
  go_wp2_with fail
  go_ret2
  exact ⟨rfl, Below.refl _ _⟩
end Go.Proofs.Ytlgpdmejnabinaa
