/- Integers as strings of decimal digits, and journal entries, plain. -/
import Derived.Test.YtjcbohbpkodkoaaGreatDoorChecked
import Derived.WalkKit
import Derived.Lib.Hide
import Derived.Lib.SmallJoins
import Derived.Deep.QuietTactic
import Derived.BigQuiet
import Derived.Maps.RangeWalk
import Derived.Deep.RegionLaw
import Derived.Deep.DeepMust
import Derived.Laws.CopyOwn
import Derived.Laws.MakeOwn
import Derived.IntWalk
import Derived.RegionTactic
import Derived.Outline
import Derived.WalkSpells
import Derived.Lib.LazyBuf
namespace Go.Proofs.YtjcbohbpkodkoaaGreatDoor.Num

def isDig (c : UInt8) : Bool := decide (48 ≤ c.toNat) && decide (c.toNat ≤ 57)
def dv (c : UInt8) : Nat := c.toNat - 48
/-- the value of digits -/
def digV (s : List UInt8) : Nat := s.foldl (fun n c => 10 * n + dv c) 0
theorem digV_snoc (s : List UInt8) (c : UInt8) : digV (s ++ [c]) = 10 * digV s + dv c := by simp [digV]
theorem foldl_pow (s : List UInt8) (n : Nat) : s.foldl (fun n c => 10 * n + dv c) n = n * 10 ^ s.length + digV s := by
  induction s generalizing n with
  | nil => simp [digV]
  | cons c s ih =>
    have e : digV (c :: s) = dv c * 10 ^ s.length + digV s := by
      show List.foldl _ 0 (c :: s) = _
      rw [List.foldl_cons, ih (10 * 0 + dv c), Nat.mul_zero, Nat.zero_add]
    rw [List.foldl_cons, ih, e, List.length_cons, Nat.pow_succ]
    have : (10 * n + dv c) * 10 ^ s.length = n * (10 ^ s.length * 10) + dv c * 10 ^ s.length := by
      rw [Nat.add_mul, Nat.mul_comm 10 n, Nat.mul_assoc, Nat.mul_comm 10]
    rw [this, Nat.add_assoc]
theorem digV_append (a b : List UInt8) : digV (a ++ b) = digV a * 10 ^ b.length + digV b := by
  rw [digV, List.foldl_append, foldl_pow]; rfl
theorem digV_cons (c : UInt8) (s : List UInt8) : digV (c :: s) = dv c * 10 ^ s.length + digV s := by
  have := digV_append [c] s
  simpa [digV] using this
theorem dv_le {c : UInt8} (h : isDig c = true) : dv c ≤ 9 := by
  simp only [isDig, Bool.and_eq_true, decide_eq_true_eq] at h
  unfold dv; omega
theorem digV_lt (s : List UInt8) (h : s.all isDig = true) : digV s < 10 ^ s.length := by
  induction s with
  | nil => simp [digV]
  | cons c s ih =>
    simp only [List.all_cons, Bool.and_eq_true] at h
    rw [digV_cons, List.length_cons, Nat.pow_succ]
    have h1 := ih h.2
    have h2 := dv_le h.1
    have : dv c * 10 ^ s.length ≤ 9 * 10 ^ s.length := Nat.mul_le_mul_right _ h2
    omega
/-- the digits of a number, none for 0 -/
def dig (n : Nat) : List UInt8 := if _h : n = 0 then [] else dig (n / 10) ++ [UInt8.ofNat (48 + n % 10)]
termination_by n
decreasing_by omega
theorem dig_zero : dig 0 = [] := by rw [dig]; simp
theorem dig_pos {n : Nat} (h : n ≠ 0) : dig n = dig (n / 10) ++ [UInt8.ofNat (48 + n % 10)] := by rw [dig]; simp [h]
theorem dv_of (k : Nat) (h : k < 10) : dv (UInt8.ofNat (48 + k)) = k ∧ isDig (UInt8.ofNat (48 + k)) = true ∧ (UInt8.ofNat (48 + k)).toNat = 48 + k := by
  have e : (UInt8.ofNat (48 + k)).toNat = 48 + k := by simp [UInt8.toNat_ofNat']; omega
  refine ⟨by rw [dv, e]; omega, ?_, e⟩
  rw [isDig, e]; simp; omega
theorem digV_dig (n : Nat) : digV (dig n) = n := by
  induction n using Nat.strongRecOn with
  | _ n ih =>
    by_cases h : n = 0
    · subst h; rw [dig_zero]; rfl
    · rw [dig_pos h, digV_snoc, ih (n / 10) (by omega), (dv_of (n % 10) (by omega)).1]; omega
theorem dig_all (n : Nat) : (dig n).all isDig = true := by
  induction n using Nat.strongRecOn with
  | _ n ih =>
    by_cases h : n = 0
    · subst h; rw [dig_zero]; rfl
    · rw [dig_pos h, List.all_append, ih (n / 10) (by omega)]
      rw [List.all_cons, (dv_of (n % 10) (by omega)).2.1]
      rfl
theorem dig_ne {n : Nat} (h : n ≠ 0) : dig n ≠ [] := by rw [dig_pos h]; simp
theorem dig_head (n : Nat) : (dig n).head? ≠ some 48 := by
  induction n using Nat.strongRecOn with
  | _ n ih =>
    by_cases h : n = 0
    · subst h; rw [dig_zero]; simp
    · rw [dig_pos h]
      by_cases h10 : n / 10 = 0
      · rw [h10, dig_zero, List.nil_append, List.head?_cons]
        intro e
        have e1 : (UInt8.ofNat (48 + n % 10)).toNat = 48 := by rw [Option.some.inj e]; rfl
        rw [(dv_of (n % 10) (by omega)).2.2] at e1
        omega
      · have hne := dig_ne h10
        have := ih (n / 10) (by omega)
        cases hd : dig (n / 10) with
        | nil => exact absurd hd hne
        | cons x r => rw [hd] at this; simpa using this
theorem dig_uniq (s : List UInt8) (h : s.all isDig = true) (hh : s.head? ≠ some 48) : dig (digV s) = s := by
  induction hn : s.length generalizing s with
  | zero =>
    have e : s = [] := List.eq_nil_of_length_eq_zero hn
    subst e
    rw [show digV [] = 0 from rfl, dig_zero]
  | succ n ih =>
    obtain ⟨s, c, rfl⟩ : ∃ t c, s = t ++ [c] := by
      have hne : s ≠ [] := fun e => by rw [e] at hn; cases hn
      exact ⟨s.dropLast, s.getLast hne, (List.dropLast_concat_getLast hne).symm⟩
    have hl : s.length = n := by simpa using hn
    rw [List.all_append, Bool.and_eq_true] at h
    have hc : isDig c = true := by simpa using h.2
    have hd := dv_le hc
    have hcv : UInt8.ofNat (48 + dv c) = c := by
      apply UInt8.toNat.inj
      rw [(dv_of (dv c) (by omega)).2.2]
      simp only [isDig, Bool.and_eq_true, decide_eq_true_eq] at hc
      unfold dv; omega
    rw [digV_snoc]
    cases s with
    | nil =>
      have hne : dv c ≠ 0 := fun e => by
        apply hh
        rw [List.nil_append, List.head?_cons]
        rw [e] at hcv
        exact congrArg some hcv.symm
      rw [show digV [] = 0 from rfl, Nat.mul_zero, Nat.zero_add, dig_pos hne, Nat.div_eq_of_lt (by omega), dig_zero, Nat.mod_eq_of_lt (by omega), hcv]
    | cons x r =>
      have h0 : (x :: r).head? ≠ some 48 := by simpa using hh
      have ih := ih (x :: r) h.1 h0 hl
      have hne : digV (x :: r) ≠ 0 := fun e => by rw [e, dig_zero] at ih; cases ih
      rw [dig_pos (by omega), show (10 * digV (x :: r) + dv c) / 10 = digV (x :: r) by omega, show (10 * digV (x :: r) + dv c) % 10 = dv c by omega, ih, hcv]
/-- what a string holds: its digits without zeros ahead, and its sign; none for 0 -/
def body (a : List UInt8) : List UInt8 := match a with
  | 45 :: r => r
  | _ => a
def sgn (a : List UInt8) : Bool := match a with
  | 45 :: _ => true
  | _ => false
def lead (s : List UInt8) : List UInt8 := s.dropWhile (· == 48)
def dgs (a : List UInt8) : List UInt8 := if (body a).all isDig then lead (body a) else []
def neg (a : List UInt8) : Bool := sgn a && !(dgs a).isEmpty
/-- the value of a string -/
def val (a : List UInt8) : Int := if neg a then -(digV (dgs a) : Int) else digV (dgs a)
/-- the canonical string of a value -/
def txt (v : Int) : List UInt8 := if v < 0 then 45 :: dig v.natAbs else dig v.natAbs
theorem lead_all {s : List UInt8} (h : s.all isDig = true) : (lead s).all isDig = true := by
  rw [List.all_eq_true] at h ⊢
  exact fun x hx => h x ((List.dropWhile_sublist _).subset hx)
theorem lead_head (s : List UInt8) : (lead s).head? ≠ some 48 := by
  unfold lead
  induction s with
  | nil => simp
  | cons c s ih =>
    rw [List.dropWhile_cons]
    split
    · exact ih
    · rename_i h; simpa using h
theorem dgs_all (a : List UInt8) : (dgs a).all isDig = true := by
  unfold dgs; split
  · exact lead_all ‹_›
  · rfl
theorem dgs_head (a : List UInt8) : (dgs a).head? ≠ some 48 := by
  unfold dgs; split
  · exact lead_head _
  · simp
theorem dgs_val (a : List UInt8) : dgs a = dig (digV (dgs a)) := (dig_uniq _ (dgs_all a) (dgs_head a)).symm
theorem digV_pos {s : List UInt8} (h : s.all isDig = true) (hh : s.head? ≠ some 48) (hne : s ≠ []) : digV s ≠ 0 := fun e => by
  have := dig_uniq s h hh
  rw [e, dig_zero] at this
  exact hne this.symm
/-- the canonical string of a string's value -/
theorem txt_val (a : List UInt8) : txt (val a) = if neg a then 45 :: dgs a else dgs a := by
  unfold val
  cases hn : neg a
  · rw [if_neg (by decide), if_neg (by decide), txt, if_neg (by omega), Int.natAbs_natCast]
    exact (dgs_val a).symm
  · rw [if_pos rfl, if_pos rfl]
    have hne : dgs a ≠ [] := fun e => by simp [neg, e] at hn
    have hp := digV_pos (dgs_all a) (dgs_head a) hne
    rw [txt, if_pos (by omega), Int.natAbs_neg, Int.natAbs_natCast, ← dgs_val a]
theorem digit_not_minus {c : UInt8} (h : isDig c = true) : c ≠ 45 := fun e => by subst e; revert h; decide
theorem val_dig (n : Nat) : dgs (dig n) = dig n ∧ sgn (dig n) = false ∧ body (dig n) = dig n := by
  have hb : body (dig n) = dig n ∧ sgn (dig n) = false := by
    cases h : dig n with
    | nil => exact ⟨rfl, rfl⟩
    | cons c r =>
      have hc : isDig c = true := by
        have := dig_all n
        rw [h, List.all_cons, Bool.and_eq_true] at this
        exact this.1
      have := digit_not_minus hc
      unfold body sgn
      split <;> rename_i e
      · rw [List.cons.injEq] at e; exact absurd e.1 this
      · exact ⟨rfl, rfl⟩
  refine ⟨?_, hb.2, hb.1⟩
  rw [dgs, hb.1, if_pos (dig_all n)]
  unfold lead
  cases h : dig n with
  | nil => rfl
  | cons c r =>
    have := dig_head n
    rw [h, List.head?_cons] at this
    rw [List.dropWhile_cons, if_neg (by simpa using this)]
theorem val_txt (v : Int) : val (txt v) = v := by
  unfold txt
  split
  · rename_i h
    have hne : v.natAbs ≠ 0 := by omega
    have e1 : dgs (45 :: dig v.natAbs) = dig v.natAbs := by
      have h2 := (val_dig v.natAbs).1
      rw [dgs, (val_dig v.natAbs).2.2] at h2
      rw [dgs]
      exact h2
    have e2 : neg (45 :: dig v.natAbs) = true := by
      rw [neg, e1]
      have := dig_ne hne
      simp [sgn, this]
    rw [val, if_pos e2, e1, digV_dig]; omega
  · obtain ⟨e1, e2, _⟩ := val_dig v.natAbs
    have e3 : neg (dig v.natAbs) = false := by rw [neg, e2]; rfl
    rw [val, if_neg (by rw [e3]; decide), e1, digV_dig]; omega
theorem txt_inj {u v : Int} (h : txt u = txt v) : u = v := by rw [← val_txt u, h, val_txt]
theorem txt_zero : txt 0 = [] := by rw [txt, if_neg (by omega), Int.natAbs_zero, dig_zero]
theorem txt_nil {v : Int} : txt v = [] ↔ v = 0 := ⟨fun h => txt_inj (h.trans txt_zero.symm), fun h => by rw [h, txt_zero]⟩
/-- the canonical string -/
def can (a : List UInt8) : List UInt8 := txt (val a)
theorem can_can (a : List UInt8) : can (can a) = can a := by rw [can, can, val_txt]

/-- groups of nine digits, the lowest one first -/
def base : Nat := 1000000000
def magV : List Nat → Nat
  | [] => 0
  | g :: r => g + base * magV r
def grp (s : List UInt8) : List Nat := if h : s = [] then [] else digV (s.drop (s.length - 9)) :: grp (s.take (s.length - 9))
termination_by s.length
decreasing_by
  have : 0 < s.length := List.length_pos_iff.2 h
  rw [List.length_take]; omega
theorem grp_nil : grp [] = [] := by rw [grp]; simp
theorem grp_ne {s : List UInt8} (h : s ≠ []) : grp s = digV (s.drop (s.length - 9)) :: grp (s.take (s.length - 9)) := by rw [grp]; simp [h]
theorem magV_grp (s : List UInt8) : magV (grp s) = digV s := by
  induction hn : s.length using Nat.strongRecOn generalizing s with
  | _ n ih =>
    by_cases h : s = []
    · subst h; rw [grp_nil]; rfl
    · have hp : 0 < s.length := List.length_pos_iff.2 h
      rw [grp_ne h, magV, ih (s.take (s.length - 9)).length (by rw [List.length_take]; omega) _ rfl]
      rcases Nat.lt_or_ge s.length 9 with h9 | h9
      · rw [show s.length - 9 = 0 by omega, List.take_zero, List.drop_zero]
        show digV s + base * 0 = _
        omega
      · conv => rhs; rw [← List.take_append_drop (s.length - 9) s, digV_append]
        rw [List.length_drop, show s.length - (s.length - 9) = 9 by omega]
        show _ + 1000000000 * _ = _ * 10 ^ 9 + _
        omega
theorem grp_lt (s : List UInt8) (h : s.all isDig = true) : ∀ g ∈ grp s, g < base := by
  induction hn : s.length using Nat.strongRecOn generalizing s with
  | _ n ih =>
    by_cases hs : s = []
    · subst hs; rw [grp_nil]; simp
    · have hp : 0 < s.length := List.length_pos_iff.2 hs
      rw [List.all_eq_true] at h
      rw [grp_ne hs]
      intro g hg
      rcases List.mem_cons.1 hg with rfl | hg
      · have := digV_lt (s.drop (s.length - 9)) (List.all_eq_true.2 fun x hx => h x (List.mem_of_mem_drop hx))
        have h9 : (s.drop (s.length - 9)).length ≤ 9 := by rw [List.length_drop]; omega
        exact Nat.lt_of_lt_of_le this (Nat.pow_le_pow_right (by omega) h9)
      · exact ih (s.take (s.length - 9)).length (by rw [List.length_take]; omega) (s.take (s.length - 9)) (List.all_eq_true.2 fun x hx => h x (List.mem_of_mem_take hx)) rfl g hg
theorem dig_len {n k : Nat} (h : n < 10 ^ k) : (dig n).length ≤ k := by
  induction k generalizing n with
  | zero =>
    obtain rfl : n = 0 := by simp at h; exact h
    rw [dig_zero]; simp
  | succ k ih =>
    by_cases h0 : n = 0
    · subst h0; rw [dig_zero]; simp
    · rw [dig_pos h0, List.length_append, List.length_singleton]
      have := ih (n := n / 10) (by rw [Nat.pow_succ] at h; omega)
      omega
theorem digV_zeros (k : Nat) (s : List UInt8) : digV (List.replicate k 48 ++ s) = digV s := by
  induction k with
  | zero => rfl
  | succ k ih => rw [List.replicate_succ, List.cons_append, digV_cons, ih, show dv 48 = 0 from rfl]; omega
/-- a machine number's text -/
def fmt (g : Nat) : List UInt8 := if g = 0 then [48] else dig g
theorem fmt_val (g : Nat) : digV (fmt g) = g ∧ (fmt g).all isDig = true := by
  unfold fmt; split
  · rename_i h; subst h; exact ⟨rfl, rfl⟩
  · exact ⟨digV_dig g, dig_all g⟩
theorem fmt_len {g : Nat} (h : g < base) : (fmt g).length ≤ 9 := by
  unfold fmt; split
  · decide
  · exact dig_len h
def pad (g : Nat) : List UInt8 := List.replicate (9 - (fmt g).length) 48 ++ fmt g
theorem pad_val {g : Nat} (h : g < base) : digV (pad g) = g ∧ (pad g).all isDig = true ∧ (pad g).length = 9 := by
  obtain ⟨h1, h2⟩ := fmt_val g
  have h3 := fmt_len h
  refine ⟨by rw [pad, digV_zeros, h1], ?_, by rw [pad, List.length_append, List.length_replicate]; omega⟩
  rw [pad, List.all_append, h2, Bool.and_true, List.all_eq_true]
  intro x hx
  rw [(List.mem_replicate.1 hx).2]; rfl
theorem dig_pad {g v : Nat} (hg : g < base) (hv : v ≠ 0) : dig (g + base * v) = dig v ++ pad g := by
  obtain ⟨h1, h2, h3⟩ := pad_val hg
  have e : digV (dig v ++ pad g) = g + base * v := by
    rw [digV_append, digV_dig, h1, h3]
    show v * 10 ^ 9 + g = g + 1000000000 * v
    omega
  rw [← e]
  refine dig_uniq _ (by rw [List.all_append, dig_all, h2]; rfl) ?_
  have := dig_head v
  cases hd : dig v with
  | nil => exact absurd hd (dig_ne hv)
  | cons x r => rw [hd] at this; simpa using this
/-- the text of groups, the highest one last -/
def grpT : List Nat → List UInt8
  | [] => []
  | [t] => dig t
  | g :: h :: r => grpT (h :: r) ++ pad g
theorem grpT_val : ∀ (m : List Nat), (∀ g ∈ m, g < base) → (m = [] ∨ m.getLast? ≠ some 0) → grpT m = dig (magV m)
  | [], _, _ => by rw [grpT, show magV [] = 0 from rfl, dig_zero]
  | [t], _, _ => by rw [grpT, magV, show magV [] = 0 from rfl, Nat.mul_zero, Nat.add_zero]
  | g :: h :: r, hm, hl => by
    have hl' : (h :: r).getLast? ≠ some 0 := by
      have := hl.resolve_left (by simp)
      simpa using this
    have ih := grpT_val (h :: r) (fun x hx => hm x (List.mem_cons_of_mem _ hx)) (.inr hl')
    have hv : magV (h :: r) ≠ 0 := by
      have : ∀ (m : List Nat), m ≠ [] → m.getLast? ≠ some 0 → magV m ≠ 0 := by
        intro m
        induction m with
        | nil => intro h; exact absurd rfl h
        | cons x m ih =>
          intro _ hl
          cases m with
          | nil => rw [magV]; simp at hl; omega
          | cons y m =>
            have := ih (by simp) (by simpa using hl)
            rw [magV]
            intro e
            have hb : base * magV (y :: m) = 0 := by omega
            rcases Nat.mul_eq_zero.1 hb with h | h
            · exact absurd h (by decide)
            · exact this h
      exact this _ (by simp) hl'
    rw [grpT, ih, show magV (g :: h :: r) = g + base * magV (h :: r) from rfl, dig_pad (hm g (by simp)) hv]
/-- groups without zeros at the end -/
def cutM (m : List Nat) : List Nat := (m.reverse.dropWhile (· == 0)).reverse
theorem magV_append (a b : List Nat) : magV (a ++ b) = magV a + base ^ a.length * magV b := by
  induction a with
  | nil => simp [magV]
  | cons g a ih => rw [List.cons_append, magV, magV, ih, List.length_cons, Nat.pow_succ, Nat.mul_add, Nat.mul_comm (base ^ a.length) base, Nat.mul_assoc, Nat.add_assoc]
theorem magV_snoc_zero (a : List Nat) : magV (a ++ [0]) = magV a := by rw [magV_append]; simp [magV]
theorem cutM_snoc (a : List Nat) (g : Nat) : cutM (a ++ [g]) = if g = 0 then cutM a else a ++ [g] := by
  unfold cutM
  rw [List.reverse_append, List.reverse_singleton, List.singleton_append, List.dropWhile_cons]
  by_cases h : g = 0
  · rw [if_pos (by simp [h]), if_pos h]
  · rw [if_neg (by simp [h]), if_neg h]; simp
theorem magV_cut (m : List Nat) : magV (cutM m) = magV m ∧ (cutM m = [] ∨ (cutM m).getLast? ≠ some 0) ∧ (∀ g ∈ cutM m, g ∈ m) := by
  induction hn : m.length generalizing m with
  | zero =>
    have e : m = [] := List.eq_nil_of_length_eq_zero hn
    subst e
    exact ⟨rfl, .inl rfl, fun g hg => hg⟩
  | succ n ih =>
    obtain ⟨a, g, rfl⟩ : ∃ t c, m = t ++ [c] := by
      have hne : m ≠ [] := fun e => by rw [e] at hn; cases hn
      exact ⟨m.dropLast, m.getLast hne, (List.dropLast_concat_getLast hne).symm⟩
    have hl : a.length = n := by simpa using hn
    rw [cutM_snoc]
    split
    · rename_i h
      subst h
      obtain ⟨i1, i2, i3⟩ := ih a hl
      exact ⟨by rw [i1, magV_snoc_zero], i2, fun g hg => List.mem_append_left _ (i3 g hg)⟩
    · rename_i h
      exact ⟨rfl, .inr (by simpa using h), fun g hg => hg⟩
/-- the text that is written for groups -/
theorem text_val (m : List Nat) (h : ∀ g ∈ m, g < base) : grpT (cutM m) = dig (magV m) := by
  obtain ⟨i1, i2, i3⟩ := magV_cut m
  rw [grpT_val _ (fun g hg => h g (i3 g hg)) i2, i1]
theorem magV_lt (m : List Nat) (h : ∀ g ∈ m, g < base) : magV m < base ^ m.length := by
  induction m with
  | nil => simp [magV]
  | cons g m ih =>
    have h1 := h g (by simp)
    have h2 := ih (fun x hx => h x (List.mem_cons_of_mem _ hx))
    rw [magV, List.length_cons, Nat.pow_succ, Nat.mul_comm (base ^ m.length)]
    have : base * magV m + base ≤ base * base ^ m.length := by
      rw [← Nat.mul_succ]; exact Nat.mul_le_mul_left _ h2
    omega
/-- comparing groups without zeros at the end -/
theorem mag_longer {m n : List Nat} (hm : ∀ g ∈ m, g < base) (hn : n.getLast? ≠ some 0) (h : m.length < n.length) : magV m < magV n := by
  have h1 := magV_lt m hm
  obtain ⟨a, g, rfl⟩ : ∃ t c, n = t ++ [c] := by
    have hne : n ≠ [] := fun e => by rw [e] at h; simp at h
    exact ⟨n.dropLast, n.getLast hne, (List.dropLast_concat_getLast hne).symm⟩
  have hg : g ≠ 0 := by simpa using hn
  have hl : m.length ≤ a.length := by simp at h; omega
  rw [magV_append, magV, show magV [] = 0 from rfl, Nat.mul_zero, Nat.add_zero]
  have h2 : base ^ m.length ≤ base ^ a.length := Nat.pow_le_pow_right (by decide) hl
  have h3 : base ^ a.length * 1 ≤ base ^ a.length * g := Nat.mul_le_mul_left _ (by omega)
  omega
theorem mag_at {m n : List Nat} (i : Nat) (hm : ∀ g ∈ m, g < base) (him : i < m.length) (hin : i < n.length) (he : m.drop (i + 1) = n.drop (i + 1)) (hlt : m[i] < n[i]) : magV m < magV n := by
  have e1 : m = m.take i ++ m[i] :: m.drop (i + 1) := by rw [← List.drop_eq_getElem_cons him, List.take_append_drop]
  have e2 : n = n.take i ++ n[i] :: n.drop (i + 1) := by rw [← List.drop_eq_getElem_cons hin, List.take_append_drop]
  have v1 : magV m = magV (m.take i) + base ^ i * (m[i] + base * magV (m.drop (i + 1))) := by
    conv => lhs; rw [e1, magV_append, magV, List.length_take, Nat.min_eq_left (by omega)]
  have v2 : magV n = magV (n.take i) + base ^ i * (n[i] + base * magV (m.drop (i + 1))) := by
    conv => lhs; rw [e2, magV_append, magV, List.length_take, Nat.min_eq_left (by omega), ← he]
  have h1 : magV (m.take i) < base ^ i := by
    have := magV_lt (m.take i) (fun g hg => hm g (List.mem_of_mem_take hg))
    rwa [List.length_take, Nat.min_eq_left (by omega)] at this
  have h2 : base ^ i * (m[i] + base * magV (m.drop (i + 1)) + 1) ≤ base ^ i * (n[i] + base * magV (m.drop (i + 1))) := Nat.mul_le_mul_left _ (by omega)
  rw [Nat.mul_succ] at h2
  omega
/-- what is known of the groups of a value -/
structure Grp (m : List Nat) (v : Nat) : Prop where
  lt : ∀ g ∈ m, g < base
  val : magV m = v
theorem grp_of (a : List UInt8) : Grp (grp (dgs a)) (digV (dgs a)) := ⟨grp_lt _ (dgs_all a), magV_grp _⟩
theorem grp_top (s : List UInt8) (h : s.all isDig = true) (hh : s.head? ≠ some 48) : grp s = [] ∨ (grp s).getLast? ≠ some 0 := by
  induction hn : s.length using Nat.strongRecOn generalizing s with
  | _ n ih =>
    by_cases hs : s = []
    · subst hs; exact .inl grp_nil
    · have hp : 0 < s.length := List.length_pos_iff.2 hs
      refine .inr ?_
      rw [grp_ne hs]
      rcases Nat.lt_or_ge 9 s.length with h9 | h9
      · have ht : s.take (s.length - 9) ≠ [] := fun e => by have := congrArg List.length e; rw [List.length_take, List.length_nil] at this; omega
        have hall : (s.take (s.length - 9)).all isDig = true := List.all_eq_true.2 fun x hx => (List.all_eq_true.1 h) x (List.mem_of_mem_take hx)
        have hhd : (s.take (s.length - 9)).head? ≠ some 48 := by
          cases s with
          | nil => exact absurd rfl hs
          | cons x r => rw [List.head?_cons] at hh; rw [List.head?_take, if_neg (by omega), List.head?_cons]; exact hh
        have i1 := ih (s.take (s.length - 9)).length (by rw [List.length_take]; omega) _ hall hhd rfl
        have hne : grp (s.take (s.length - 9)) ≠ [] := by rw [grp_ne ht]; simp
        have i2 := i1.resolve_left hne
        cases hg : grp (s.take (s.length - 9)) with
        | nil => exact absurd hg hne
        | cons x r => rw [hg] at i2; simpa using i2
      · rw [show s.length - 9 = 0 by omega, List.take_zero, List.drop_zero, grp_nil]
        have := digV_pos h hh hs
        simpa using this
/-- the value of a sign and groups -/
def sv (n : Bool) (m : List Nat) : Int := if n then -(magV m : Int) else magV m
theorem cut_nil {m : List Nat} (h : ∀ g ∈ m, g < base) : cutM m = [] ↔ magV m = 0 := by
  constructor
  · intro e
    have := text_val m h
    rw [e, grpT] at this
    exact Decidable.byContradiction fun hne => dig_ne hne this.symm
  · intro e
    have := (magV_cut m).2.1
    rcases this with h1 | h1
    · exact h1
    · have h2 := text_val m h
      rw [e, dig_zero] at h2
      cases hc : cutM m with
      | nil => rfl
      | cons x r =>
        exfalso
        have h3 := grpT_val (cutM m) (fun g hg => h g ((magV_cut m).2.2 g hg)) (.inr h1)
        have h4 := (magV_cut m).1
        have h5 : magV (cutM m) = 0 := by rw [h4, e]
        have : ∀ (m : List Nat), m ≠ [] → m.getLast? ≠ some 0 → magV m ≠ 0 := by
          intro m
          induction m with
          | nil => intro h; exact absurd rfl h
          | cons x m ih =>
            intro _ hl
            cases m with
            | nil => rw [magV]; simp at hl; omega
            | cons y m =>
              have := ih (by simp) (by simpa using hl)
              rw [magV]
              intro e
              have hb : base * magV (y :: m) = 0 := by omega
              rcases Nat.mul_eq_zero.1 hb with h | h
              · exact absurd h (by decide)
              · exact this h
        exact this (cutM m) (by rw [hc]; simp) h1 h5
/-- what 'text' writes -/
theorem txt_sv (n : Bool) (m : List Nat) (h : ∀ g ∈ m, g < base) : (if cutM m = [] then [] else (if n then [45] else []) ++ grpT (cutM m)) = txt (sv n m) := by
  by_cases h0 : magV m = 0
  · rw [if_pos ((cut_nil h).2 h0), sv, h0]
    cases n <;> simp [txt_zero]
  · rw [if_neg (fun e => h0 ((cut_nil h).1 e)), text_val m h, sv, txt]
    cases n
    · simp only [Bool.false_eq_true, if_false, List.nil_append]
      rw [if_neg (by omega), Int.natAbs_natCast]
    · simp only [if_true]
      rw [if_pos (by omega), Int.natAbs_neg, Int.natAbs_natCast]; rfl
theorem val_sv (a : List UInt8) : val a = sv (neg a) (grp (dgs a)) := by rw [val, sv, magV_grp]
theorem magV_snoc (d : List Nat) (g i : Nat) (h : d.length = i) : magV (d ++ [g]) = magV d + base ^ i * g := by
  rw [magV_append, h, magV, show magV [] = 0 from rfl, Nat.mul_zero, Nat.add_zero]
theorem magV_take (m : List Nat) (i : Nat) : magV (m.take (i + 1)) = magV (m.take i) + base ^ i * m.getD i 0 := by
  rcases Nat.lt_or_ge i m.length with h | h
  · rw [List.take_succ_eq_append_getElem h, magV_snoc _ _ i (by rw [List.length_take]; omega), List.getD_eq_getElem?_getD, List.getElem?_eq_getElem h]; rfl
  · rw [List.take_of_length_le (by omega), List.take_of_length_le h, List.getD_eq_getElem?_getD, List.getElem?_eq_none h]; simp
theorem getD_lt {m : List Nat} (h : ∀ g ∈ m, g < base) (i : Nat) : m.getD i 0 < base := by
  rw [List.getD_eq_getElem?_getD]
  cases he : m[i]? with
  | none => decide
  | some g => exact h g (List.mem_of_getElem? he)
/-- the sum's loop after i rounds -/
structure PlusInv (m n d : List Nat) (c i : Nat) : Prop where
  len : d.length = i
  lt : ∀ g ∈ d, g < base
  val : magV d + c * base ^ i = magV (m.take i) + magV (n.take i)
  le : c ≤ 1
theorem PlusInv.start (m n : List Nat) : PlusInv m n [] 0 0 := ⟨rfl, fun g h => by simp at h, by simp [magV], by omega⟩
theorem PlusInv.step {m n d : List Nat} {c i : Nat} (h : PlusInv m n d c i) (hm : ∀ g ∈ m, g < base) (hn : ∀ g ∈ n, g < base) :
    PlusInv m n (d ++ [(m.getD i 0 + c + n.getD i 0) % base]) ((m.getD i 0 + c + n.getD i 0) / base) (i + 1) := by
  have h1 := getD_lt hm i
  have h2 := getD_lt hn i
  have h3 := h.le
  have hb : base = 1000000000 := rfl
  refine ⟨by simp [h.len], fun g hg => ?_, ?_, ?_⟩
  · rcases List.mem_append.1 hg with hg | hg
    · exact h.lt g hg
    · rw [List.mem_singleton.1 hg]; exact Nat.mod_lt _ (by decide)
  · rw [magV_snoc _ _ i h.len, magV_take, magV_take, Nat.pow_succ]
    generalize m.getD i 0 = x at *
    generalize n.getD i 0 = y at *
    have e : (x + c + y) / base * (base ^ i * base) + base ^ i * ((x + c + y) % base) = base ^ i * (x + c + y) := by
      have := Nat.div_add_mod (x + c + y) base
      conv => rhs; rw [← this, Nat.mul_add]
      rw [Nat.mul_comm ((x + c + y) / base), Nat.mul_assoc]
    have v := h.val
    have e2 : base ^ i * (x + c + y) = base ^ i * x + c * base ^ i + base ^ i * y := by rw [Nat.mul_add, Nat.mul_add, Nat.mul_comm c]
    omega
  · generalize m.getD i 0 = x at *
    generalize n.getD i 0 = y at *
    rw [hb] at *
    omega
theorem PlusInv.done {m n d : List Nat} {c : Nat} (h : PlusInv m n d c m.length) (hl : n.length ≤ m.length) : (∀ g ∈ (if c = 0 then d else d ++ [c]), g < base) ∧ magV (if c = 0 then d else d ++ [c]) = magV m + magV n := by
  have v := h.val
  rw [List.take_length, List.take_of_length_le hl] at v
  split
  · rename_i e
    subst e
    exact ⟨h.lt, by omega⟩
  · refine ⟨fun g hg => ?_, ?_⟩
    · rcases List.mem_append.1 hg with hg | hg
      · exact h.lt g hg
      · rw [List.mem_singleton.1 hg]; have := h.le; have hb : base = 1000000000 := rfl; omega
    · rw [magV_snoc _ _ _ h.len, Nat.mul_comm]; exact v
/-- the difference's loop after i rounds -/
structure MinusInv (m n d : List Nat) (b i : Nat) : Prop where
  len : d.length = i
  lt : ∀ g ∈ d, g < base
  val : magV d + magV (n.take i) = magV (m.take i) + b * base ^ i
  le : b ≤ 1
theorem MinusInv.start (m n : List Nat) : MinusInv m n [] 0 0 := ⟨rfl, fun g h => by simp at h, by simp [magV], by omega⟩
/-- a group of the difference, and what is borrowed for it -/
def mg (x l : Nat) : Nat := if x < l then x + base - l else x - l
def mb (x l : Nat) : Nat := if x < l then 1 else 0
theorem MinusInv.step {m n d : List Nat} {b i : Nat} (h : MinusInv m n d b i) (hm : ∀ g ∈ m, g < base) (hn : ∀ g ∈ n, g < base) :
    MinusInv m n (d ++ [mg (m.getD i 0) (b + n.getD i 0)]) (mb (m.getD i 0) (b + n.getD i 0)) (i + 1) := by
  have h1 := getD_lt hm i
  have h2 := getD_lt hn i
  have h3 := h.le
  refine ⟨by simp [h.len], fun g hg => ?_, ?_, by unfold mb; split <;> omega⟩
  · rcases List.mem_append.1 hg with hg | hg
    · exact h.lt g hg
    · rw [List.mem_singleton.1 hg]; unfold mg; split <;> omega
  · rw [magV_snoc _ _ i h.len, magV_take, magV_take, Nat.pow_succ]
    generalize m.getD i 0 = x at *
    generalize n.getD i 0 = y at *
    have v := h.val
    have e : mg x (b + y) + (b + y) = x + mb x (b + y) * base := by unfold mg mb; split <;> omega
    have e2 : base ^ i * mg x (b + y) + (b * base ^ i + base ^ i * y) = base ^ i * x + mb x (b + y) * (base ^ i * base) := by
      have := congrArg (base ^ i * ·) e
      simp only [Nat.mul_add] at this
      rw [Nat.mul_comm b, Nat.mul_left_comm (mb x (b + y))]
      exact this
    omega
theorem MinusInv.done {m n d : List Nat} {b : Nat} (h : MinusInv m n d b m.length) (hl : n.length ≤ m.length) (hle : magV n ≤ magV m) : b = 0 ∧ magV d = magV m - magV n := by
  have v := h.val
  rw [List.take_length, List.take_of_length_le hl] at v
  have h1 := magV_lt d h.lt
  rw [h.len] at h1
  have hb : b = 0 := by
    rcases Nat.eq_zero_or_pos b with e | e
    · exact e
    · have : b = 1 := by have := h.le; omega
      subst this
      omega
  subst hb
  exact ⟨rfl, by omega⟩
theorem digV_ge {c : UInt8} {s : List UInt8} (hc : isDig c = true) (h : c ≠ 48) : 10 ^ s.length ≤ digV (c :: s) := by
  rw [digV_cons]
  have h1 : 1 ≤ dv c := by
    have h2 : c.toNat ≠ 48 := fun e => h (UInt8.toNat.inj e)
    simp only [isDig, Bool.and_eq_true, decide_eq_true_eq] at hc
    unfold dv; omega
  have := Nat.mul_le_mul_right (10 ^ s.length) h1
  omega
theorem digV_shorter {s t : List UInt8} (hs : s.all isDig = true) (ht : t.all isDig = true) (hh : t.head? ≠ some 48) (h : s.length < t.length) : digV s < digV t := by
  cases t with
  | nil => simp at h
  | cons c t =>
    rw [List.all_cons, Bool.and_eq_true] at ht
    have h1 := digV_lt s hs
    have h2 := digV_ge (s := t) ht.1 (by simpa using hh)
    have h3 : 10 ^ s.length ≤ 10 ^ t.length := Nat.pow_le_pow_right (by omega) (by simp at h; omega)
    omega
theorem dv_lt {c d : UInt8} (hc : isDig c = true) (hd : isDig d = true) : dv c < dv d ↔ c < d := by
  simp only [isDig, Bool.and_eq_true, decide_eq_true_eq] at hc hd
  rw [UInt8.lt_iff_toNat_lt]
  unfold dv
  omega
theorem digV_same {s t : List UInt8} (hs : s.all isDig = true) (ht : t.all isDig = true) (h : s.length = t.length) : digV s < digV t ↔ s < t := by
  induction s generalizing t with
  | nil =>
    cases t with
    | nil => simp
    | cons c t => simp at h
  | cons c s ih =>
    cases t with
    | nil => simp at h
    | cons d t =>
      rw [List.all_cons, Bool.and_eq_true] at hs ht
      have hl : s.length = t.length := by simpa using h
      have i1 := ih hs.2 ht.2 hl
      have b1 := digV_lt s hs.2
      have b2 := digV_lt t ht.2
      rw [List.cons_lt_cons_iff, digV_cons, digV_cons, ← i1, hl]
      rw [hl] at b1
      have hcd := dv_lt hs.1 ht.1
      by_cases e : c = d
      · subst e
        simp
      · have hne : dv c ≠ dv d := fun e' => e (by
          simp only [isDig, Bool.and_eq_true, decide_eq_true_eq] at hs ht
          apply UInt8.toNat.inj
          have h1 := hs.1
          have h2 := ht.1
          unfold dv at e'
          omega)
        constructor
        · intro hlt
          refine .inl (hcd.1 ?_)
          rcases Nat.lt_or_ge (dv c) (dv d) with h1 | h1
          · exact h1
          · exfalso
            have : (dv d + 1) * 10 ^ t.length ≤ dv c * 10 ^ t.length := Nat.mul_le_mul_right _ (by omega)
            rw [Nat.add_mul] at this
            omega
        · rintro (h1 | ⟨h1, _⟩)
          · have := Nat.mul_le_mul_right (10 ^ t.length) (show dv c + 1 ≤ dv d from hcd.2 h1)
            rw [Nat.add_mul] at this
            omega
          · exact absurd h1 e
end Go.Proofs.YtjcbohbpkodkoaaGreatDoor.Num
namespace Go.Proofs.YtjcbohbpkodkoaaGreatDoor.Num

/-- a comparison: -1, 0, 1 -/
structure Cmp {α : Type} (c : α → α → Int) : Prop where
  rng : ∀ a b, c a b = -1 ∨ c a b = 0 ∨ c a b = 1
  anti : ∀ a b, c b a = - c a b
  eqv : ∀ a b d, c a b = 0 → c a d = c b d
  tr : ∀ a b d, c a b = -1 → c b d = -1 → c a d = -1
namespace Cmp
variable {α β : Type} {c c1 c2 : α → α → Int}
theorem self (h : Cmp c) (a : α) : c a a = 0 := by have := h.anti a a; omega
theorem eqv' (h : Cmp c) (a b d : α) (e : c a b = 0) : c d a = c d b := by
  rw [h.anti a d, h.anti b d, h.eqv a b d e]
theorem pull (h : Cmp c) (f : β → α) : Cmp fun x y => c (f x) (f y) :=
  ⟨fun _a _b => h.rng _ _, fun _a _b => h.anti _ _, fun _a _b _d => h.eqv _ _ _, fun _a _b _d => h.tr _ _ _⟩
theorem ge (h : Cmp c) (a b d : α) (h1 : c a b = 1) (h2 : c b d = 1) : c a d = 1 := by
  have e1 : c b a = -1 := by rw [h.anti a b, h1]
  have e2 : c d b = -1 := by rw [h.anti b d, h2]
  have := h.tr _ _ _ e2 e1
  rw [h.anti d a, this]; rfl
end Cmp
/-- the first one, else the second one -/
def orC {α : Type} (c1 c2 : α → α → Int) (a b : α) : Int := if c1 a b ≠ 0 then c1 a b else c2 a b
theorem Cmp.or {α : Type} {c1 c2 : α → α → Int} (h1 : Cmp c1) (h2 : Cmp c2) : Cmp (orC c1 c2) := by
  refine ⟨fun a b => ?_, fun a b => ?_, fun a b d h => ?_, fun a b d e f => ?_⟩
  · unfold orC; split
    · exact h1.rng a b
    · exact h2.rng a b
  · have := h1.anti a b
    unfold orC
    by_cases e : c1 a b = 0
    · rw [if_neg (by omega), if_neg (by omega), h2.anti]
    · rw [if_pos (by omega), if_pos (by omega), this]
  · have e1 : c1 a b = 0 := by
      unfold orC at h; split at h
      · exact h
      · omega
    have e2 : c2 a b = 0 := by
      unfold orC at h; rw [if_neg (by omega)] at h; exact h
    unfold orC
    rw [h1.eqv a b d e1, h2.eqv a b d e2]
  · unfold orC at *
    by_cases e1 : c1 a b = 0
    · rw [if_neg (by omega)] at e
      rw [h1.eqv a b d e1]
      by_cases e2 : c1 b d = 0
      · rw [if_neg (by omega)] at f ⊢
        exact h2.tr _ _ _ e f
      · rw [if_pos e2] at f ⊢
        exact f
    · rw [if_pos e1] at e
      by_cases e2 : c1 b d = 0
      · have := h1.eqv' b d a e2
        rw [← this, if_pos (by omega)]; exact e
      · rw [if_pos e2] at f
        have := h1.tr _ _ _ e f
        rw [if_pos (by omega)]; exact this
theorem orC_zero {α : Type} {c1 c2 : α → α → Int} {a b : α} : orC c1 c2 a b = 0 ↔ c1 a b = 0 ∧ c2 a b = 0 := by
  unfold orC; split
  · constructor
    · intro h; omega
    · intro h; exact h.1
  · constructor
    · intro h; exact ⟨by omega, h⟩
    · intro h; exact h.2
def cmpI (a b : Int) : Int := if a < b then -1 else if b < a then 1 else 0
theorem cmpI_cmp : Cmp cmpI := by
  refine ⟨fun a b => ?_, fun a b => ?_, fun a b d h => ?_, fun a b d e f => ?_⟩
  · unfold cmpI; split
    · exact .inl rfl
    · split
      · exact .inr (.inr rfl)
      · exact .inr (.inl rfl)
  · unfold cmpI; split <;> split <;> (try split) <;> omega
  · have : a = b := by unfold cmpI at h; split at h; · omega
                       · split at h <;> omega
    rw [this]
  · have e' : a < b := by unfold cmpI at e; split at e; · assumption
                          · split at e <;> omega
    have f' : b < d := by unfold cmpI at f; split at f; · assumption
                          · split at f <;> omega
    unfold cmpI; rw [if_pos (by omega)]
theorem cmpI_zero {a b : Int} : cmpI a b = 0 ↔ a = b := by
  unfold cmpI; split
  · constructor <;> omega
  · split <;> constructor <;> omega
def cmpS (a b : List UInt8) : Int := if a < b then -1 else if b < a then 1 else 0
theorem lt_asymm' {a b : List UInt8} (h : a < b) : ¬ b < a := fun h' => List.lt_irrefl a (List.lt_trans h h')
theorem lt_tri (a b : List UInt8) (h1 : ¬ a < b) (h2 : ¬ b < a) : a = b := List.le_antisymm (List.not_lt.1 h2) (List.not_lt.1 h1)
theorem cmpS_lt {a b : List UInt8} : cmpS a b = -1 ↔ a < b := by
  unfold cmpS; split
  · rename_i h; exact ⟨fun _ => h, fun _ => rfl⟩
  · rename_i h; split
    · exact ⟨fun e => by omega, fun e => absurd e h⟩
    · exact ⟨fun e => by omega, fun e => absurd e h⟩
theorem cmpS_zero {a b : List UInt8} : cmpS a b = 0 ↔ a = b := by
  unfold cmpS; split
  · rename_i h; exact ⟨fun e => by omega, fun e => by subst e; exact absurd h (List.lt_irrefl _)⟩
  · rename_i h; split
    · rename_i h'; exact ⟨fun e => by omega, fun e => by subst e; exact absurd h' (List.lt_irrefl _)⟩
    · rename_i h'; exact ⟨fun _ => lt_tri _ _ h h', fun _ => rfl⟩
theorem cmpS_cmp : Cmp cmpS := by
  refine ⟨fun a b => ?_, fun a b => ?_, fun a b d h => ?_, fun a b d e f => ?_⟩
  · unfold cmpS; split
    · exact .inl rfl
    · split
      · exact .inr (.inr rfl)
      · exact .inr (.inl rfl)
  · unfold cmpS
    by_cases h1 : a < b
    · have h2 := lt_asymm' h1
      simp [h1, h2]
    · by_cases h2 : b < a
      · simp [h1, h2]
      · simp [h1, h2]
  · rw [cmpS_zero.1 h]
  · exact cmpS_lt.2 (List.lt_trans (cmpS_lt.1 e) (cmpS_lt.1 f))
/-- a line: account, currency, amount -/
abbrev Ln := List UInt8 × List UInt8 × List UInt8
/-- an entry: day, cause, lines -/
abbrev En := Int × List UInt8 × List Ln
abbrev Ky := List UInt8 × List UInt8
def key (l : Ln) : Ky := (l.1, l.2.1)
def cmpKy : Ky → Ky → Int := orC (fun a b => cmpS a.1 b.1) (fun a b => cmpS a.2 b.2)
theorem cmpKy_cmp : Cmp cmpKy := (cmpS_cmp.pull Prod.fst).or (cmpS_cmp.pull Prod.snd)
theorem cmpKy_zero {a b : Ky} : cmpKy a b = 0 ↔ a = b := by
  unfold cmpKy; rw [orC_zero, cmpS_zero, cmpS_zero]
  exact ⟨fun h => Prod.ext h.1 h.2, fun h => by rw [h]; exact ⟨rfl, rfl⟩⟩
def cmpK (a b : Ln) : Int := cmpKy (key a) (key b)
theorem cmpK_cmp : Cmp cmpK := cmpKy_cmp.pull key
def cmpV (a b : List UInt8) : Int := cmpI (val a) (val b)
def cmpL : Ln → Ln → Int := orC cmpK (fun a b => cmpV a.2.2 b.2.2)
theorem cmpL_cmp : Cmp cmpL := cmpK_cmp.or (cmpI_cmp.pull fun a : Ln => val a.2.2)
/-- lists, by their elements, then by their lengths -/
def cmpLs {α : Type} (c : α → α → Int) : List α → List α → Int
  | [], [] => 0
  | [], _ :: _ => -1
  | _ :: _, [] => 1
  | x :: xs, y :: ys => if c x y ≠ 0 then c x y else cmpLs c xs ys
theorem cmpLs_cmp {α : Type} {c : α → α → Int} (h : Cmp c) : Cmp (cmpLs c) := by
  refine ⟨fun a => ?_, fun a => ?_, fun a => ?_, fun a => ?_⟩
  · induction a with
    | nil => intro b; cases b <;> simp [cmpLs]
    | cons x xs ih =>
      intro b
      cases b with
      | nil => simp [cmpLs]
      | cons y ys =>
        unfold cmpLs; split
        · exact h.rng x y
        · exact ih ys
  · induction a with
    | nil => intro b; cases b <;> simp [cmpLs]
    | cons x xs ih =>
      intro b
      cases b with
      | nil => simp [cmpLs]
      | cons y ys =>
        have := h.anti x y
        unfold cmpLs
        by_cases e : c x y = 0
        · rw [if_neg (by omega), if_neg (by omega)]; exact ih ys
        · rw [if_pos (by omega), if_pos (by omega)]; exact this
  · induction a with
    | nil => intro b d e; cases b <;> simp [cmpLs] at e ⊢
    | cons x xs ih =>
      intro b d e
      cases b with
      | nil => simp [cmpLs] at e
      | cons y ys =>
        have e1 : c x y = 0 := by
          unfold cmpLs at e; split at e
          · exact e
          · omega
        have e2 : cmpLs c xs ys = 0 := by
          unfold cmpLs at e; rw [if_neg (by omega)] at e; exact e
        cases d with
        | nil => simp [cmpLs]
        | cons z zs => unfold cmpLs; rw [h.eqv x y z e1, ih ys zs e2]
  · induction a with
    | nil =>
      intro b d e f
      cases d with
      | nil => cases b <;> simp [cmpLs] at e f
      | cons z zs => simp [cmpLs]
    | cons x xs ih =>
      intro b d e f
      cases b with
      | nil => simp [cmpLs] at e
      | cons y ys =>
        cases d with
        | nil => simp [cmpLs] at f
        | cons z zs =>
          unfold cmpLs at e f ⊢
          by_cases e1 : c x y = 0
          · rw [if_neg (by omega)] at e
            rw [h.eqv x y z e1]
            by_cases e2 : c y z = 0
            · rw [if_neg (by omega)] at f ⊢
              exact ih _ _ e f
            · rw [if_pos e2] at f ⊢; exact f
          · rw [if_pos e1] at e
            by_cases e2 : c y z = 0
            · rw [← h.eqv' y z x e2, if_pos (by omega)]; exact e
            · rw [if_pos e2] at f
              have := h.tr _ _ _ e f
              rw [if_pos (by omega)]; exact this
def cmpE : En → En → Int := orC (fun a b => cmpI a.1 b.1) (orC (fun a b => cmpS a.2.1 b.2.1) (fun a b => cmpLs cmpL a.2.2 b.2.2))
theorem cmpE_cmp : Cmp cmpE := (cmpI_cmp.pull Prod.fst).or ((cmpS_cmp.pull fun a : En => a.2.1).or ((cmpLs_cmp cmpL_cmp).pull fun a : En => a.2.2))
/-- the amount is canonical -/
def canB (l : Ln) : Bool := decide (can l.2.2 = l.2.2)
theorem canB_txt {l : Ln} (h : canB l = true) : l.2.2 = txt (val l.2.2) := (of_decide_eq_true h).symm
theorem cmpL_zero {a b : Ln} (ha : canB a = true) (hb : canB b = true) : cmpL a b = 0 ↔ a = b := by
  unfold cmpL; rw [orC_zero, cmpK, cmpKy_zero]
  show _ ∧ cmpI _ _ = 0 ↔ _
  rw [cmpI_zero]
  constructor
  · rintro ⟨h1, h2⟩
    have h3 : a.2.2 = b.2.2 := by rw [canB_txt ha, canB_txt hb, h2]
    simp only [key, Prod.mk.injEq] at h1
    exact Prod.ext h1.1 (Prod.ext h1.2 h3)
  · intro h; rw [h]; exact ⟨rfl, rfl⟩
theorem cmpLs_zero {a b : List Ln} (ha : a.all canB = true) (hb : b.all canB = true) : cmpLs cmpL a b = 0 ↔ a = b := by
  induction a generalizing b with
  | nil => cases b <;> simp [cmpLs]
  | cons x xs ih =>
    cases b with
    | nil => simp [cmpLs]
    | cons y ys =>
      rw [List.all_cons, Bool.and_eq_true] at ha hb
      have h1 := cmpL_zero ha.1 hb.1
      have h2 := ih ha.2 hb.2
      unfold cmpLs
      by_cases e : cmpL x y = 0
      · rw [if_neg (by omega), h2, List.cons.injEq]
        exact ⟨fun h => ⟨h1.1 e, h⟩, fun h => h.2⟩
      · rw [if_pos e]
        exact ⟨fun h => absurd h e, fun h => by rw [List.cons.injEq] at h; exact h1.2 h.1⟩
theorem cmpE_zero {a b : En} (ha : a.2.2.all canB = true) (hb : b.2.2.all canB = true) : cmpE a b = 0 ↔ a = b := by
  unfold cmpE; rw [orC_zero, orC_zero, cmpI_zero, cmpS_zero, cmpLs_zero ha hb]
  exact ⟨fun h => Prod.ext h.1 (Prod.ext h.2.1 h.2.2), fun h => by rw [h]; exact ⟨rfl, rfl, rfl⟩⟩

/-- the sum of the lines of an account in a currency -/
def tot (ls : List Ln) (k : Ky) : Int := (ls.map fun l => if key l = k then val l.2.2 else 0).sum
/-- the sum of the lines in a currency -/
def curT (ls : List Ln) (c : List UInt8) : Int := (ls.map fun l => if l.2.1 = c then val l.2.2 else 0).sum
def balB (ls : List Ln) : Bool := ls.all fun l => decide (curT ls l.2.1 = 0)
theorem tot_append (a b : List Ln) (k : Ky) : tot (a ++ b) k = tot a k + tot b k := by simp [tot]
theorem curT_append (a b : List Ln) (c : List UInt8) : curT (a ++ b) c = curT a c + curT b c := by simp [curT]
theorem tot_snoc (a : List Ln) (l : Ln) (k : Ky) : tot (a ++ [l]) k = tot a k + if key l = k then val l.2.2 else 0 := by simp [tot]
theorem curT_snoc (a : List Ln) (l : Ln) (c : List UInt8) : curT (a ++ [l]) c = curT a c + if l.2.1 = c then val l.2.2 else 0 := by simp [curT]
theorem tot_nil (k : Ky) : tot [] k = 0 := rfl
theorem tot_cons (l : Ln) (a : List Ln) (k : Ky) : tot (l :: a) k = (if key l = k then val l.2.2 else 0) + tot a k := by simp [tot]
theorem curT_cons (l : Ln) (a : List Ln) (c : List UInt8) : curT (l :: a) c = (if l.2.1 = c then val l.2.2 else 0) + curT a c := by simp [curT]
theorem tot_none {ls : List Ln} {k : Ky} (h : ∀ l ∈ ls, key l ≠ k) : tot ls k = 0 := by
  induction ls with
  | nil => rfl
  | cons l ls ih => rw [tot_cons, if_neg (h l (by simp)), ih fun x hx => h x (by simp [hx])]; rfl
theorem curT_none {ls : List Ln} {c : List UInt8} (h : ∀ l ∈ ls, l.2.1 ≠ c) : curT ls c = 0 := by
  induction ls with
  | nil => rfl
  | cons l ls ih => rw [curT_cons, if_neg (h l (by simp)), ih fun x hx => h x (by simp [hx])]; rfl
theorem tot_filter (ls : List Ln) (k k' : Ky) : tot (ls.filter fun l => decide (key l ≠ k)) k' = if k' = k then 0 else tot ls k' := by
  induction ls with
  | nil => simp [tot]
  | cons l ls ih =>
    rw [List.filter_cons]
    by_cases h : key l = k
    · rw [if_neg (by simp [h]), ih, tot_cons]
      by_cases e : k' = k
      · rw [if_pos e, if_pos e]
      · rw [if_neg e, if_neg e, if_neg (fun e' => e (by rw [← e', h]))]; omega
    · rw [if_pos (by simp [h]), tot_cons, ih, tot_cons]
      by_cases e : k' = k
      · rw [if_pos e, if_pos e, if_neg (by rw [e]; exact h)]; rfl
      · rw [if_neg e, if_neg e]
theorem curT_filter (ls : List Ln) (k : Ky) (c : List UInt8) : curT (ls.filter fun l => decide (key l ≠ k)) c = curT ls c - if k.2 = c then tot ls k else 0 := by
  induction ls with
  | nil => simp [curT, tot]
  | cons l ls ih =>
    rw [List.filter_cons]
    by_cases h : key l = k
    · rw [if_neg (by simp [h]), ih, curT_cons, tot_cons, if_pos h]
      have : l.2.1 = k.2 := by rw [← h]; rfl
      rw [this]
      by_cases e : k.2 = c
      · rw [if_pos e, if_pos e, if_pos e]; omega
      · rw [if_neg e, if_neg e, if_neg e]; omega
    · rw [if_pos (by simp [h]), curT_cons, ih, curT_cons, tot_cons, if_neg h]
      split <;> split <;> omega
theorem curT_zero (ls : List Ln) (h : ∀ k, tot ls k = 0) (c : List UInt8) : curT ls c = 0 := by
  induction hn : ls.length using Nat.strongRecOn generalizing ls with
  | _ n ih =>
    cases ls with
    | nil => rfl
    | cons l r =>
      have h1 := curT_filter (l :: r) (key l) c
      have hlt : ((l :: r).filter fun x => decide (key x ≠ key l)).length < n := by
        rw [List.filter_cons, if_neg (by simp)]
        have := List.length_filter_le (fun x => decide (key x ≠ key l)) r
        simp at hn
        omega
      have h2 := ih _ hlt ((l :: r).filter fun x => decide (key x ≠ key l)) (fun k => by
        rw [tot_filter]
        split
        · rfl
        · exact h k) rfl
      rw [h2, h (key l)] at h1
      split at h1 <;> omega
/-- the lines with the opposite amounts -/
def oppL (l : Ln) : Ln := (l.1, l.2.1, txt (- val l.2.2))
theorem tot_opp (ls : List Ln) (k : Ky) : tot (ls.map oppL) k = - tot ls k := by
  induction ls with
  | nil => rfl
  | cons l ls ih =>
    rw [List.map_cons, tot_cons, tot_cons, ih]
    show (if key l = k then val (txt (- val l.2.2)) else 0) + _ = _
    rw [val_txt]; split <;> omega
theorem curT_opp (ls : List Ln) (c : List UInt8) : curT (ls.map oppL) c = - curT ls c := by
  induction ls with
  | nil => rfl
  | cons l ls ih =>
    rw [List.map_cons, curT_cons, curT_cons, ih]
    show (if l.2.1 = c then val (txt (- val l.2.2)) else 0) + _ = _
    rw [val_txt]; split <;> omega
theorem curT_of_tot {a b : List Ln} (h : ∀ k, tot a k = tot b k) (c : List UInt8) : curT a c = curT b c := by
  have := curT_zero (a ++ b.map oppL) (fun k => by rw [tot_append, tot_opp, h k]; omega) c
  rw [curT_append, curT_opp] at this
  omega
theorem balB_iff {ls : List Ln} : balB ls = true ↔ ∀ c, curT ls c = 0 := by
  unfold balB
  rw [List.all_eq_true]
  constructor
  · intro h c
    by_cases e : ∃ l ∈ ls, l.2.1 = c
    · obtain ⟨l, hl, rfl⟩ := e
      exact of_decide_eq_true (h l hl)
    · exact curT_none fun l hl e' => e ⟨l, hl, e'⟩
  · intro h l _
    exact decide_eq_true (h _)
theorem balB_of_tot {a b : List Ln} (h : ∀ k, tot a k = tot b k) : balB a = balB b := by
  rw [Bool.eq_iff_iff, balB_iff, balB_iff]
  exact ⟨fun hh c => by rw [← curT_of_tot h c]; exact hh c, fun hh c => by rw [curT_of_tot h c]; exact hh c⟩
/-- lines in order of their keys -/
def OrdL (ls : List Ln) : Prop := ls.Pairwise fun a b => cmpK a b = -1
/-- out is the normal form of ls -/
structure NormOf (ls out : List Ln) : Prop where
  ord : OrdL out
  amt : ∀ x ∈ out, canB x = true ∧ x.2.2 ≠ []
  tot : ∀ k, tot out k = tot ls k
theorem cmpK_key {a b : Ln} (h : cmpK a b = -1) : key a ≠ key b := fun e => by
  have : cmpK a b = 0 := cmpKy_zero.2 e
  omega
theorem OrdL.keys {ls : List Ln} (h : OrdL ls) : ls.Pairwise fun a b => key a ≠ key b := h.imp cmpK_key
theorem tot_mem {ls : List Ln} (h : ls.Pairwise fun a b => key a ≠ key b) {x : Ln} (hx : x ∈ ls) : tot ls (key x) = val x.2.2 := by
  induction ls with
  | nil => cases hx
  | cons l ls ih =>
    rw [List.pairwise_cons] at h
    rcases List.mem_cons.1 hx with rfl | hx
    · rw [tot_cons, if_pos rfl, tot_none fun y hy e => h.1 y hy e.symm]; omega
    · rw [tot_cons, if_neg (h.1 x hx), ih h.2 hx]; omega
theorem val_ne {a : List UInt8} (h : can a = a) (hne : a ≠ []) : val a ≠ 0 := fun e => hne (by rw [← h, can, e, txt_zero])
theorem NormOf.mem {ls out : List Ln} (h : NormOf ls out) (x : Ln) : x ∈ out ↔ x.2.2 = txt (YtjcbohbpkodkoaaGreatDoor.Num.tot ls (key x)) ∧ YtjcbohbpkodkoaaGreatDoor.Num.tot ls (key x) ≠ 0 := by
  constructor
  · intro hx
    obtain ⟨h1, h2⟩ := h.amt x hx
    have h3 := tot_mem h.ord.keys hx
    rw [← h.tot, h3]
    exact ⟨canB_txt h1, val_ne (of_decide_eq_true h1) h2⟩
  · rintro ⟨h1, h2⟩
    rw [← h.tot] at h2
    by_cases e : ∃ y ∈ out, key y = key x
    · obtain ⟨y, hy, ek⟩ := e
      have h3 := tot_mem h.ord.keys hy
      have h4 := canB_txt (h.amt y hy).1
      rw [ek, h.tot] at h3
      have : y = x := by
        simp only [key, Prod.mk.injEq] at ek
        exact Prod.ext ek.1 (Prod.ext ek.2 (by rw [h4, ← h3, h1]))
      rw [← this]; exact hy
    · exact absurd (tot_none fun y hy ek => e ⟨y, hy, ek⟩) h2
theorem ord_ext {α : Type} {c : α → α → Int} (hc : Cmp c) {a b : List α} (ha : a.Pairwise fun x y => c x y = -1) (hb : b.Pairwise fun x y => c x y = -1) (h : ∀ x, x ∈ a ↔ x ∈ b) : a = b := by
  induction a generalizing b with
  | nil =>
    cases b with
    | nil => rfl
    | cons y ys => exact absurd ((h y).2 (by simp)) (by simp)
  | cons x xs ih =>
    cases b with
    | nil => exact absurd ((h x).1 (by simp)) (by simp)
    | cons y ys =>
      rw [List.pairwise_cons] at ha hb
      have hxy : x = y := by
        rcases List.mem_cons.1 ((h x).1 (by simp)) with e | e
        · exact e
        · rcases List.mem_cons.1 ((h y).2 (by simp)) with e' | e'
          · exact e'.symm
          · have h1 := hb.1 x e
            have h2 := ha.1 y e'
            have := hc.tr _ _ _ h1 h2
            rw [hc.self] at this; omega
      subst hxy
      congr 1
      refine ih ha.2 hb.2 fun z => ?_
      have hz := h z
      rw [List.mem_cons, List.mem_cons] at hz
      constructor
      · intro hm
        rcases hz.1 (.inr hm) with e | e
        · subst e; have := ha.1 z hm; rw [hc.self] at this; omega
        · exact e
      · intro hm
        rcases hz.2 (.inr hm) with e | e
        · subst e; have := hb.1 z hm; rw [hc.self] at this; omega
        · exact e
theorem NormOf.uniq {ls a b : List Ln} (ha : NormOf ls a) (hb : NormOf ls b) : a = b :=
  ord_ext cmpK_cmp ha.ord hb.ord fun x => by rw [ha.mem, hb.mem]
end Go.Proofs.YtjcbohbpkodkoaaGreatDoor.Num

/- Slices of groups in memory; contracts of cut and compare. -/
namespace Go.Proofs.YtjcbohbpkodkoaaGreatDoor
open Go.RowKit

/-- The slice value '.slice A n c' reads as the groups ns in w. -/
structure Mag (w : World) (A : Option Addr) (n c : Nat) (ns : List Nat) : Prop where
  len : ns.length = n
  cap : n ≤ c
  top : c ≤ maxLen
  lt : ∀ g ∈ ns, g < Num.base
  at_ : 0 < n → ∃ b o, A = some ⟨b, o, none⟩ ∧ b < w.heap.size ∧ ∀ k, k < n → w.cell? ⟨b, o + k, none⟩ = some (.int .u64 ((ns.getD k 0 : Nat) : Int))
theorem Mag.below {w w' : World} {A : Option Addr} {n c : Nat} {ns : List Nat} (h : Mag w A n c ns) (hb : Below w.heap.size w w') : Mag w' A n c ns :=
  ⟨h.len, h.cap, h.top, h.lt, fun h0 => by
    obtain ⟨b, o, e, hlt, hc⟩ := h.at_ h0
    exact ⟨b, o, e, Nat.lt_of_lt_of_le hlt hb.size, fun k hk => by rw [hb.cell (by simpa using hlt)]; exact hc k hk⟩⟩
theorem Mag.take {w : World} {A : Option Addr} {n c : Nat} {ns : List Nat} (h : Mag w A n c ns) (k : Nat) (hk : k ≤ n) : Mag w A k c (ns.take k) :=
  ⟨by rw [List.length_take, h.len]; omega, Nat.le_trans hk h.cap, h.top, fun g hg => h.lt g (List.mem_of_mem_take hg), fun h0 => by
    obtain ⟨b, o, e, hlt, hc⟩ := h.at_ (by omega)
    exact ⟨b, o, e, hlt, fun j hj => by
      rw [hc j (by omega), List.getD_eq_getElem?_getD, List.getD_eq_getElem?_getD, List.getElem?_take, if_pos hj]⟩⟩
theorem Mag.nil (w : World) : Mag w none 0 0 [] := ⟨rfl, Nat.le_refl _, by omega, fun g h => by simp at h, fun h => by omega⟩
theorem cutM_take (ns : List Nat) : Num.cutM ns = ns.take (Num.cutM ns).length := by
  induction hn : ns.length generalizing ns with
  | zero =>
    have e : ns = [] := List.eq_nil_of_length_eq_zero hn
    subst e; rfl
  | succ n ih =>
    obtain ⟨a, g, rfl⟩ : ∃ t c, ns = t ++ [c] := by
      have hne : ns ≠ [] := fun e => by rw [e] at hn; cases hn
      exact ⟨ns.dropLast, ns.getLast hne, (List.dropLast_concat_getLast hne).symm⟩
    rw [Num.cutM_snoc]
    split
    · have h1 := ih a (by simpa using hn)
      have h2 : (Num.cutM a).length ≤ a.length := by
        have := congrArg List.length h1
        rw [List.length_take] at this; omega
      rw [List.take_append_of_le_length h2]; exact h1
    · rw [List.take_length]
theorem cutM_len (ns : List Nat) : (Num.cutM ns).length ≤ ns.length := by
  have := congrArg List.length (cutM_take ns)
  rw [List.length_take] at this; omega
theorem Mag.cut {w : World} {A : Option Addr} {n c : Nat} {ns : List Nat} (h : Mag w A n c ns) : Mag w A (Num.cutM ns).length c (Num.cutM ns) := by
  have := h.take (Num.cutM ns).length (by rw [← h.len]; exact cutM_len ns)
  rwa [← cutM_take] at this
theorem cut_step (ns : List Nat) (k : Nat) (hk : k < ns.length) : Num.cutM (ns.take (k + 1)) = if ns.getD k 0 = 0 then Num.cutM (ns.take k) else ns.take (k + 1) := by
  rw [List.take_succ_eq_append_getElem hk, Num.cutM_snoc, List.getD_eq_getElem?_getD, List.getElem?_eq_getElem hk]; rfl
theorem getD_lt {m : List Nat} (h : ∀ g ∈ m, g < Num.base) (i : Nat) : m.getD i 0 < 1000000000 := Num.getD_lt h i
set_option maxRecDepth 100000 in
theorem cut_any (A : Option Addr) (n c : Nat) (ns : List Nat) (w : World) (h : Mag w A n c ns) :
    Calls Tryz.prog 138 #[.slice A n c] w fun e w' => e = .returned (.slice A (Num.cutM ns).length c) ∧ w = w' := by
  have hc := h.cap
  have ht := h.top
  unfold maxLen at ht
  have hlen := Lib.hid h.len
  have hat := Lib.hid h.at_
  have hlt := Lib.hid h.lt
  clear h
  go_enter Tryz.func138, Tryz.ntmps138
  go_wp2_with fail
  go_loop [0] (fun v => ∃ k : Nat, k ≤ n ∧ v = .slice A k c ∧ Hid (Num.cutM (ns.take k) = Num.cutM ns)) (fun v => match v with | .slice _ k _ => k | _ => 0)
  case atStart => exact ⟨n, Nat.le_refl _, rfl, by show _ = _; rw [List.take_of_length_le (by rw [hlen.out]; omega)]⟩
  case round =>
    obtain ⟨k, hk, rfl, hcut⟩ := hrel
    rcases Nat.eq_zero_or_pos k with h0 | h0
    · subst h0
      have e0 := Lib.hid (show (Num.cutM ns).length = 0 by rw [← hcut.out, List.take_zero]; rfl)
      have hd : decide ((0 : Int) < ((0 : Nat) : Int)) = false := by simp
      go_wp2_with fail
      go_ret
      exact ⟨by rw [e0.out]; rfl, rfl⟩
    · obtain ⟨j, rfl⟩ : ∃ j, k = j + 1 := ⟨k - 1, by omega⟩
      obtain ⟨b, o, rfl, _, hcell⟩ := hat.out (by omega)
      have hcj := hcell j (by omega)
      have hs := Lib.hid (cut_step ns j (by rw [hlen.out]; omega))
      have hx := getD_lt hlt.out j
      clear hcell
      generalize hg : ns.getD j 0 = x at *
      have HG := Lib.hid hg
      clear hg
      have hd : decide ((0 : Int) < ((j + 1 : Nat) : Int)) = true := by rw [decide_eq_true_iff]; omega
      have hi : ((j + 1 : Nat) : Int) - 1 = (j : Int) := by omega
      by_cases hx0 : x = 0
      · subst hx0
        have hb : (((0 : Nat) : Int) == 0) = true := rfl
        go_wp2_with fail
        go_round
        case rel => exact ⟨j, by omega, by simp, by show _ = _; rw [← hcut.out, hs.out, if_pos rfl]⟩
        case measure => simp
      · have hb : ((x : Int) == 0) = false := beq_eq_false_iff_ne.2 (by omega)
        have e0 := Lib.hid (show (Num.cutM ns).length = j + 1 by rw [← hcut.out, hs.out, if_neg hx0, List.length_take, hlen.out]; omega)
        go_wp2_with fail
        go_ret
        exact ⟨by rw [e0.out]; rfl, rfl⟩
/-- what 'compare' returns: a number whose sign says which one is greater -/
def CmpPost (a b : Nat) (w : World) (e : Ending) (w' : World) : Prop := ∃ c : Int, e = .returned (.int .i64 c) ∧ -4611686018427387904 ≤ c ∧ c ≤ 4611686018427387904 ∧ (c < 0 ↔ a < b) ∧ (0 < c ↔ b < a) ∧ Below w.heap.size w w'
theorem drop_succ_eq {m n : List Nat} (k : Nat) (hm : k < m.length) (hn : k < n.length) (h : m.drop (k + 1) = n.drop (k + 1)) (hx : m.getD k 0 = n.getD k 0) : m.drop k = n.drop k := by
  rw [List.drop_eq_getElem_cons hm, List.drop_eq_getElem_cons hn, h]
  rw [List.getD_eq_getElem?_getD, List.getD_eq_getElem?_getD, List.getElem?_eq_getElem hm, List.getElem?_eq_getElem hn] at hx
  have hx' : m[k] = n[k] := hx
  rw [hx']
theorem mag_at' {m n : List Nat} (k : Nat) (hl : ∀ g ∈ m, g < Num.base) (hm : k < m.length) (hn : k < n.length) (h : m.drop (k + 1) = n.drop (k + 1)) (hx : m.getD k 0 < n.getD k 0) : Num.magV m < Num.magV n := by
  rw [List.getD_eq_getElem?_getD, List.getD_eq_getElem?_getD, List.getElem?_eq_getElem hm, List.getElem?_eq_getElem hn] at hx
  exact Num.mag_at k hl hm hn h hx
def topOk (m : List Nat) : Prop := m = [] ∨ m.getLast? ≠ some 0
theorem topOk.ne {m : List Nat} (h : topOk m) : m.getLast? ≠ some 0 := by
  rcases h with h | h
  · rw [h]; simp
  · exact h
theorem below_dr {B : Nat} {w W : World} (h : Below B w W) (n : Nat) : Below B w (W.drewN n) := h.trans ⟨rfl, rfl, rfl, Nat.le_refl _, fun _ _ => rfl⟩
set_option maxRecDepth 100000 in
set_option maxHeartbeats 1000000 in
theorem compare_any (A B : Option Addr) (n c p d : Nat) (ms ns : List Nat) (w : World) (hm : Mag w A n c ms) (hn : Mag w B p d ns) (tm : topOk ms) (tn : topOk ns) (hc : n ≤ 1000) (hd : p ≤ 1000) :
    Calls Tryz.prog 101 #[.slice A n c, .slice B p d] w (CmpPost (Num.magV ms) (Num.magV ns) w) := by
  have hnc := hm.cap
  have hpd := hn.cap
  have lm := Lib.hid hm.len
  have ln := Lib.hid hn.len
  rcases Nat.lt_trichotomy n p with hlt | rfl | hlt
  · have hv := Lib.hid (Num.mag_longer hm.lt tn.ne (by rw [lm.out, ln.out]; exact hlt))
    clear hm hn
    have hb : ((n : Int) != (p : Int)) = true := by rw [bne_iff_ne]; omega
    go_enter Tryz.func101, Tryz.ntmps101
    go_wp2_with fail
    go_ret
    have := hv.out
    exact ⟨(n : Int) - (p : Int), rfl, by omega, by omega, by omega, by omega, Below.refl _ _⟩
  · have hbe : ((n : Int) != (n : Int)) = false := by rw [bne_eq_false_iff_eq]
    have HA := Lib.hid hm.at_
    have HB := Lib.hid hn.at_
    have l1 := Lib.hid hm.lt
    have l2 := Lib.hid hn.lt
    clear hm hn
    go_enter Tryz.func101, Tryz.ntmps101
    go_wp2_with fail
    go_loopw [5, 19, 20, 21, 22, 23, 33] (fun i _ _ _ _ _ _ wr => ∃ (k : Nat), k ≤ n ∧ i = .int .i64 ((k : Int) - 1) ∧ Below w.heap.size w wr ∧ Hid (ms.drop k = ns.drop k)) (fun i _ _ _ _ _ _ _ => (intOf i + 1).toNat)
    case atStart => exact ⟨n, Nat.le_refl _, rfl, Below.refl _ _, by show _ = _; rw [List.drop_of_length_le (by rw [lm.out]; omega), List.drop_of_length_le (by rw [ln.out]; omega)]⟩
    case round =>
      obtain ⟨k, hk, rfl, hwq, hdr⟩ := hrel
      rcases Nat.eq_zero_or_pos k with h0 | h0
      · subst h0
        have he := Lib.hid (show Num.magV ms = Num.magV ns by have := hdr.out; rw [List.drop_zero, List.drop_zero] at this; rw [this])
        have HW := Lib.hid hwq
        clear hwq
        have hd0 : decide ((0 : Int) ≤ ((0 : Nat) : Int) - 1) = false := by decide
        go_wp2_with fail
        go_ret
        have := he.out
        exact ⟨0, rfl, by omega, by omega, by omega, by omega, HW.out⟩
      · obtain ⟨j, rfl⟩ : ∃ j, k = j + 1 := ⟨k - 1, by omega⟩
        obtain ⟨b1, o1, rfl, hb1, c1⟩ := HA.out (by omega)
        obtain ⟨b2, o2, rfl, hb2, c2⟩ := HB.out (by omega)
        have r1 : wr.cell? ⟨b1, o1 + j, none⟩ = some (.int .u64 ((ms.getD j 0 : Nat) : Int)) := by rw [hwq.cell (by simpa using hb1)]; exact c1 j (by omega)
        have r2 : wr.cell? ⟨b2, o2 + j, none⟩ = some (.int .u64 ((ns.getD j 0 : Nat) : Int)) := by rw [hwq.cell (by simpa using hb2)]; exact c2 j (by omega)
        have x1 := getD_lt l1.out j
        have x2 := getD_lt l2.out j
        have e1 := Lib.hid (fun h => drop_succ_eq (m := ms) (n := ns) j (by rw [lm.out]; omega) (by rw [ln.out]; omega) hdr.out h)
        have e2 := Lib.hid (fun h => mag_at' (m := ms) (n := ns) j l1.out (by rw [lm.out]; omega) (by rw [ln.out]; omega) hdr.out h)
        have e3 := Lib.hid (fun h => mag_at' (m := ns) (n := ms) j l2.out (by rw [ln.out]; omega) (by rw [lm.out]; omega) hdr.out.symm h)
        have HW := Lib.hid hwq
        clear c1 c2 hwq
        generalize ms.getD j 0 = x at *
        generalize ns.getD j 0 = y at *
        have hij : ((j + 1 : Nat) : Int) - 1 = (j : Int) := by omega
        have hd0 : decide ((0 : Int) ≤ (j : Int)) = true := by rw [decide_eq_true_iff]; omega
        rw [hij]
        have hjn : (j : Int) < (n : Int) := by omega
        have hj0 : (0 : Int) ≤ (j : Int) := by omega
        rcases Nat.lt_trichotomy x y with hxy | rfl | hxy
        · have t1 : decide ((x : Int) < (y : Int)) = true := by rw [decide_eq_true_iff]; omega
          go_wp2_with fail
          go_quiet (fail)
          go_wp2_with fail
          go_ret
          have := e2.out hxy
          exact ⟨-1, rfl, by omega, by omega, by omega, by omega, below_dr HW.out _⟩
        · have t1 : decide ((x : Int) < (x : Int)) = false := by rw [decide_eq_false_iff_not]; omega
          go_wp2_with fail
          go_quiet (fail)
          go_wp2_with fail
          go_quiet (fail)
          go_wp2_with fail
          go_roundw
          case rel => exact ⟨j, by omega, by go_num, below_dr HW.out _, e1.out trivial⟩
          case measure => simp [intOf]
        · have t1 : decide ((x : Int) < (y : Int)) = false := by rw [decide_eq_false_iff_not]; omega
          have t2 : decide ((y : Int) < (x : Int)) = true := by rw [decide_eq_true_iff]; omega
          go_wp2_with fail
          go_quiet (fail)
          go_wp2_with fail
          go_quiet (fail)
          go_wp2_with fail
          go_ret
          have := e3.out hxy
          exact ⟨1, rfl, by omega, by omega, by omega, by omega, below_dr (below_dr HW.out _) _⟩
  · have hv := Lib.hid (Num.mag_longer hn.lt tm.ne (by rw [lm.out, ln.out]; exact hlt))
    clear hm hn
    have hb : ((n : Int) != (p : Int)) = true := by rw [bne_iff_ne]; omega
    go_enter Tryz.func101, Tryz.ntmps101
    go_wp2_with fail
    go_ret
    have := hv.out
    exact ⟨(n : Int) - (p : Int), rfl, by omega, by omega, by omega, by omega, Below.refl _ _⟩
end Go.Proofs.YtjcbohbpkodkoaaGreatDoor

/- Slices of groups of the call's own: made, appended to, written cell by cell. -/
namespace Go.Proofs.YtjcbohbpkodkoaaGreatDoor
open Go.RowKit

def U64s (ns : List Nat) : List Value := ns.map fun g : Nat => Value.int .u64 (g : Int)
theorem U64s_len (ns : List Nat) : (U64s ns).length = ns.length := by simp [U64s]
theorem info127 : (Tryz.prog.info? 130).map (fun i => (i.zero, i.size, i.bytes)) = some (some (.int .u64 0), 1, 8) := by kernel_rfl
/-- v is a slice of groups of the call's own (from block B on), with the numbers ns. -/
def OwnU (B : Nat) (w : World) (v : Value) (ns : List Nat) : Prop := w.ownsRow B 130 1 v ns.length (U64s ns)
theorem OwnU.nil (B : Nat) (w : World) : OwnU B w (.slice none 0 0) [] := ⟨by simp [U64s], .inl ⟨rfl, rfl⟩⟩
theorem OwnU.mag {B : Nat} {w : World} {v : Value} {ns : List Nat} (h : OwnU B w v ns) (hl : ∀ g ∈ ns, g < Num.base) : ∃ A c, v = .slice A ns.length c ∧ Mag w A ns.length c ns ∧ ∀ ad : Addr, A = some ad → B ≤ ad.block := by
  rcases h.2 with ⟨rfl, h0⟩ | ⟨g, cap, cur, rfl, hB, hg, hc, hm, hsz, htake⟩
  · have : ns = [] := List.eq_nil_of_length_eq_zero h0
    subst this
    exact ⟨none, 0, rfl, Mag.nil w, fun _ h => by cases h⟩
  · refine ⟨some ⟨g, 0, none⟩, cap, rfl, ⟨rfl, hc, hm, hl, fun _ => ⟨g, 0, rfl, ?_, fun k hk => ?_⟩⟩, fun ad h => by cases h; exact hB⟩
    · rcases Nat.lt_or_ge g w.heap.size with h' | h'
      · exact h'
      · rw [Array.getElem?_eq_none h'] at hg; cases hg
    · rw [Nat.zero_add, cell_of_row _ _ _ _ _ _ hg]
      have h1 : (cur.toList.take (ns.length * 1))[k]? = (U64s ns)[k]? := by rw [htake]
      rw [List.getElem?_take, if_pos (by omega)] at h1
      rw [← Array.getElem?_toList, h1]
      simp [U64s, hk]
theorem op_append_u {o : Oper} {a : Act} {K : Act → World → Prop} {Q : Exit → Act → World → Prop} (s x : Operand)
    (ho : o.op = .call { callee := .builtin .append, args := #[s, x], argTypes := #[145, 145] })
    (B : Nat) (v : Value) (ns : List Nat) (w : World) (z : Nat) (hs : a.eval s = v) (hown : OwnU B w v ns) (hx : a.eval x = .slice (some ⟨w.heap.size, 0, none⟩) 1 1)
    (hB : B ≤ w.heap.size) (hn : ns.length + 1 ≤ 1000000)
    (h : ∀ v' w', OwnU B w' v' (ns ++ [z]) → Below B w w' → w.heap.size < w'.heap.size → K (a.put o.dst v') w') : o.wp Tryz.prog a (w.alloc (.cells #[.int .u64 (z : Int)] 130)) K Q := by
  obtain ⟨i0, hi, hz0, hz1, hz2⟩ := info_parts info127
  refine wp_append_own _ s x 145 ho B 130 i0 (.int .u64 0) 1 8 Tryz.underlying145 hi hz0 hz1 hz2 rfl (by decide) v ns.length (U64s ns) hs (World.ownsRow.alloc hown _) ⟨w.heap.size, 0, none⟩ 1 1 (U64s [z]) hx (by simp [U64s]) ?_ ?_ ?_ ?_ ?_ ?_
  · intro j u hu
    have hadd : (⟨w.heap.size, 0, none⟩ : Addr).add j = ⟨w.heap.size, j, none⟩ := by unfold Addr.add; split <;> simp_all
    rw [hadd, cell_of_row _ _ _ _ _ _ (heap_alloc_new w _)]
    simpa [U64s] using hu
  · intro u hu
    simp only [U64s, List.mem_map] at hu
    obtain ⟨z, _, rfl⟩ := hu
    rfl
  · simp only [maxLen]; omega
  · omega
  · simp; omega
  · intro v' w' h2 h3 _
    refine h v' w' ?_ ?_ ?_
    · unfold OwnU
      rw [List.length_append]
      simpa [U64s] using h2
    · have hlt := World.ownsRow.lt hown
      exact ((Below.refl B w).alloc hB _).grown h3 (by simp; omega) (fun k hk => (hlt k hk).1)
    · have := h3.size; simp at this; omega
theorem wp_append_u {ops : Array Oper} {rest : List Oper} {o : Oper} {a : Act} {Q : Exit → Act → World → Prop} (hgd : o.guard = none) (s x : Operand)
    (ho : o.op = .call { callee := .builtin .append, args := #[s, x], argTypes := #[145, 145] })
    (B : Nat) (v : Value) (ns : List Nat) (w : World) (z : Nat) (hs : a.eval s = v) (hown : OwnU B w v ns) (hx : a.eval x = .slice (some ⟨w.heap.size, 0, none⟩) 1 1)
    (hB : B ≤ w.heap.size) (hn : ns.length + 1 ≤ 1000000)
    (h : ∀ v' w', OwnU B w' v' (ns ++ [z]) → Below B w w' → w.heap.size < w'.heap.size → wpList Tryz.prog ops Q rest (a.put o.dst v') w') : wpList Tryz.prog ops Q (o :: rest) a (w.alloc (.cells #[.int .u64 (z : Int)] 130)) :=
  wpList_plain hgd fun _ hK => op_append_u s x ho B v ns w z hs hown hx hB hn fun v' w' h2 h3 h4 => hK _ _ (h v' w' h2 h3 h4)
/-- make([]uint64, n, n + 1) -/
theorem make_u (w : World) (n : Nat) (hn : n ≤ 1000000) : (Instr.makeSlice 145 (.int .i64 (n : Int)) (.int .i64 ((n : Int) + 1))).run Tryz.prog w = .ok (.slice (some ⟨w.heap.size, 0, none⟩) n (n + 1)) (w.alloc (.cells ⟨U64s (List.replicate (n + 1) 0)⟩ 130)) := by
  obtain ⟨i0, hi, hz0, hz1, hz2⟩ := info_parts info127
  have h := run_make (P := Tryz.prog) w 145 130 i0 (.int .u64 0) Tryz.underlying145 hi hz0 .i64 .i64 (n : Int) ((n : Int) + 1) (by omega) (by omega) (by rw [hz2]; omega) (by omega)
  have h9 := h
  clear h
  rw [hz1] at h9
  have e1 : ((n : Int) + 1).toNat = n + 1 := by omega
  rw [e1, Int.toNat_natCast, Nat.mul_one] at h9
  have e2 : madeCells (Value.int .u64 0).cells (n + 1) = ⟨U64s (List.replicate (n + 1) 0)⟩ := ?_
  · rw [h9, e2]
  apply Array.ext
  · simp [madeCells, U64s]
  · intro i h1 h2
    simp [madeCells, U64s, Value.cells, Nat.mod_one]
/-- the block g holds the groups L -/
def Blk (w : World) (g : Nat) (L : List Nat) : Prop := w.heap[g]? = some (.cells (U64s L).toArray 130 (0, 0))
theorem Blk.cell {w : World} {g : Nat} {L : List Nat} (h : Blk w g L) (i : Nat) (hi : i < L.length) : w.cell? ⟨g, i, none⟩ = some (.int .u64 ((L.getD i 0 : Nat) : Int)) := by
  rw [cell_of_row _ _ _ _ _ _ h]
  simp [U64s, hi]
theorem Blk.frozen {w : World} {g : Nat} {L : List Nat} (h : Blk w g L) (i : Nat) : w.frozen? ⟨g, i, none⟩ = false := frozen_of_row _ _ _ _ _ h
theorem Blk.lt {w : World} {g : Nat} {L : List Nat} (h : Blk w g L) : g < w.heap.size := by
  rcases Nat.lt_or_ge g w.heap.size with h' | h'
  · exact h'
  · unfold Blk at h; rw [Array.getElem?_eq_none h'] at h; cases h
theorem Blk.set {w : World} {g : Nat} {L : List Nat} (h : Blk w g L) (i x : Nat) : Blk (w.setCell ⟨g, i, none⟩ (.int .u64 (x : Int))) g (L.set i x) := by
  obtain ⟨hlt, hk⟩ := Array.getElem?_eq_some_iff.1 h
  show (w.heap.modify g _)[g]? = _
  rw [Array.getElem?_eq_getElem (by rw [Array.size_modify]; exact hlt), Array.getElem_modify_self, hk]
  simp [U64s, List.map_set]
theorem Blk.dr {w : World} {g : Nat} {L : List Nat} (h : Blk w g L) (n : Nat) : Blk (w.drewN n) g L := h
theorem Blk.own {w : World} {g B cap : Nat} {L ns : List Nat} (h : Blk w g L) (hB : B ≤ g) (hl : ns.length ≤ cap) (hL : L.length = cap) (hc : cap ≤ maxLen) (ht : L.take ns.length = ns) : OwnU B w (.slice (some ⟨g, 0, none⟩) ns.length cap) ns := by
  refine ⟨by simp [U64s], .inr ⟨g, cap, _, rfl, hB, h, hl, hc, ?_, ?_⟩⟩
  · simp [U64s]; omega
  · simp only [Nat.mul_one]
    show (U64s L).take ns.length = U64s ns
    rw [U64s, ← List.map_take, ht]; rfl
theorem set_at (d r : List Nat) (x y : Nat) (i : Nat) (h : d.length = i) : (d ++ x :: r).set i y = d ++ y :: r := by
  subst h
  rw [List.set_append_right _ _ (Nat.le_refl _)]; simp
theorem getD_at (d r : List Nat) (x : Nat) (i : Nat) (h : d.length = i) : (d ++ x :: r).getD i 0 = x := by
  subst h; simp
theorem drop_getD (m : List Nat) (i : Nat) (h : i < m.length) : m.drop i = m.getD i 0 :: m.drop (i + 1) := by
  rw [List.drop_eq_getElem_cons h, List.getD_eq_getElem?_getD, List.getElem?_eq_getElem h]; rfl
end Go.Proofs.YtjcbohbpkodkoaaGreatDoor

/- Contract of plus. -/
namespace Go.Proofs.YtjcbohbpkodkoaaGreatDoor
open Go.RowKit

/-- a slice of groups whose value is v, of at most k groups -/
def MagPost (v k : Nat) (w : World) (e : Ending) (w' : World) : Prop := ∃ A n c os, e = .returned (.slice A n c) ∧ n ≤ k ∧ Mag w' A n c os ∧ (∀ ad : Addr, A = some ad → w.heap.size ≤ ad.block) ∧ Num.magV os = v ∧ Below w.heap.size w w'
theorem OwnU.post {w W : World} {v : Value} {os : List Nat} {x k : Nat} (h : OwnU w.heap.size W v os) (hl : ∀ g ∈ os, g < Num.base) (hv : Num.magV os = x) (hk : os.length ≤ k) (hb : Below w.heap.size w W) : MagPost x k w (.returned v) W := by
  obtain ⟨A, c, rfl, hm, hf⟩ := h.mag hl
  exact ⟨A, _, c, os, rfl, hk, hm, hf, hv, hb⟩
theorem Mag.far {w : World} {A : Option Addr} {n c : Nat} {ns : List Nat} (h : Mag w A n c ns) {r : Nat} (hf : ∀ ad : Addr, A = some ad → r < ad.block) (x y : Value) : Mag ((w.setCell ⟨r, 0, none⟩ x).setCell ⟨r, 1, none⟩ y) A n c ns :=
  ⟨h.len, h.cap, h.top, h.lt, fun h0 => by
    obtain ⟨b, o, e, hlt, hc⟩ := h.at_ h0
    have hb := hf _ e
    refine ⟨b, o, e, by simpa using hlt, fun k hk => ?_⟩
    have hne : r ≠ b := by simp at hb; omega
    rw [World.cell?_setCell_other _ _ _ _ (by simp), World.cell?_setCell_other _ _ _ _ (by simp)]
    exact hc k hk⟩
/-- the loop of plus, after i rounds -/
structure PlusR (w : World) (g : Nat) (ms ns : List Nat) (i cr : Nat) (d : List Nat) (wr : World) : Prop where
  inv : Num.PlusInv ms ns d cr i
  blk : Blk wr g (d ++ (ms.drop i ++ [0]))
  bel : Below w.heap.size w wr
  le : i ≤ ms.length
theorem PlusR.next {w wr : World} {g : Nat} {ms ns d : List Nat} {i cr : Nat} (h : PlusR w g ms ns i cr d wr) (hm : ∀ x ∈ ms, x < Num.base) (hn : ∀ x ∈ ns, x < Num.base) (hi : i < ms.length) {w' : World}
    (hb : Blk w' g (d ++ ((ms.getD i 0 + cr + ns.getD i 0) % 1000000000) :: (ms.drop (i + 1) ++ [0]))) (hbel : Below w.heap.size w w') :
    PlusR w g ms ns (i + 1) ((ms.getD i 0 + cr + ns.getD i 0) / 1000000000) (d ++ [(ms.getD i 0 + cr + ns.getD i 0) % 1000000000]) w' :=
  ⟨h.inv.step hm hn, by rw [List.append_assoc]; exact hb, hbel, hi⟩
theorem PlusR.at {w wr : World} {g : Nat} {ms ns d : List Nat} {i cr : Nat} (h : PlusR w g ms ns i cr d wr) (hi : i < ms.length) : Blk wr g (d ++ ms.getD i 0 :: (ms.drop (i + 1) ++ [0])) := by
  have := h.blk
  rwa [drop_getD ms i hi, List.cons_append] at this
theorem Blk.put {w : World} {g : Nat} {d r : List Nat} {x : Nat} (h : Blk w g (d ++ x :: r)) (i : Nat) (hi : d.length = i) (y : Nat) : Blk (w.setCell ⟨g, i, none⟩ (.int .u64 (y : Int))) g (d ++ y :: r) := by
  have := h.set i y
  rwa [set_at d r x y i hi] at this
theorem Blk.here {w : World} {g : Nat} {d r : List Nat} {x : Nat} (h : Blk w g (d ++ x :: r)) (i : Nat) (hi : d.length = i) : w.cell? ⟨g, i, none⟩ = some (.int .u64 (x : Int)) := by
  have := h.cell i (by simp; omega)
  rwa [getD_at d r x i hi] at this
set_option maxRecDepth 100000 in
set_option maxHeartbeats 2000000 in
theorem plus_ge (A B : Option Addr) (n c p d : Nat) (ms ns : List Nat) (w : World) (hm : Mag w A n c ms) (hn : Mag w B p d ns) (hle : p ≤ n) (h500 : n ≤ 500) :
    Calls Tryz.prog 136 #[.slice A n c, .slice B p d] w (MagPost (Num.magV ms + Num.magV ns) (n + 1) w) := by
  have hb0 : decide ((n : Int) < (p : Int)) = false := by rw [decide_eq_false_iff_not]; omega
  have hmk := make_u w n (by omega)
  have lm := Lib.hid hm.len
  have ln := Lib.hid hn.len
  have HM := Lib.hid hm
  have HN := Lib.hid hn
  have hw1 : (n : Int) + 1 ≤ 501 := by omega
  clear hm hn
  obtain ⟨Z, hZ⟩ : ∃ Z, Z = U64s (List.replicate (n + 1) 0) := ⟨_, rfl⟩
  rw [← hZ] at hmk
  obtain ⟨X, hX⟩ : ∃ X, X = U64s ms := ⟨_, rfl⟩
  have HZ := Lib.hid hZ
  have HX := Lib.hid hX
  clear hZ hX
  have xl : X.length = n := by rw [HX.out, U64s_len, lm.out]
  have zl : Z.length = n + 1 := by rw [HZ.out, U64s_len, List.length_replicate]
  have x1 : ∀ v ∈ X, v.oneCell' = true := fun v hv => by
    rw [HX.out, U64s, List.mem_map] at hv
    obtain ⟨g, _, rfl⟩ := hv
    rfl
  have hpos : 0 < X.length → some (⟨w.heap.size, 0, none⟩ : Addr) = some ⟨w.heap.size, 0, none⟩ ∧ ∃ ad, A = some ad ∧ ∀ j v, X[j]? = some v → (w.alloc (.cells ⟨Z⟩ 130)).cell? (ad.add j) = some v := fun h0 => by
    obtain ⟨b, o, rfl, hb, hc⟩ := HM.out.at_ (by omega)
    refine ⟨rfl, _, rfl, fun j v hv => ?_⟩
    have hj : j < n := by
      rw [← xl]
      rcases Nat.lt_or_ge j X.length with h' | h'
      · exact h'
      · rw [List.getElem?_eq_none h'] at hv; cases hv
    have hadd : (⟨b, o, none⟩ : Addr).add j = ⟨b, o + j, none⟩ := by unfold Addr.add; split <;> simp_all
    rw [hadd, (((Below.refl _ w).alloc (Nat.le_refl _) _).cell (by simpa using hb)), hc j hj]
    rw [HX.out, U64s, List.getElem?_map] at hv
    rw [List.getD_eq_getElem?_getD]
    cases he : ms[j]? with
    | none => rw [he] at hv; cases hv
    | some g => rw [he] at hv; simpa using hv
  have hsp : splice Z 0 X = U64s (ms ++ [0]) := by
    rw [splice, HZ.out, HX.out, U64s_len, lm.out]
    simp [U64s]
  have HP := Lib.hid (And.intro xl (And.intro zl (And.intro x1 (And.intro hpos hsp))))
  clear xl zl x1 hpos hsp
  go_enter Tryz.func136, Tryz.ntmps136
  go_wp2_with (with_reducible refine wpList_copy_splice rfl (.tmp 21) (.tmp 22) 145 145 rfl 130 Tryz.underlying145 (by kernel_rfl) _ _ n (n + 1) n c rfl rfl w.heap.size 0 Z 130 (heap_alloc_new w _) X ?c1 HP.out.2.2.2.1 ?c2 HP.out.2.2.1 w.heap.size w ((Below.refl _ w).alloc (Nat.le_refl _) _) (Nat.le_refl _) ?_)
  case c1 => rw [HP.out.1]
  case c2 => rw [HP.out.1, HP.out.2.1]; omega
  intro w2 HG2 hB2
  have R0 : PlusR w w.heap.size ms ns 0 0 [] w2 := ⟨Num.PlusInv.start ms ns, by
    have := HG2.out
    rw [HP.out.2.2.2.2] at this
    exact this, hB2, Nat.zero_le _⟩
  clear HG2 hB2 hmk
  go_wp2_with fail
  go_loopw [6, 26] (fun cv iv wr => ∃ (i cr : Nat) (d : List Nat), iv = .int .i64 (i : Int) ∧ cv = .int .u64 (cr : Int) ∧ PlusR w w.heap.size ms ns i cr d wr) (fun _ iv _ => n - (intOf iv).toNat)
  case atStart => exact ⟨0, 0, [], rfl, rfl, R0⟩
  case round =>
    obtain ⟨i, cr, dd, rfl, rfl, hR⟩ := hrel
    have hcr := hR.inv.le
    have hdl := hR.inv.len
    have hil := hR.le
    have HR := Lib.hid hR
    by_cases hi : i < n
    · have hx := getD_lt HM.out.lt i
      have hy := getD_lt HN.out.lt i
      have hnx := Lib.hid (fun w' a b => HR.out.next HM.out.lt HN.out.lt (by rw [lm.out]; exact hi) (w' := w') a b)
      have B0 := hR.at (by rw [lm.out]; exact hi)
      have hbel := hR.bel
      generalize ms.getD i 0 = x at *
      have c1 := B0.here i hdl
      have f1 := B0.frozen i
      have B1 := B0.put i hdl (x + cr)
      rw [Int.natCast_add] at B1
      have hii : (i : Int) < (n : Int) := by omega
      have HDL := Lib.hid hdl
      have hb1 : Below w.heap.size w (wr.setCell ⟨w.heap.size, i, none⟩ (.int .u64 ((x : Int) + (cr : Int)))) := hbel.setCell (p := ⟨w.heap.size, i, none⟩) (by simp) _
      clear hR hdl hil B0
      by_cases hip : i < p
      · obtain ⟨b2, o2, rfl, hb2, hc2⟩ := HN.out.at_ (by omega)
        have r2 := hc2 i hip
        generalize ns.getD i 0 = y at *
        have hjj : (i : Int) < (p : Int) := by omega
        clear hc2
        go_wp2_with fail
        generalize wr.setCell ⟨w.heap.size, i, none⟩ (.int .u64 ((x : Int) + (cr : Int))) = w3 at *
        have c2 := B1.here i HDL.out
        have f2 := B1.frozen i
        have B2 := B1.put i HDL.out (x + cr + y)
        have r3 : w3.cell? ⟨b2, o2 + i, none⟩ = some (.int .u64 (y : Int)) := by rw [hb1.cell (by simpa using hb2)]; exact r2
        rw [Int.natCast_add] at c2
        rw [Int.natCast_add, Int.natCast_add] at B2
        have hb3 : Below w.heap.size w (w3.setCell ⟨w.heap.size, i, none⟩ (.int .u64 ((x : Int) + (cr : Int) + (y : Int)))) := hb1.setCell (p := ⟨w.heap.size, i, none⟩) (by simp) _
        clear B1
        go_region
        have B3 : Blk (w3.setCell ⟨w.heap.size, i, none⟩ (.int .u64 ((x : Int) + (cr : Int) + (y : Int)))).drew w.heap.size (dd ++ (x + cr + y) :: (ms.drop (i + 1) ++ [0])) := B2
        have hb4 : Below w.heap.size w (w3.setCell ⟨w.heap.size, i, none⟩ (.int .u64 ((x : Int) + (cr : Int) + (y : Int)))).drew := below_dr hb3 1
        clear B2 hb3 c1 f1 c2 f2 r3
        generalize (w3.setCell ⟨w.heap.size, i, none⟩ (.int .u64 ((x : Int) + (cr : Int) + (y : Int)))).drew = w4 at *
        have c4 := B3.here i HDL.out
        have f4 := B3.frozen i
        have B5 := B3.put i HDL.out ((x + cr + y) % 1000000000)
        have hb5 : Below w.heap.size w (w4.setCell ⟨w.heap.size, i, none⟩ (.int .u64 (((x + cr + y) % 1000000000 : Nat) : Int))) := hb4.setCell (p := ⟨w.heap.size, i, none⟩) (by simp) _
        have RN := Lib.hid (hnx.out _ B5 hb5)
        have e1 : (((x + cr + y) % 1000000000 : Nat) : Int) = ((x : Int) + cr + y) % 1000000000 := by omega
        rw [e1] at RN
        rw [Int.natCast_add, Int.natCast_add] at c4
        clear B3 B5 hb5 hnx e1
        go_wp2_with fail
        go_roundw
        case rel => exact ⟨i + 1, _, _, by go_num, by go_num, RN.out⟩
        case measure => simp [intOf]; omega
      · have hy0 : ns.getD i 0 = 0 := by rw [List.getD_eq_getElem?_getD, List.getElem?_eq_none (by rw [ln.out]; omega)]; rfl
        rw [hy0] at hnx
        clear hy hy0
        have hjj : decide ((i : Int) < (p : Int)) = false := by rw [decide_eq_false_iff_not]; omega
        have B3 := B1
        rw [← Int.natCast_add] at B3
        have B5 := B3.put i HDL.out ((x + cr) % 1000000000)
        have c4 := B3.here i HDL.out
        have f4 := B3.frozen i
        rw [Int.natCast_add] at B5 c4 f4
        have e1 : (((x + cr) % 1000000000 : Nat) : Int) = ((x : Int) + cr) % 1000000000 := by omega
        rw [e1] at B5
        have hb5 : Below w.heap.size w ((wr.setCell ⟨w.heap.size, i, none⟩ (.int .u64 ((x : Int) + (cr : Int)))).setCell ⟨w.heap.size, i, none⟩ (.int .u64 (((x : Int) + cr) % 1000000000))) := hb1.setCell (p := ⟨w.heap.size, i, none⟩) (by simp) _
        have RN := Lib.hid (by have := hnx.out _ B5 hb5; exact this)
        clear B3 B5 hb5 hnx e1
        go_wp2_with fail
        go_roundw
        case rel => exact ⟨i + 1, _, _, by go_num, by go_num, RN.out⟩
        case measure => simp [intOf]; omega
    · have hin : i = n := by have := lm.out; omega
      subst hin
      have hd0 : decide ((i : Int) < (i : Int)) = false := by rw [decide_eq_false_iff_not]; omega
      have hil0 : dd.length = i := hdl
      have hdone := hR.inv
      rw [← lm.out] at hdone
      have hdone := hdone.done (by rw [lm.out, ln.out]; exact hle)
      have hblk := hR.blk
      rw [List.drop_of_length_le (by rw [lm.out]; omega), List.nil_append] at hblk
      have hown := hblk.own (B := w.heap.size) (cap := i + 1) (ns := dd) (Nat.le_refl _) (by omega) (by simp; omega) (by unfold maxLen; omega) (by simp)
      have hbel := hR.bel
      rw [hil0] at hown
      have hwl := hblk.lt
      have HDL := Lib.hid hdl
      have HDN := Lib.hid hdone
      clear hdl hdone hblk hR HR hil0 hil
      by_cases hc0 : cr = 0
      · subst hc0
        have hg0 : decide ((0 : Int) < ((0 : Nat) : Int)) = false := by simp
        have HO := Lib.hid hown
        clear hown
        go_wp2_with fail
        go_ret
        obtain ⟨h1, h2⟩ := HDN.out
        exact HO.out.post (by simpa using h1) (by simpa using h2) (by rw [HDL.out]; omega) hbel
      · have hg0 : decide ((0 : Int) < (cr : Int)) = true := by rw [decide_eq_true_iff]; omega
        go_wp2_with (with_reducible refine wp_append_u rfl (.tmp 64) (.tmp 66) rfl w.heap.size (.slice (some ⟨w.heap.size, 0, none⟩) i (i + 1)) dd wr cr rfl hown rfl (by omega) (by rw [HDL.out]; omega) ?_)
        intro v' w5 hown' hb5 _
        have HO := Lib.hid hown'
        clear hown' hown
        go_wp2_with fail
        go_ret
        obtain ⟨h1, h2⟩ := HDN.out
        rw [if_neg hc0] at h1 h2
        exact HO.out.post h1 h2 (by rw [List.length_append, HDL.out]; simp) (hbel.trans hb5)
set_option maxRecDepth 100000 in
set_option maxHeartbeats 2000000 in
theorem plus_lt (A B : Option Addr) (n c p d : Nat) (ms ns : List Nat) (w : World) (hm : Mag w A n c ms) (hn : Mag w B p d ns) (hlt : p < n) (h500 : n ≤ 500) :
    Calls Tryz.prog 136 #[.slice B p d, .slice A n c] w (MagPost (Num.magV ms + Num.magV ns) (n + 1) w) := by
  have hle : p ≤ n := by omega
  have hb0 : decide ((p : Int) < (n : Int)) = true := by rw [decide_eq_true_iff]; omega
  have hmk := make_u w n (by omega)
  have lm := Lib.hid hm.len
  have ln := Lib.hid hn.len
  have HM := Lib.hid hm
  have HN := Lib.hid hn
  have hw1 : (n : Int) + 1 ≤ 501 := by omega
  clear hm hn
  obtain ⟨Z, hZ⟩ : ∃ Z, Z = U64s (List.replicate (n + 1) 0) := ⟨_, rfl⟩
  rw [← hZ] at hmk
  obtain ⟨X, hX⟩ : ∃ X, X = U64s ms := ⟨_, rfl⟩
  have HZ := Lib.hid hZ
  have HX := Lib.hid hX
  clear hZ hX
  have xl : X.length = n := by rw [HX.out, U64s_len, lm.out]
  have zl : Z.length = n + 1 := by rw [HZ.out, U64s_len, List.length_replicate]
  have x1 : ∀ v ∈ X, v.oneCell' = true := fun v hv => by
    rw [HX.out, U64s, List.mem_map] at hv
    obtain ⟨g, _, rfl⟩ := hv
    rfl
  have hpos : 0 < X.length → some (⟨w.heap.size, 0, none⟩ : Addr) = some ⟨w.heap.size, 0, none⟩ ∧ ∃ ad, A = some ad ∧ ∀ j v, X[j]? = some v → (w.alloc (.cells ⟨Z⟩ 130)).cell? (ad.add j) = some v := fun h0 => by
    obtain ⟨b, o, rfl, hb, hc⟩ := HM.out.at_ (by omega)
    refine ⟨rfl, _, rfl, fun j v hv => ?_⟩
    have hj : j < n := by
      rw [← xl]
      rcases Nat.lt_or_ge j X.length with h' | h'
      · exact h'
      · rw [List.getElem?_eq_none h'] at hv; cases hv
    have hadd : (⟨b, o, none⟩ : Addr).add j = ⟨b, o + j, none⟩ := by unfold Addr.add; split <;> simp_all
    rw [hadd, (((Below.refl _ w).alloc (Nat.le_refl _) _).cell (by simpa using hb)), hc j hj]
    rw [HX.out, U64s, List.getElem?_map] at hv
    rw [List.getD_eq_getElem?_getD]
    cases he : ms[j]? with
    | none => rw [he] at hv; cases hv
    | some g => rw [he] at hv; simpa using hv
  have hsp : splice Z 0 X = U64s (ms ++ [0]) := by
    rw [splice, HZ.out, HX.out, U64s_len, lm.out]
    simp [U64s]
  have HP := Lib.hid (And.intro xl (And.intro zl (And.intro x1 (And.intro hpos hsp))))
  clear xl zl x1 hpos hsp
  go_enter Tryz.func136, Tryz.ntmps136
  go_wp2_with (with_reducible refine wpList_copy_splice rfl (.tmp 21) (.tmp 22) 145 145 rfl 130 Tryz.underlying145 (by kernel_rfl) _ _ n (n + 1) n c rfl rfl w.heap.size 0 Z 130 (heap_alloc_new w _) X ?c1 HP.out.2.2.2.1 ?c2 HP.out.2.2.1 w.heap.size w ((Below.refl _ w).alloc (Nat.le_refl _) _) (Nat.le_refl _) ?_)
  case c1 => rw [HP.out.1]
  case c2 => rw [HP.out.1, HP.out.2.1]; omega
  intro w2 HG2 hB2
  have R0 : PlusR w w.heap.size ms ns 0 0 [] w2 := ⟨Num.PlusInv.start ms ns, by
    have := HG2.out
    rw [HP.out.2.2.2.2] at this
    exact this, hB2, Nat.zero_le _⟩
  clear HG2 hB2 hmk
  go_wp2_with fail
  go_loopw [6, 26] (fun cv iv wr => ∃ (i cr : Nat) (d : List Nat), iv = .int .i64 (i : Int) ∧ cv = .int .u64 (cr : Int) ∧ PlusR w w.heap.size ms ns i cr d wr) (fun _ iv _ => n - (intOf iv).toNat)
  case atStart => exact ⟨0, 0, [], rfl, rfl, R0⟩
  case round =>
    obtain ⟨i, cr, dd, rfl, rfl, hR⟩ := hrel
    have hcr := hR.inv.le
    have hdl := hR.inv.len
    have hil := hR.le
    have HR := Lib.hid hR
    by_cases hi : i < n
    · have hx := getD_lt HM.out.lt i
      have hy := getD_lt HN.out.lt i
      have hnx := Lib.hid (fun w' a b => HR.out.next HM.out.lt HN.out.lt (by rw [lm.out]; exact hi) (w' := w') a b)
      have B0 := hR.at (by rw [lm.out]; exact hi)
      have hbel := hR.bel
      generalize ms.getD i 0 = x at *
      have c1 := B0.here i hdl
      have f1 := B0.frozen i
      have B1 := B0.put i hdl (x + cr)
      rw [Int.natCast_add] at B1
      have hii : (i : Int) < (n : Int) := by omega
      have HDL := Lib.hid hdl
      have hb1 : Below w.heap.size w (wr.setCell ⟨w.heap.size, i, none⟩ (.int .u64 ((x : Int) + (cr : Int)))) := hbel.setCell (p := ⟨w.heap.size, i, none⟩) (by simp) _
      clear hR hdl hil B0
      by_cases hip : i < p
      · obtain ⟨b2, o2, rfl, hb2, hc2⟩ := HN.out.at_ (by omega)
        have r2 := hc2 i hip
        generalize ns.getD i 0 = y at *
        have hjj : (i : Int) < (p : Int) := by omega
        clear hc2
        go_wp2_with fail
        generalize wr.setCell ⟨w.heap.size, i, none⟩ (.int .u64 ((x : Int) + (cr : Int))) = w3 at *
        have c2 := B1.here i HDL.out
        have f2 := B1.frozen i
        have B2 := B1.put i HDL.out (x + cr + y)
        have r3 : w3.cell? ⟨b2, o2 + i, none⟩ = some (.int .u64 (y : Int)) := by rw [hb1.cell (by simpa using hb2)]; exact r2
        rw [Int.natCast_add] at c2
        rw [Int.natCast_add, Int.natCast_add] at B2
        have hb3 : Below w.heap.size w (w3.setCell ⟨w.heap.size, i, none⟩ (.int .u64 ((x : Int) + (cr : Int) + (y : Int)))) := hb1.setCell (p := ⟨w.heap.size, i, none⟩) (by simp) _
        clear B1
        go_region
        have B3 : Blk (w3.setCell ⟨w.heap.size, i, none⟩ (.int .u64 ((x : Int) + (cr : Int) + (y : Int)))).drew w.heap.size (dd ++ (x + cr + y) :: (ms.drop (i + 1) ++ [0])) := B2
        have hb4 : Below w.heap.size w (w3.setCell ⟨w.heap.size, i, none⟩ (.int .u64 ((x : Int) + (cr : Int) + (y : Int)))).drew := below_dr hb3 1
        clear B2 hb3 c1 f1 c2 f2 r3
        generalize (w3.setCell ⟨w.heap.size, i, none⟩ (.int .u64 ((x : Int) + (cr : Int) + (y : Int)))).drew = w4 at *
        have c4 := B3.here i HDL.out
        have f4 := B3.frozen i
        have B5 := B3.put i HDL.out ((x + cr + y) % 1000000000)
        have hb5 : Below w.heap.size w (w4.setCell ⟨w.heap.size, i, none⟩ (.int .u64 (((x + cr + y) % 1000000000 : Nat) : Int))) := hb4.setCell (p := ⟨w.heap.size, i, none⟩) (by simp) _
        have RN := Lib.hid (hnx.out _ B5 hb5)
        have e1 : (((x + cr + y) % 1000000000 : Nat) : Int) = ((x : Int) + cr + y) % 1000000000 := by omega
        rw [e1] at RN
        rw [Int.natCast_add, Int.natCast_add] at c4
        clear B3 B5 hb5 hnx e1
        go_wp2_with fail
        go_roundw
        case rel => exact ⟨i + 1, _, _, by go_num, by go_num, RN.out⟩
        case measure => simp [intOf]; omega
      · have hy0 : ns.getD i 0 = 0 := by rw [List.getD_eq_getElem?_getD, List.getElem?_eq_none (by rw [ln.out]; omega)]; rfl
        rw [hy0] at hnx
        clear hy hy0
        have hjj : decide ((i : Int) < (p : Int)) = false := by rw [decide_eq_false_iff_not]; omega
        have B3 := B1
        rw [← Int.natCast_add] at B3
        have B5 := B3.put i HDL.out ((x + cr) % 1000000000)
        have c4 := B3.here i HDL.out
        have f4 := B3.frozen i
        rw [Int.natCast_add] at B5 c4 f4
        have e1 : (((x + cr) % 1000000000 : Nat) : Int) = ((x : Int) + cr) % 1000000000 := by omega
        rw [e1] at B5
        have hb5 : Below w.heap.size w ((wr.setCell ⟨w.heap.size, i, none⟩ (.int .u64 ((x : Int) + (cr : Int)))).setCell ⟨w.heap.size, i, none⟩ (.int .u64 (((x : Int) + cr) % 1000000000))) := hb1.setCell (p := ⟨w.heap.size, i, none⟩) (by simp) _
        have RN := Lib.hid (by have := hnx.out _ B5 hb5; exact this)
        clear B3 B5 hb5 hnx e1
        go_wp2_with fail
        go_roundw
        case rel => exact ⟨i + 1, _, _, by go_num, by go_num, RN.out⟩
        case measure => simp [intOf]; omega
    · have hin : i = n := by have := lm.out; omega
      subst hin
      have hd0 : decide ((i : Int) < (i : Int)) = false := by rw [decide_eq_false_iff_not]; omega
      have hil0 : dd.length = i := hdl
      have hdone := hR.inv
      rw [← lm.out] at hdone
      have hdone := hdone.done (by rw [lm.out, ln.out]; exact hle)
      have hblk := hR.blk
      rw [List.drop_of_length_le (by rw [lm.out]; omega), List.nil_append] at hblk
      have hown := hblk.own (B := w.heap.size) (cap := i + 1) (ns := dd) (Nat.le_refl _) (by omega) (by simp; omega) (by unfold maxLen; omega) (by simp)
      have hbel := hR.bel
      rw [hil0] at hown
      have hwl := hblk.lt
      have HDL := Lib.hid hdl
      have HDN := Lib.hid hdone
      clear hdl hdone hblk hR HR hil0 hil
      by_cases hc0 : cr = 0
      · subst hc0
        have hg0 : decide ((0 : Int) < ((0 : Nat) : Int)) = false := by simp
        have HO := Lib.hid hown
        clear hown
        go_wp2_with fail
        go_ret
        obtain ⟨h1, h2⟩ := HDN.out
        exact HO.out.post (by simpa using h1) (by simpa using h2) (by rw [HDL.out]; omega) hbel
      · have hg0 : decide ((0 : Int) < (cr : Int)) = true := by rw [decide_eq_true_iff]; omega
        go_wp2_with (with_reducible refine wp_append_u rfl (.tmp 64) (.tmp 66) rfl w.heap.size (.slice (some ⟨w.heap.size, 0, none⟩) i (i + 1)) dd wr cr rfl hown rfl (by omega) (by rw [HDL.out]; omega) ?_)
        intro v' w5 hown' hb5 _
        have HO := Lib.hid hown'
        clear hown' hown
        go_wp2_with fail
        go_ret
        obtain ⟨h1, h2⟩ := HDN.out
        rw [if_neg hc0] at h1 h2
        exact HO.out.post h1 h2 (by rw [List.length_append, HDL.out]; simp) (hbel.trans hb5)
theorem plus_any (A B : Option Addr) (n c p d : Nat) (ms ns : List Nat) (w : World) (hm : Mag w A n c ms) (hn : Mag w B p d ns) (h1 : n ≤ 500) (h2 : p ≤ 500) :
    Calls Tryz.prog 136 #[.slice A n c, .slice B p d] w (MagPost (Num.magV ms + Num.magV ns) (max n p + 1) w) := by
  rcases Nat.lt_or_ge n p with h | h
  · rw [Nat.max_eq_right (by omega), Nat.add_comm (Num.magV ms)]
    exact plus_lt B A p d n c ns ms w hn hm h h2
  · rw [Nat.max_eq_left h]
    exact plus_ge A B n c p d ms ns w hm hn h h1
end Go.Proofs.YtjcbohbpkodkoaaGreatDoor

/- Contracts of the clone of a slice of groups, and of minus. -/
namespace Go.Proofs.YtjcbohbpkodkoaaGreatDoor
open Go.RowKit

/-- the block g holds the groups L, and more behind them -/
def BlkT (w : World) (g cap : Nat) (L : List Nat) : Prop := ∃ tl : List Value, L.length + tl.length = cap ∧ w.heap[g]? = some (.cells (U64s L ++ tl).toArray 130 (0, 0))
theorem BlkT.cell {w : World} {g cap : Nat} {L : List Nat} (h : BlkT w g cap L) (i : Nat) (hi : i < L.length) : w.cell? ⟨g, i, none⟩ = some (.int .u64 ((L.getD i 0 : Nat) : Int)) := by
  obtain ⟨tl, _, hb⟩ := h
  rw [cell_of_row _ _ _ _ _ _ hb, ← Array.getElem?_toList]
  show (U64s L ++ tl)[i]? = _
  rw [List.getElem?_append_left (by rw [U64s_len]; exact hi)]
  simp [U64s, hi]
theorem BlkT.frozen {w : World} {g cap : Nat} {L : List Nat} (h : BlkT w g cap L) (i : Nat) : w.frozen? ⟨g, i, none⟩ = false := by
  obtain ⟨tl, _, hb⟩ := h
  exact frozen_of_row _ _ _ _ _ hb
theorem BlkT.set {w : World} {g cap : Nat} {L : List Nat} (h : BlkT w g cap L) (i x : Nat) (hi : i < L.length) : BlkT (w.setCell ⟨g, i, none⟩ (.int .u64 (x : Int))) g cap (L.set i x) := by
  obtain ⟨tl, hc, hb⟩ := h
  obtain ⟨hlt, hk⟩ := Array.getElem?_eq_some_iff.1 hb
  refine ⟨tl, by rw [List.length_set]; exact hc, ?_⟩
  show (w.heap.modify g _)[g]? = _
  rw [Array.getElem?_eq_getElem (by rw [Array.size_modify]; exact hlt), Array.getElem_modify_self, hk]
  simp [U64s, List.map_set, hi]
theorem BlkT.put {w : World} {g cap : Nat} {d r : List Nat} {x : Nat} (h : BlkT w g cap (d ++ x :: r)) (i : Nat) (hi : d.length = i) (y : Nat) : BlkT (w.setCell ⟨g, i, none⟩ (.int .u64 (y : Int))) g cap (d ++ y :: r) := by
  have := h.set i y (by simp; omega)
  rwa [set_at d r x y i hi] at this
theorem BlkT.here {w : World} {g cap : Nat} {d r : List Nat} {x : Nat} (h : BlkT w g cap (d ++ x :: r)) (i : Nat) (hi : d.length = i) : w.cell? ⟨g, i, none⟩ = some (.int .u64 (x : Int)) := by
  have := h.cell i (by simp; omega)
  rwa [getD_at d r x i hi] at this
theorem BlkT.own {w : World} {g B cap : Nat} {ns : List Nat} (h : BlkT w g cap ns) (hB : B ≤ g) (hc : cap ≤ maxLen) : OwnU B w (.slice (some ⟨g, 0, none⟩) ns.length cap) ns := by
  obtain ⟨tl, hl, hb⟩ := h
  refine ⟨by simp [U64s], .inr ⟨g, cap, _, rfl, hB, hb, by omega, hc, ?_, ?_⟩⟩
  · simp [U64s]; omega
  · simp [U64s]
theorem OwnU.blk {B : Nat} {w : World} {v : Value} {ns : List Nat} (h : OwnU B w v ns) (h0 : 0 < ns.length) : ∃ g cap, v = .slice (some ⟨g, 0, none⟩) ns.length cap ∧ B ≤ g ∧ cap ≤ maxLen ∧ ns.length ≤ cap ∧ BlkT w g cap ns := by
  rcases h.2 with ⟨_, h1⟩ | ⟨g, cap, cur, rfl, hB, hg, hc, hm, hsz, htake⟩
  · omega
  · refine ⟨g, cap, rfl, hB, hm, hc, cur.toList.drop ns.length, ?_, ?_⟩
    · simp only [List.length_drop, Array.length_toList]
      omega
    · rw [Nat.mul_one] at htake
      rw [← htake, List.take_append_drop]
      exact hg
set_option maxRecDepth 100000 in
theorem cloneM_any (A : Option Addr) (n c : Nat) (ns : List Nat) (w : World) (h : Mag w A n c ns) (h0 : 0 < n) (h5 : n ≤ 1000) :
    Calls Tryz.prog 176 #[.slice A n c] w fun e w' => ∃ v, e = .returned v ∧ OwnU w.heap.size w' v ns ∧ Below w.heap.size w w' := by
  obtain ⟨b, o, rfl, hb, hc⟩ := h.at_ h0
  have hl := Lib.hid h.len
  have HC := Lib.hid hc
  clear h hc
  have hnil := Lib.run_eql_slice_nil (P := Tryz.prog) w 145 130 (some ⟨b, o, none⟩) n c 0 0 Tryz.underlying145
  obtain ⟨i0, hi, hz0, hz1, hz2⟩ := info_parts info127
  have hown : (w.alloc (.cells #[] 130)).ownsRow w.heap.size 130 1 (.slice (some ⟨w.heap.size, 0, none⟩) 0 0) 0 [] :=
    ⟨rfl, .inr ⟨w.heap.size, 0, #[], rfl, Nat.le_refl _, heap_alloc_new w _, Nat.le_refl _, by omega, rfl, rfl⟩⟩
  have hcs : ∀ j u, (U64s ns)[j]? = some u → (w.alloc (.cells #[] 130)).cell? ((⟨b, o, none⟩ : Addr).add j) = some u := fun j u hu => by
    have hj : j < n := by
      rw [← hl.out, ← U64s_len]
      rcases Nat.lt_or_ge j (U64s ns).length with h' | h'
      · exact h'
      · rw [List.getElem?_eq_none h'] at hu; cases hu
    have hadd : (⟨b, o, none⟩ : Addr).add j = ⟨b, o + j, none⟩ := by unfold Addr.add; split <;> simp_all
    rw [hadd, (((Below.refl _ w).alloc (Nat.le_refl _) _).cell (by simpa using hb)), HC.out j hj]
    rw [U64s, List.getElem?_map] at hu
    rw [List.getD_eq_getElem?_getD]
    cases he : ns[j]? with
    | none => rw [he] at hu; cases hu
    | some g => rw [he] at hu; simpa using hu
  have HO := Lib.hid hown
  have HS := Lib.hid hcs
  have h1 : ∀ u ∈ U64s ns, u.oneCell' = true := fun u hu => by
    simp only [U64s, List.mem_map] at hu
    obtain ⟨z, _, rfl⟩ := hu
    rfl
  have H1 := Lib.hid h1
  have hi' := Lib.hid (And.intro hi (And.intro hz0 (And.intro hz1 hz2)))
  clear hown hcs h1 hi hz0 hz1 hz2
  go_enter Tryz.func176, Tryz.ntmps176
  go_wp2_with (with_reducible refine wpList_append_own _ rfl (.tmp 5) (.tmp 6) 145 rfl w.heap.size 130 i0 (.int .u64 0) 1 8 Tryz.underlying145 hi'.out.1 hi'.out.2.1 hi'.out.2.2.1 hi'.out.2.2.2 rfl (by decide) (.slice (some ⟨w.heap.size, 0, none⟩) 0 0) 0 [] rfl HO.out ⟨b, o, none⟩ n c (U64s ns) rfl ?c0 HS.out H1.out ?c3 ?c4 ?c5 ?_)
  case c0 => rw [U64s_len, hl.out, Nat.mul_one]
  case c3 => simp only [maxLen]; omega
  case c4 => omega
  case c5 => simp
  intro v' w' h2 h3 _
  have H2 := Lib.hid h2
  have hb5 : Below w.heap.size w w' := ((Below.refl _ w).alloc (Nat.le_refl _) _).grown h3 (by simp) (fun k hk => by have := (World.ownsRow.lt HO.out k hk).1; exact this)
  clear h2 h3
  go_wp2_with fail
  go_ret
  refine ⟨v', rfl, ?_, hb5⟩
  unfold OwnU
  rw [hl.out]
  have := H2.out
  simpa using this
/-- the loop of minus, after i rounds -/
structure MinusR (w : World) (g cap : Nat) (ms ns : List Nat) (i br : Nat) (d : List Nat) (wr : World) : Prop where
  inv : Num.MinusInv ms ns d br i
  blk : BlkT wr g cap (d ++ ms.drop i)
  bel : Below w.heap.size w wr
  le : i ≤ ms.length
theorem MinusR.next {w wr : World} {g cap : Nat} {ms ns d : List Nat} {i br : Nat} (h : MinusR w g cap ms ns i br d wr) (hm : ∀ x ∈ ms, x < Num.base) (hn : ∀ x ∈ ns, x < Num.base) (hi : i < ms.length) {x l : Nat} (hx : ms.getD i 0 = x) (hl : br + ns.getD i 0 = l) {w' : World}
    (hb : BlkT w' g cap (d ++ Num.mg x l :: ms.drop (i + 1))) (hbel : Below w.heap.size w w') :
    MinusR w g cap ms ns (i + 1) (Num.mb x l) (d ++ [Num.mg x l]) w' := by
  subst hx
  subst hl
  exact ⟨h.inv.step hm hn, by rw [List.append_assoc]; exact hb, hbel, hi⟩
theorem MinusR.at {w wr : World} {g cap : Nat} {ms ns d : List Nat} {i br : Nat} (h : MinusR w g cap ms ns i br d wr) (hi : i < ms.length) : BlkT wr g cap (d ++ ms.getD i 0 :: ms.drop (i + 1)) := by
  have := h.blk
  rwa [drop_getD ms i hi] at this
theorem mg_lt {x l : Nat} (h : x < l) : Num.mg x l = x + 1000000000 - l ∧ Num.mb x l = 1 := ⟨by rw [Num.mg, if_pos h]; rfl, by rw [Num.mb, if_pos h]⟩
theorem mg_ge {x l : Nat} (h : ¬ x < l) : Num.mg x l = x - l ∧ Num.mb x l = 0 := ⟨by rw [Num.mg, if_neg h], by rw [Num.mb, if_neg h]⟩
theorem cutM_lt {m : List Nat} (h : ∀ g ∈ m, g < Num.base) : ∀ g ∈ Num.cutM m, g < Num.base := fun g hg => h g ((Num.magV_cut m).2.2 g hg)
set_option maxRecDepth 100000 in
set_option maxHeartbeats 4000000 in
theorem minus_any (A B : Option Addr) (n c p d : Nat) (ms ns : List Nat) (w : World) (hm : Mag w A n c ms) (hn : Mag w B p d ns) (hle : p ≤ n) (h0 : 0 < n) (h500 : n ≤ 500) (hv : Num.magV ns ≤ Num.magV ms) :
    Calls Tryz.prog 137 #[.slice A n c, .slice B p d] w (MagPost (Num.magV ms - Num.magV ns) n w) := by
  have lm := Lib.hid hm.len
  have ln := Lib.hid hn.len
  have HM := Lib.hid hm
  have HN := Lib.hid hn
  have HV := Lib.hid hv
  clear hm hn hv
  go_enter Tryz.func137, Tryz.ntmps137
  go_wp2_with fail
  refine (cloneM_any A n c ms w HM.out h0 (by omega)).mono ?_
  rintro e w1 ⟨v, rfl, hown, hb1⟩
  obtain ⟨g, cap, rfl, hg, hcap, hnc, hblk⟩ := hown.blk (by rw [lm.out]; exact h0)
  rw [lm.out] at hnc ⊢
  have R0 : MinusR w g cap ms ns 0 0 [] w1 := ⟨Num.MinusInv.start ms ns, hblk, hb1, Nat.zero_le _⟩
  have hg := Lib.hid hg
  have hcap := Lib.hid hcap
  clear hown hblk hb1
  go_wp2_with fail
  go_loopw [6, 13] (fun bv iv wr => ∃ (i br : Nat) (d : List Nat), iv = .int .i64 (i : Int) ∧ bv = .int .u64 (br : Int) ∧ MinusR w g cap ms ns i br d wr) (fun _ iv _ => n - (intOf iv).toNat)
  case atStart => exact ⟨0, 0, [], rfl, rfl, R0⟩
  case round =>
    obtain ⟨i, br, dd, rfl, rfl, hR⟩ := hrel
    have hbr := hR.inv.le
    have hdl := hR.inv.len
    have hil := hR.le
    have HR := Lib.hid hR
    by_cases hi : i < n
    · have hx := getD_lt HM.out.lt i
      have hy := getD_lt HN.out.lt i
      have hnx := Lib.hid (fun w' a b => HR.out.next HM.out.lt HN.out.lt (by rw [lm.out]; exact hi) rfl rfl (w' := w') a b)
      have B0 := hR.at (by rw [lm.out]; exact hi)
      have hbel := hR.bel
      generalize ms.getD i 0 = x at *
      have hii : (i : Int) < (n : Int) := by omega
      have HDL := Lib.hid hdl
      clear hR hdl hil
      by_cases hip : i < p
      · obtain ⟨b2, o2, rfl, hb2, hc2⟩ := HN.out.at_ (by omega)
        have r2 := hc2 i hip
        generalize ns.getD i 0 = y at *
        have r3 : wr.cell? ⟨b2, o2 + i, none⟩ = some (.int .u64 (y : Int)) := by rw [hbel.cell (by simpa using hb2)]; exact r2
        have hjj : (i : Int) < (p : Int) := by omega
        clear hc2 r2
        by_cases hlt : x < br + y
        · skip
          have hdc : decide ((x : Int) < ((br : Int) + (y : Int))) = true := by rw [decide_eq_true_iff]; omega
          obtain ⟨e1, e2⟩ := mg_lt (show x < br + y by omega)
          have B1 := B0.put i HDL.out (x + 1000000000)
          have c1 := B0.here i HDL.out
          have f1 := B0.frozen i
          have c2 := B1.here i HDL.out
          have f2 := B1.frozen i
          have B2 := B1.put i HDL.out (Num.mg x (br + y))
          have e3 : ((Num.mg x (br + y) : Nat) : Int) = (x : Int) + 1000000000 - ((br : Int) + (y : Int)) := by rw [e1]; omega
          rw [e3] at B2
          rw [Int.natCast_add] at B1 B2 c2 f2
          have hb2' : Below w.heap.size w ((wr.setCell ⟨g, i, none⟩ (.int .u64 ((x : Int) + 1000000000))).setCell ⟨g, i, none⟩ (.int .u64 ((x : Int) + 1000000000 - ((br : Int) + (y : Int))))) := (hbel.setCell (p := ⟨g, i, none⟩) (by simpa using hg.out) _).setCell (p := ⟨g, i, none⟩) (by simpa using hg.out) _
          have RN := Lib.hid (hnx.out _ B2 hb2')
          have e4 : (((1 : Nat) : Int)) = 1 := rfl
          rw [e2] at RN
          have hsub : ((br : Int) + (y : Int)) ≤ (x : Int) + 1000000000 := by omega
          clear B0 B1 B2 hb2' hnx e1 e2 e3 e4
          go_wp2_with fail
          go_roundw
          case rel => exact ⟨i + 1, 1, _, by go_num, rfl, RN.out⟩
          case measure => simp [intOf]; omega
        · skip
          have hdc : decide ((x : Int) < ((br : Int) + (y : Int))) = false := by rw [decide_eq_false_iff_not]; omega
          obtain ⟨e1, e2⟩ := mg_ge (show ¬ x < br + y by omega)
          have c1 := B0.here i HDL.out
          have f1 := B0.frozen i
          have B2 := B0.put i HDL.out (Num.mg x (br + y))
          have e3 : ((Num.mg x (br + y) : Nat) : Int) = (x : Int) - ((br : Int) + (y : Int)) := by rw [e1]; omega
          rw [e3] at B2
          have hb2' : Below w.heap.size w (wr.setCell ⟨g, i, none⟩ (.int .u64 ((x : Int) - ((br : Int) + (y : Int))))) := hbel.setCell (p := ⟨g, i, none⟩) (by simpa using hg.out) _
          have RN := Lib.hid (hnx.out _ B2 hb2')
          rw [e2] at RN
          have hsub : ((br : Int) + (y : Int)) ≤ (x : Int) := by omega
          clear B0 B2 hb2' hnx e1 e2 e3
          go_wp2_with fail
          go_roundw
          case rel => exact ⟨i + 1, 0, _, by go_num, rfl, RN.out⟩
          case measure => simp [intOf]; omega
      · have hy0 : ns.getD i 0 = 0 := by rw [List.getD_eq_getElem?_getD, List.getElem?_eq_none (by rw [ln.out]; omega)]; rfl
        rw [hy0] at hnx
        simp only [Nat.add_zero] at hnx
        clear hy hy0
        have hjj : decide ((i : Int) < (p : Int)) = false := by rw [decide_eq_false_iff_not]; omega
        by_cases hlt : x < br
        · skip
          have hdc : decide ((x : Int) < (br : Int)) = true := by rw [decide_eq_true_iff]; omega
          obtain ⟨e1, e2⟩ := mg_lt (show x < br by omega)
          have B1 := B0.put i HDL.out (x + 1000000000)
          have c1 := B0.here i HDL.out
          have f1 := B0.frozen i
          have c2 := B1.here i HDL.out
          have f2 := B1.frozen i
          have B2 := B1.put i HDL.out (Num.mg x (br))
          have e3 : ((Num.mg x (br) : Nat) : Int) = (x : Int) + 1000000000 - (br : Int) := by rw [e1]; omega
          rw [e3] at B2
          rw [Int.natCast_add] at B1 B2 c2 f2
          have hb2' : Below w.heap.size w ((wr.setCell ⟨g, i, none⟩ (.int .u64 ((x : Int) + 1000000000))).setCell ⟨g, i, none⟩ (.int .u64 ((x : Int) + 1000000000 - (br : Int)))) := (hbel.setCell (p := ⟨g, i, none⟩) (by simpa using hg.out) _).setCell (p := ⟨g, i, none⟩) (by simpa using hg.out) _
          have RN := Lib.hid (hnx.out _ B2 hb2')
          have e4 : (((1 : Nat) : Int)) = 1 := rfl
          rw [e2] at RN
          have hsub : (br : Int) ≤ (x : Int) + 1000000000 := by omega
          clear B0 B1 B2 hb2' hnx e1 e2 e3 e4
          go_wp2_with fail
          go_roundw
          case rel => exact ⟨i + 1, 1, _, by go_num, rfl, RN.out⟩
          case measure => simp [intOf]; omega
        · skip
          have hdc : decide ((x : Int) < (br : Int)) = false := by rw [decide_eq_false_iff_not]; omega
          obtain ⟨e1, e2⟩ := mg_ge (show ¬ x < br by omega)
          have c1 := B0.here i HDL.out
          have f1 := B0.frozen i
          have B2 := B0.put i HDL.out (Num.mg x (br))
          have e3 : ((Num.mg x (br) : Nat) : Int) = (x : Int) - (br : Int) := by rw [e1]; omega
          rw [e3] at B2
          have hb2' : Below w.heap.size w (wr.setCell ⟨g, i, none⟩ (.int .u64 ((x : Int) - (br : Int)))) := hbel.setCell (p := ⟨g, i, none⟩) (by simpa using hg.out) _
          have RN := Lib.hid (hnx.out _ B2 hb2')
          rw [e2] at RN
          have hsub : (br : Int) ≤ (x : Int) := by omega
          clear B0 B2 hb2' hnx e1 e2 e3
          go_wp2_with fail
          go_roundw
          case rel => exact ⟨i + 1, 0, _, by go_num, rfl, RN.out⟩
          case measure => simp [intOf]; omega
    · have hin : i = n := by have := lm.out; omega
      subst hin
      have hd0 : decide ((i : Int) < (i : Int)) = false := by rw [decide_eq_false_iff_not]; omega
      have hdone := hR.inv
      rw [← lm.out] at hdone
      have hlt := hdone.lt
      have hdone := hdone.done (by rw [lm.out, ln.out]; exact hle) HV.out
      have hblk := hR.blk
      rw [List.drop_of_length_le (by rw [lm.out]; omega), List.append_nil] at hblk
      have hown := hblk.own (B := w.heap.size) hg.out hcap.out
      have hbel := hR.bel
      obtain ⟨A', c', hv', hmg, hfr⟩ := hown.mag hlt
      rw [hdl] at hv' hmg
      cases hv'
      have hdl := Lib.hid hdl
      have HDN := Lib.hid hdone
      have HMG := Lib.hid hmg
      have HFR := Lib.hid hfr
      clear hdone hblk hR HR hil hown hmg hfr
      go_wp2_with fail
      refine (cut_any _ _ _ _ _ HMG.out).mono ?_
      rintro e w5 ⟨rfl, rfl⟩
      go_wp2_with fail
      go_ret
      exact ⟨_, _, _, Num.cutM dd, rfl, by have := cutM_len dd; rw [hdl.out] at this; exact this, HMG.out.cut, HFR.out, by rw [(Num.magV_cut dd).1, HDN.out.2], hbel⟩
end Go.Proofs.YtjcbohbpkodkoaaGreatDoor
