/- The calendar in plain integers. -/
import Derived.WalkKit
namespace Go.Proofs.YtjkpfjnhgbcnkaaDoor

def lp (y : Int) : Int := if y % 4 = 0 ∧ (y % 100 ≠ 0 ∨ y % 400 = 0) then 1 else 0
def leapB (y : Int) : Bool := decide (lp y = 1)
def len (y m : Int) : Int := if m = 2 then 28 + lp y else if m = 4 ∨ m = 6 ∨ m = 9 ∨ m = 11 then 30 else 31
def beg (y : Int) : Int := 365 * (y - 1900) + ((y - 1) / 4 - (y - 1) / 100 + (y - 1) / 400) - 460
def cum (y m : Int) : Int := if m ≤ 1 then 0 else if m = 2 then 31 else lp y + (if m = 3 then 59 else if m = 4 then 90 else if m = 5 then 120 else if m = 6 then 151 else if m = 7 then 181 else if m = 8 then 212 else if m = 9 then 243 else if m = 10 then 273 else if m = 11 then 304 else if m = 12 then 334 else 365)
def num (y m d : Int) : Int := -25567 + beg y + cum y m + d - 1
structure Valid (y m d : Int) : Prop where
  y0 : 1900 ≤ y
  y1 : y ≤ 2199
  m0 : 1 ≤ m
  m1 : m ≤ 12
  d0 : 1 ≤ d
  d1 : d ≤ len y m
def vdB (y m d : Int) : Bool := decide (1900 ≤ y ∧ y ≤ 2199 ∧ 1 ≤ m ∧ m ≤ 12 ∧ 1 ≤ d ∧ d ≤ len y m)
theorem vdB_iff (y m d : Int) : vdB y m d = true ↔ Valid y m d := by
  unfold vdB
  rw [decide_eq_true_iff]
  exact ⟨fun ⟨a, b, c, d, e, f⟩ => ⟨a, b, c, d, e, f⟩, fun ⟨a, b, c, d, e, f⟩ => ⟨a, b, c, d, e, f⟩⟩
theorem lp_01 (y : Int) : 0 ≤ lp y ∧ lp y ≤ 1 := by unfold lp; split <;> omega
theorem len_lo (y m : Int) : 28 ≤ len y m ∧ len y m ≤ 31 := by
  have := lp_01 y
  unfold len; split
  · omega
  · split <;> omega
theorem beg_succ (y : Int) : beg (y + 1) = beg y + 365 + lp y := by
  unfold beg lp; split <;> omega
theorem month_cases (m : Int) (h0 : 1 ≤ m) (h1 : m ≤ 12) : m = 1 ∨ m = 2 ∨ m = 3 ∨ m = 4 ∨ m = 5 ∨ m = 6 ∨ m = 7 ∨ m = 8 ∨ m = 9 ∨ m = 10 ∨ m = 11 ∨ m = 12 := by omega
theorem cum_succ (y m : Int) (h0 : 1 ≤ m) (h1 : m ≤ 12) : cum y (m + 1) = cum y m + len y m := by
  rcases month_cases m h0 h1 with h | h | h | h | h | h | h | h | h | h | h | h <;> subst h <;> simp [cum, len] <;> omega
theorem cum_one (y : Int) : cum y 1 = 0 := by simp [cum]
theorem cum_end (y : Int) : cum y 13 = 365 + lp y := by simp [cum]; omega
theorem cum_mono (y m : Int) (h0 : 1 ≤ m) (k : Nat) (h1 : m + k ≤ 13) : cum y m ≤ cum y (m + k) := by
  induction k with
  | zero => simp
  | succ k ih =>
    have h := cum_succ y (m + k) (by omega) (by omega)
    have hl := len_lo y (m + k)
    have := ih (by omega)
    rw [show m + ((k + 1 : Nat) : Int) = m + k + 1 by omega, h]
    omega
theorem cum_le (y m n : Int) (h0 : 1 ≤ m) (h : m ≤ n) (h1 : n ≤ 13) : cum y m ≤ cum y n := by
  have := cum_mono y m h0 (n - m).toNat (by omega)
  rwa [show m + ((n - m).toNat : Int) = n by omega] at this
theorem beg_mono (a b : Int) (h : a ≤ b) : beg a ≤ beg b := by unfold beg; omega
theorem beg_first : beg 1900 = 0 := by decide
theorem beg_last : beg 2200 = 109573 := by decide
theorem num_succ_le (y m y' m' : Int) (h0 : 1 ≤ m) (h1 : m ≤ 12) (g0 : 1 ≤ m') (g1 : m' ≤ 12) (h : 12 * y + m < 12 * y' + m') : beg y + cum y m + len y m ≤ beg y' + cum y' m' := by
  rw [show beg y + cum y m + len y m = beg y + (cum y m + len y m) by omega, ← cum_succ y m h0 h1]
  rcases Int.lt_trichotomy y y' with hy | hy | hy
  · have a := cum_le y (m + 1) 13 (by omega) (by omega) (by omega)
    have b := cum_le y' 1 m' (by omega) (by omega) (by omega)
    have c := beg_mono (y + 1) y' (by omega)
    rw [cum_end] at a
    rw [cum_one] at b
    rw [beg_succ] at c
    omega
  · subst hy
    have := cum_le y (m + 1) m' (by omega) (by omega) (by omega)
    omega
  · omega
theorem num_lt {y m d y' m' d' : Int} (h : Valid y m d) (g : Valid y' m' d') (hl : 12 * y + m < 12 * y' + m') : num y m d < num y' m' d' := by
  have := num_succ_le y m y' m' h.m0 h.m1 g.m0 g.m1 hl
  have a := h.d1
  have b := g.d0
  unfold num; omega
theorem num_inj {y m d y' m' d' : Int} (h : Valid y m d) (g : Valid y' m' d') (e : num y m d = num y' m' d') : y = y' ∧ m = m' ∧ d = d' := by
  have a := h.m0; have b := h.m1; have c := g.m0; have f := g.m1
  rcases Int.lt_trichotomy (12 * y + m) (12 * y' + m') with hy | hy | hy
  · have := num_lt h g hy; omega
  · have e1 : y = y' := by omega
    have e2 : m = m' := by omega
    subst e1 e2
    exact ⟨rfl, rfl, by unfold num at e; omega⟩
  · have := num_lt g h hy; omega
theorem num_range {y m d : Int} (h : Valid y m d) : -25567 ≤ num y m d ∧ num y m d ≤ 84005 := by
  have a := beg_mono 1900 y h.y0
  have b := beg_mono (y + 1) 2200 (by have := h.y1; omega)
  have c := cum_le y 1 m (by omega) h.m0 (by have := h.m1; omega)
  have d := cum_le y (m + 1) 13 (by have := h.m0; omega) (by have := h.m1; omega) (by omega)
  rw [cum_succ y m h.m0 h.m1, cum_end] at d
  rw [beg_succ, beg_last] at b
  rw [beg_first] at a
  rw [cum_one] at c
  have e := h.d0; have f := h.d1
  unfold num; omega
/-- the date of a day -/
noncomputable def dateOf (n : Int) : Int × Int × Int := Classical.epsilon fun t => Valid t.1 t.2.1 t.2.2 ∧ num t.1 t.2.1 t.2.2 = n
noncomputable def yOf (n : Int) : Int := (dateOf n).1
noncomputable def mOf (n : Int) : Int := (dateOf n).2.1
noncomputable def dOf (n : Int) : Int := (dateOf n).2.2
theorem dateOf_eq {y m d n : Int} (h : Valid y m d) (e : num y m d = n) : yOf n = y ∧ mOf n = m ∧ dOf n = d := by
  have := Classical.epsilon_spec (p := fun t : Int × Int × Int => Valid t.1 t.2.1 t.2.2 ∧ num t.1 t.2.1 t.2.2 = n) ⟨(y, m, d), h, e⟩
  exact num_inj this.1 h (this.2.trans e.symm)
theorem year_exists (n : Int) (h0 : 0 ≤ n) (k : Nat) (h : n < beg (1900 + (k : Int))) : ∃ y : Int, 1900 ≤ y ∧ y < 1900 + (k : Int) ∧ beg y ≤ n ∧ n < beg (y + 1) := by
  induction k with
  | zero => have := beg_first; simp at h; omega
  | succ k ih =>
    by_cases hk : n < beg (1900 + k)
    · obtain ⟨y, a, b, c, d⟩ := ih hk
      exact ⟨y, a, by omega, c, d⟩
    · refine ⟨1900 + k, by omega, by omega, by omega, ?_⟩
      rw [show (1900 : Int) + ((k + 1 : Nat) : Int) = 1900 + k + 1 by omega] at h
      exact h
theorem month_exists (y r : Int) (h0 : 0 ≤ r) (k : Nat) (hk : k ≤ 12) (h : r < cum y (1 + (k : Int))) : ∃ m : Int, 1 ≤ m ∧ m < 1 + (k : Int) ∧ cum y m ≤ r ∧ r < cum y (m + 1) := by
  induction k with
  | zero => have := cum_one y; simp at h; omega
  | succ k ih =>
    by_cases hc : r < cum y (1 + k)
    · obtain ⟨m, a, b, c, d⟩ := ih (by omega) hc
      exact ⟨m, a, by omega, c, d⟩
    · refine ⟨1 + k, by omega, by omega, by omega, ?_⟩
      rw [show (1 : Int) + ((k + 1 : Nat) : Int) = 1 + k + 1 by omega] at h
      exact h
theorem date_exists (n : Int) (h0 : -25567 ≤ n) (h1 : n ≤ 84005) : ∃ y m d, Valid y m d ∧ num y m d = n := by
  obtain ⟨y, a, b, c, d⟩ := year_exists (n + 25567) (by omega) 300 (by show _ < beg 2200; rw [beg_last]; omega)
  rw [beg_succ] at d
  obtain ⟨m, e, f, g, i⟩ := month_exists y (n + 25567 - beg y) (by omega) 12 (by omega) (by show _ < cum y 13; rw [cum_end]; omega)
  rw [cum_succ y m (by omega) (by omega)] at i
  exact ⟨y, m, n + 25567 - beg y - cum y m + 1, ⟨a, by omega, e, by omega, by omega, by omega⟩, by unfold num; omega⟩
theorem date_valid (n : Int) (h0 : -25567 ≤ n) (h1 : n ≤ 84005) : Valid (yOf n) (mOf n) (dOf n) ∧ num (yOf n) (mOf n) (dOf n) = n := by
  obtain ⟨y, m, d, h, e⟩ := date_exists n h0 h1
  obtain ⟨a, b, c⟩ := dateOf_eq h e
  rw [a, b, c]
  exact ⟨h, e⟩
def okDay (d : Int) : Bool := decide (-25567 ≤ d ∧ d ≤ 84005)
theorem okDay_iff (d : Int) : okDay d = true ↔ -25567 ≤ d ∧ d ≤ 84005 := by unfold okDay; exact decide_eq_true_iff
/-- Of -/
def ofN (y m d : Int) : Int := if vdB y m d then num y m d else 0
def ofE (y m d : Int) : Int := if vdB y m d then 0 else 13
theorem of_yes {y m d : Int} (h : Valid y m d) : ofN y m d = num y m d ∧ ofE y m d = 0 := by
  have := (vdB_iff y m d).2 h
  simp [ofN, ofE, this]
/-- the month that lies k months behind the beginning of the years -/
noncomputable def monB (d n : Int) : Int := 12 * yOf d + mOf d - 1 + n
/-- AddMonths: the day and the error -/
noncomputable def addE (d n : Int) : Int := if okDay d then (if -4800 ≤ n ∧ n ≤ 4800 then (if 22800 ≤ monB d n ∧ monB d n < 26400 then 0 else 13) else 2) else 13
noncomputable def addD (d n : Int) : Int := num (monB d n / 12) (monB d n % 12 + 1) (min (dOf d) (len (monB d n / 12) (monB d n % 12 + 1)))
noncomputable def addN (d n : Int) : Int := if addE d n = 0 then addD d n else 0
theorem shift_valid (k d : Int) (h0 : 22800 ≤ k) (h1 : k < 26400) (hd : 1 ≤ d) : Valid (k / 12) (k % 12 + 1) (min d (len (k / 12) (k % 12 + 1))) := by
  have := len_lo (k / 12) (k % 12 + 1)
  exact ⟨by omega, by omega, by omega, by omega, by omega, by omega⟩
end Go.Proofs.YtjkpfjnhgbcnkaaDoor
