/- Contracts of Of and Parts, and of the reference's. -/
import Derived.Test.YtjkpfjnhgbcnkaaDoorBase
namespace Go.Proofs.YtjkpfjnhgbcnkaaDoor
open Go.RowKit

def Ret2 (a b : Int) (w : World) (e : Ending) (w' : World) : Prop := e = .returned (.tuple #[.int .i64 a, .int .i64 b]) ∧ Below w.heap.size w w'
def Ret4 (a b c d : Int) (w : World) (e : Ending) (w' : World) : Prop := e = .returned (.tuple #[.int .i64 a, .int .i64 b, .int .i64 c, .int .i64 d]) ∧ Below w.heap.size w w'
theorem of_no {y m d : Int} (h : ¬ Valid y m d) : ofN y m d = 0 ∧ ofE y m d = 13 := by
  have : ¬ vdB y m d = true := fun h' => h ((vdB_iff y m d).1 h')
  simp [ofN, ofE, this]
theorem tup2 {a b c d : Int} (h : a = c) (g : b = d) : Ending.returned (.tuple #[.int .i64 a, .int .i64 b]) = .returned (.tuple #[.int .i64 c, .int .i64 d]) := by rw [h, g]
theorem tup4 {a b c d a' b' c' d' : Int} (h : a = a') (g : b = b') (i : c = c') (j : d = d') : Ending.returned (.tuple #[.int .i64 a, .int .i64 b, .int .i64 c, .int .i64 d]) = .returned (.tuple #[.int .i64 a', .int .i64 b', .int .i64 c', .int .i64 d']) := by rw [h, g, i, j]

set_option maxHeartbeats 1000000 in
theorem Of_any (y m d : Int) (w : World) : Calls Tryd.prog 19 #[.int .i64 y, .int .i64 m, .int .i64 d] w (Ret2 (ofN y m d) (ofE y m d) w) := by
  by_cases h1 : y < 1900
  · have HN := Lib.hid (of_no (y := y) (m := m) (d := d) (fun h => by have := h.y0; omega))
    go_enter Tryd.func19, Tryd.ntmps19
    go_wp2
    go_ret2
    exact ⟨tup2 HN.out.1.symm HN.out.2.symm, Below.refl _ _⟩
  by_cases h2 : 2199 < y
  · have HN := Lib.hid (of_no (y := y) (m := m) (d := d) (fun h => by have := h.y1; omega))
    go_enter Tryd.func19, Tryd.ntmps19
    go_wp2
    go_ret2
    exact ⟨tup2 HN.out.1.symm HN.out.2.symm, Below.refl _ _⟩
  by_cases h3 : m < 1
  · have HN := Lib.hid (of_no (y := y) (m := m) (d := d) (fun h => by have := h.m0; omega))
    go_enter Tryd.func19, Tryd.ntmps19
    go_wp2
    go_ret2
    exact ⟨tup2 HN.out.1.symm HN.out.2.symm, Below.refl _ _⟩
  by_cases h4 : 12 < m
  · have HN := Lib.hid (of_no (y := y) (m := m) (d := d) (fun h => by have := h.m1; omega))
    go_enter Tryd.func19, Tryd.ntmps19
    go_wp2
    go_ret2
    exact ⟨tup2 HN.out.1.symm HN.out.2.symm, Below.refl _ _⟩
  by_cases h5 : d < 1
  · have HN := Lib.hid (of_no (y := y) (m := m) (d := d) (fun h => by have := h.d0; omega))
    go_enter Tryd.func19, Tryd.ntmps19
    go_wp2
    go_ret2
    exact ⟨tup2 HN.out.1.symm HN.out.2.symm, Below.refl _ _⟩
  by_cases h6 : len y m < d
  · have HN := Lib.hid (of_no (y := y) (m := m) (d := d) (fun h => by have := h.d1; omega))
    have hd : decide (len y m < d) = true := by simp [h6]
    go_enter Tryd.func19, Tryd.ntmps19
    go_wp2_with (go_at_call 32; refine (length_any _ _ _ (by omega) (by omega)).mono ?_; rintro e w' ⟨rfl, hb⟩)
    go_ret2
    exact ⟨tup2 HN.out.1.symm HN.out.2.symm, hb⟩
  have hd : decide (len y m < d) = false := by simp; omega
  have hv : Valid y m d := ⟨by omega, by omega, by omega, by omega, by omega, by omega⟩
  have HN := Lib.hid (of_yes hv)
  have hl := len_lo y m
  have hg1 := beg_mono 1900 y (by omega)
  have hg2 := beg_mono y 2200 (by omega)
  rw [beg_first] at hg1
  rw [beg_last] at hg2
  have g1 : 1900 ≤ y := by omega
  have g2 : y ≤ 2199 := by omega
  have g3 : 1 ≤ m := by omega
  have g4 : m ≤ 12 := by omega
  have g5 : 1 ≤ d := by omega
  clear hv
  go_enter Tryd.func19, Tryd.ntmps19
  go_wp2_with (first
    | (go_at_call 32; refine (length_any _ _ _ (by omega) (by omega)).mono ?_; rintro e w1 ⟨rfl, hb⟩)
    | (go_at_call 37; refine (begin_any _ _ (by omega) (by omega)).mono ?_; rintro e w2 ⟨rfl, rfl⟩))
  go_loopw [8, 9] (fun n i wr => ∃ k : Int, 1 ≤ k ∧ k ≤ m ∧ n = .int .i64 (beg y + d - 1 + cum y k) ∧ i = .int .i64 k ∧ Below w.heap.size w wr) (fun _ i _ => (m - intOf i).toNat)
  case atStart => exact ⟨1, by omega, g3, by rw [cum_one]; go_num, rfl, hb⟩
  case round =>
    obtain ⟨k, k1, k2, rfl, rfl, hbr⟩ := hrel
    have c0 := cum_le y 1 k (by omega) k1 (by omega)
    have c1 := cum_le y k 13 k1 (by omega) (by omega)
    have lb := lp_01 y
    rw [cum_one] at c0
    rw [cum_end] at c1
    by_cases hk : k < m
    · have hs := Lib.hid (cum_succ y k k1 (by omega))
      have hlk := len_lo y k
      go_wp2_with (go_at_call 32; refine (length_any _ _ _ (by omega) (by omega)).mono ?_; rintro e w3 ⟨rfl, hb3⟩)
      go_roundw
      case rel => exact ⟨k + 1, by omega, by omega, by rw [hs.out]; go_num, by go_num, hbr.trans (hb3.mono hbr.size)⟩
      case measure => simp [intOf]; omega
    · have he := Lib.hid (show k = m by omega)
      go_wp2
      go_ret2
      exact ⟨tup2 (by rw [HN.out.1, num, ← he.out]; omega) HN.out.2.symm, hbr⟩
set_option maxHeartbeats 1000000 in
theorem rOf_any (y m d : Int) (w : World) : Calls Tryd.prog 21 #[.int .i64 y, .int .i64 m, .int .i64 d] w (Ret2 (ofN y m d) (ofE y m d) w) := by
  by_cases h1 : y < 1900
  · have HN := Lib.hid (of_no (y := y) (m := m) (d := d) (fun h => by have := h.y0; omega))
    go_enter Tryd.func21, Tryd.ntmps21
    go_wp2
    go_ret2
    exact ⟨tup2 HN.out.1.symm HN.out.2.symm, Below.refl _ _⟩
  by_cases h2 : 2199 < y
  · have HN := Lib.hid (of_no (y := y) (m := m) (d := d) (fun h => by have := h.y1; omega))
    go_enter Tryd.func21, Tryd.ntmps21
    go_wp2
    go_ret2
    exact ⟨tup2 HN.out.1.symm HN.out.2.symm, Below.refl _ _⟩
  by_cases h3 : m < 1
  · have HN := Lib.hid (of_no (y := y) (m := m) (d := d) (fun h => by have := h.m0; omega))
    go_enter Tryd.func21, Tryd.ntmps21
    go_wp2
    go_ret2
    exact ⟨tup2 HN.out.1.symm HN.out.2.symm, Below.refl _ _⟩
  by_cases h4 : 12 < m
  · have HN := Lib.hid (of_no (y := y) (m := m) (d := d) (fun h => by have := h.m1; omega))
    go_enter Tryd.func21, Tryd.ntmps21
    go_wp2
    go_ret2
    exact ⟨tup2 HN.out.1.symm HN.out.2.symm, Below.refl _ _⟩
  by_cases h5 : d < 1
  · have HN := Lib.hid (of_no (y := y) (m := m) (d := d) (fun h => by have := h.d0; omega))
    go_enter Tryd.func21, Tryd.ntmps21
    go_wp2
    go_ret2
    exact ⟨tup2 HN.out.1.symm HN.out.2.symm, Below.refl _ _⟩
  by_cases h6 : len y m < d
  · have HN := Lib.hid (of_no (y := y) (m := m) (d := d) (fun h => by have := h.d1; omega))
    have hd : decide (len y m < d) = true := by simp [h6]
    go_enter Tryd.func21, Tryd.ntmps21
    go_wp2_with (go_at_call 33; refine (rlength_any _ _ _ (by omega) (by omega)).mono ?_; rintro e w' ⟨rfl, rfl⟩)
    go_ret2
    exact ⟨tup2 HN.out.1.symm HN.out.2.symm, Below.refl _ _⟩
  have hd : decide (len y m < d) = false := by simp; omega
  have hv : Valid y m d := ⟨by omega, by omega, by omega, by omega, by omega, by omega⟩
  have HN := Lib.hid (of_yes hv)
  have hl := len_lo y m
  have hg1 := beg_mono 1900 y (by omega)
  have hg2 := beg_mono y 2200 (by omega)
  rw [beg_first] at hg1
  rw [beg_last] at hg2
  have g1 : 1900 ≤ y := by omega
  have g2 : y ≤ 2199 := by omega
  have g3 : 1 ≤ m := by omega
  have g4 : m ≤ 12 := by omega
  have g5 : 1 ≤ d := by omega
  clear hv
  go_enter Tryd.func21, Tryd.ntmps21
  go_wp2_with (go_at_call 33; refine (rlength_any _ _ _ (by omega) (by omega)).mono ?_; rintro e w1 ⟨rfl, rfl⟩)
  go_loop [8, 9] (fun n i => ∃ k : Int, 1900 ≤ k ∧ k ≤ y ∧ n = .int .i64 (-25567 + d - 1 + beg k) ∧ i = .int .i64 k) (fun _ i => (y - intOf i).toNat)
  case atStart => exact ⟨1900, by omega, g1, by rw [beg_first]; go_num, rfl⟩
  case round =>
    obtain ⟨k, k1, k2, rfl, rfl⟩ := hrel
    have c0 := beg_mono 1900 k k1
    have c1 := beg_mono k 2200 (by omega)
    rw [beg_first] at c0
    rw [beg_last] at c1
    by_cases hk : k < y
    · have hs := Lib.hid (beg_succ k)
      cases hb : leapB k
      · have HL := Lib.hid (lp_of_not hb)
        go_wp2_with (go_at_call 27; refine (rleap_any _ _).mono ?_; rintro e w' ⟨rfl, rfl⟩)
        go_round
        case rel => exact ⟨k + 1, by omega, by omega, by rw [hs.out, HL.out]; go_num, by go_num⟩
        case measure => simp [intOf]; omega
      · have HL := Lib.hid (lp_of_leap hb)
        go_wp2_with (go_at_call 27; refine (rleap_any _ _).mono ?_; rintro e w' ⟨rfl, rfl⟩)
        go_round
        case rel => exact ⟨k + 1, by omega, by omega, by rw [hs.out, HL.out]; go_num, by go_num⟩
        case measure => simp [intOf]; omega
    · have hky := Lib.hid (show k = y by omega)
      go_wp2_with fail
      go_loop [8, 10] (fun n i => ∃ j : Int, 1 ≤ j ∧ j ≤ m ∧ n = .int .i64 (-25567 + d - 1 + beg k + cum y j) ∧ i = .int .i64 j) (fun _ i => (m - intOf i).toNat)
      case atStart => exact ⟨1, by omega, g3, by rw [cum_one]; go_num, rfl⟩
      case round =>
        obtain ⟨j, j1, j2, rfl, rfl⟩ := hrel
        have c2 := cum_le y 1 j (by omega) j1 (by omega)
        have c3 := cum_le y j 13 j1 (by omega) (by omega)
        have lb := lp_01 y
        rw [cum_one] at c2
        rw [cum_end] at c3
        by_cases hj : j < m
        · have hs := Lib.hid (cum_succ y j j1 (by omega))
          have hlk := len_lo y j
          go_wp2_with (go_at_call 33; refine (rlength_any _ _ _ (by omega) (by omega)).mono ?_; rintro e w3 ⟨rfl, rfl⟩)
          go_round
          case rel => exact ⟨j + 1, by omega, by omega, by rw [hs.out]; go_num, by go_num⟩
          case measure => simp [intOf]; omega
        · have he := Lib.hid (show j = m by omega)
          go_wp2
          go_ret2
          exact ⟨tup2 (by rw [HN.out.1, num, ← he.out, ← hky.out]; omega) HN.out.2.symm, Below.refl _ _⟩
end Go.Proofs.YtjkpfjnhgbcnkaaDoor
