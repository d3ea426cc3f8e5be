/- Contracts of Parts, and of the reference's. -/
import Derived.Test.YtjkpfjnhgbcnkaaDoorOf
namespace Go.Proofs.YtjkpfjnhgbcnkaaDoor
open Go.RowKit

/-- what Parts returns -/
noncomputable def pY (d : Int) : Int := if okDay d then yOf d else 0
noncomputable def pM (d : Int) : Int := if okDay d then mOf d else 0
noncomputable def pD (d : Int) : Int := if okDay d then dOf d else 0
def pE (d : Int) : Int := if okDay d then 0 else 13
theorem p_no {d : Int} (h : okDay d = false) : pY d = 0 ∧ pM d = 0 ∧ pD d = 0 ∧ pE d = 13 := by simp [pY, pM, pD, pE, h]
theorem p_yes {d : Int} (h : okDay d = true) : pY d = yOf d ∧ pM d = mOf d ∧ pD d = dOf d ∧ pE d = 0 := by simp [pY, pM, pD, pE, h]
theorem fin4 {y m r d : Int} (h : okDay d = true) (y0 : 1900 ≤ y) (y1 : y ≤ 2199) (m0 : 1 ≤ m) (m1 : m ≤ 12) (r0 : 0 ≤ r) (r1 : r < len y m) (e : r = d + 25567 - beg y - cum y m) :
    y = pY d ∧ m = pM d ∧ r + 1 = pD d ∧ (0 : Int) = pE d := by
  have hv : Valid y m (r + 1) := ⟨y0, y1, m0, m1, by omega, by omega⟩
  obtain ⟨a, b, c⟩ := dateOf_eq hv (n := d) (by unfold num; omega)
  obtain ⟨a', b', c', d'⟩ := p_yes h
  exact ⟨by rw [a', a], by rw [b', b], by rw [c', c], d'.symm⟩

set_option maxHeartbeats 1000000 in
theorem Parts_any (d : Int) (w : World) : Calls Tryd.prog 22 #[.int .i64 d] w (Ret4 (pY d) (pM d) (pD d) (pE d) w) := by
  cases hd : okDay d
  · have HN := Lib.hid (p_no hd)
    go_enter Tryd.func22, Tryd.ntmps22
    go_wp2_with (go_at_call 34; refine (valid_no _ _ (by assumption)).mono ?_; rintro e w' ⟨rfl, rfl⟩)
    obtain ⟨a, b, c, e⟩ := HN.out
    refine bodyPost_ret (v := .tuple #[.int .i64 0, .int .i64 0, .int .i64 0, .int .i64 13]) (by simp [results, Tryd.results22, go_sem]) rfl ⟨tup4 a.symm b.symm c.symm e.symm, Below.refl _ _⟩
  · obtain ⟨d0, d1⟩ := (okDay_iff d).1 hd
    have hw : IntKind.i64.wrap (d - -25567) = d + 25567 := by rw [IntWalk.i64_in _ (by omega)]; omega
    go_enter Tryd.func22, Tryd.ntmps22
    go_wp2_with (go_at_call 34; refine (valid_yes _ _ (by assumption)).mono ?_; rintro e w' ⟨rfl, rfl⟩)
    go_loop [7] (fun n => ∃ y : Int, 1900 ≤ y ∧ y ≤ 2199 ∧ beg y ≤ d + 25567 ∧ n = .int .i64 y) (fun n => (2199 - intOf n).toNat)
    case atStart => exact ⟨_, by omega, by omega, by unfold beg; omega, rfl⟩
    case round =>
      obtain ⟨y, y0, y1, yb, rfl⟩ := hrel
      have hg1 := beg_mono 1900 y (by omega)
      have hg2 := beg_mono y 2200 (by omega)
      rw [beg_first] at hg1
      rw [beg_last] at hg2
      by_cases hk : beg (y + 1) ≤ d + 25567
      · have hy : y + 1 ≤ 2199 := by
          have := beg_mono 2200 (y + 1)
          rw [beg_last] at this
          omega
        go_wp2_with (go_at_call 37; refine (begin_any _ _ (by omega) (by omega)).mono ?_; rintro e w' ⟨rfl, rfl⟩)
        go_round
        case rel => exact ⟨y + 1, by omega, by omega, hk, by go_num⟩
        case measure => simp [intOf]; omega
      · have hs := beg_succ y
        have hl := lp_01 y
        have hr : d + 25567 - beg y < 365 + lp y := by omega
        have HR := Lib.hid hr
        have hr' : d + 25567 - beg y ≤ 365 := by omega
        clear hs hr
        go_wp2_with (go_at_call 37; refine (begin_any _ _ (by omega) (by omega)).mono ?_; rintro e w' ⟨rfl, rfl⟩)
        go_loopw [6, 8] (fun n i wr => ∃ k : Int, 1 ≤ k ∧ k ≤ 12 ∧ 0 ≤ d + 25567 - beg y - cum y k ∧ n = .int .i64 (d + 25567 - beg y - cum y k) ∧ i = .int .i64 k ∧ Below w.heap.size w wr) (fun _ i _ => (12 - intOf i).toNat)
        case atStart => exact ⟨1, by omega, by omega, by rw [cum_one]; omega, by rw [cum_one]; go_num, rfl, Below.refl _ _⟩
        case round =>
          obtain ⟨k, k0, k1, kb, rfl, rfl, hb⟩ := hrel
          have c0 := cum_le y 1 k (by omega) k0 (by omega)
          have c1 := cum_le y k 13 k0 (by omega) (by omega)
          have lk := len_lo y k
          rw [cum_one] at c0
          rw [cum_end] at c1
          have hs := Lib.hid (cum_succ y k k0 k1)
          by_cases hc : len y k ≤ d + 25567 - beg y - cum y k
          · have hk12 : k + 1 ≤ 12 := by
              rcases Int.lt_or_eq_of_le k1 with h | h
              · omega
              · subst h
                have := hs.out
                rw [show (12 : Int) + 1 = 13 from rfl, cum_end] at this
                have := HR.out
                omega
            go_wp2_with (go_at_call 32; refine (length_any _ _ _ (by omega) (by omega)).mono ?_; rintro e w3 ⟨rfl, hb3⟩; replace hb := hb.trans (hb3.mono hb.size); clear hb3)
            go_roundw
            case rel => exact ⟨k + 1, by omega, hk12, by rw [hs.out]; omega, by rw [hs.out]; go_num, by go_num, hb⟩
            case measure => simp [intOf]; omega
          · have hfin := Lib.hid (fin4 hd y0 y1 k0 k1 kb (by omega) rfl)
            go_wp2_with (go_at_call 32; refine (length_any _ _ _ (by omega) (by omega)).mono ?_; rintro e w3 ⟨rfl, hb3⟩)
            obtain ⟨a, b, c, e⟩ := hfin.out
            refine bodyPost_ret (v := .tuple #[.int .i64 y, .int .i64 k, .int .i64 (d + 25567 - beg y - cum y k + 1), .int .i64 0]) (by simp [results, Tryd.results22, go_sem]) rfl ⟨tup4 a b c e, hb.trans (hb3.mono hb.size)⟩
set_option maxHeartbeats 1000000 in
theorem rParts_any (d : Int) (w : World) : Calls Tryd.prog 23 #[.int .i64 d] w (Ret4 (pY d) (pM d) (pD d) (pE d) w) := by
  cases hd : okDay d
  · have HN := Lib.hid (p_no hd)
    go_enter Tryd.func23, Tryd.ntmps23
    go_wp2_with (go_at_call 36; refine (check_no _ _ (by assumption)).mono ?_; rintro e w' ⟨rfl, rfl⟩)
    obtain ⟨a, b, c, e⟩ := HN.out
    refine bodyPost_ret (v := .tuple #[.int .i64 0, .int .i64 0, .int .i64 0, .int .i64 13]) (by simp [results, Tryd.results23, go_sem]) rfl ⟨tup4 a.symm b.symm c.symm e.symm, Below.refl _ _⟩
  · obtain ⟨d0, d1⟩ := (okDay_iff d).1 hd
    have hw : IntKind.i64.wrap (d - -25567) = d + 25567 := by rw [IntWalk.i64_in _ (by omega)]; omega
    go_enter Tryd.func23, Tryd.ntmps23
    go_wp2_with (go_at_call 36; refine (check_yes _ _ (by assumption)).mono ?_; rintro e w' ⟨rfl, rfl⟩)
    go_loop [6, 7, 9] (fun n i _ => ∃ y : Int, 1900 ≤ y ∧ y ≤ 2199 ∧ beg y ≤ d + 25567 ∧ n = .int .i64 (d + 25567 - beg y) ∧ i = .int .i64 y) (fun _ i _ => (2199 - intOf i).toNat)
    case atStart => exact ⟨1900, by omega, by omega, by rw [beg_first]; omega, by rw [beg_first]; go_num, rfl⟩
    case round =>
      obtain ⟨y, y0, y1, yb, rfl, rfl⟩ := hrel
      have hg1 := beg_mono 1900 y (by omega)
      have hg2 := beg_mono y 2200 (by omega)
      rw [beg_first] at hg1
      rw [beg_last] at hg2
      have hs := Lib.hid (beg_succ y)
      by_cases hk : d + 25567 - beg y < 365 + lp y
      · have HR := Lib.hid hk
        have hl := lp_01 y
        have hr' : d + 25567 - beg y ≤ 365 := by omega
        have hsplit : (leapB y = false ∧ d + 25567 - beg y < 365) ∨ (leapB y = true ∧ d + 25567 - beg y < 366) := by
          cases hb : leapB y
          · exact .inl ⟨rfl, by have := lp_of_not hb; omega⟩
          · exact .inr ⟨rfl, by omega⟩
        clear hk
        rcases hsplit with ⟨hb, hk⟩ | ⟨hb, hk⟩
        all_goals
          go_wp2_with (go_at_call 27; refine (rleap_any _ _).mono ?_; rintro e w' ⟨rfl, rfl⟩)
          go_loop [6, 8] (fun n i => ∃ k : Int, 1 ≤ k ∧ k ≤ 12 ∧ 0 ≤ d + 25567 - beg y - cum y k ∧ n = .int .i64 (d + 25567 - beg y - cum y k) ∧ i = .int .i64 k) (fun _ i => (12 - intOf i).toNat)
          case atStart => exact ⟨1, by omega, by omega, by rw [cum_one]; omega, by rw [cum_one]; go_num, rfl⟩
          case round =>
            obtain ⟨k, k0, k1, kb, rfl, rfl⟩ := hrel
            have c0 := cum_le y 1 k (by omega) k0 (by omega)
            have c1 := cum_le y k 13 k0 (by omega) (by omega)
            have lk := len_lo y k
            rw [cum_one] at c0
            rw [cum_end] at c1
            have hs := Lib.hid (cum_succ y k k0 k1)
            by_cases hc : len y k ≤ d + 25567 - beg y - cum y k
            · have hk12 : k + 1 ≤ 12 := by
                rcases Int.lt_or_eq_of_le k1 with h | h
                · omega
                · subst h
                  have := hs.out
                  rw [show (12 : Int) + 1 = 13 from rfl, cum_end] at this
                  have := HR.out
                  omega
              go_wp2_with (go_at_call 33; refine (rlength_any _ _ _ (by omega) (by omega)).mono ?_; rintro e w3 ⟨rfl, rfl⟩)
              go_round
              case rel => exact ⟨k + 1, by omega, hk12, by rw [hs.out]; omega, by rw [hs.out]; go_num, by go_num⟩
              case measure => simp [intOf]; omega
            · have hfin := Lib.hid (fin4 hd y0 y1 k0 k1 kb (by omega) rfl)
              go_wp2_with (go_at_call 33; refine (rlength_any _ _ _ (by omega) (by omega)).mono ?_; rintro e w3 ⟨rfl, rfl⟩)
              obtain ⟨a, b, c, e⟩ := hfin.out
              refine bodyPost_ret (v := .tuple #[.int .i64 y, .int .i64 k, .int .i64 (d + 25567 - beg y - cum y k + 1), .int .i64 0]) (by simp [results, Tryd.results23, go_sem]) rfl ⟨tup4 a b c e, Below.refl _ _⟩
      · have hy : y + 1 ≤ 2199 := by
          have := beg_mono 2200 (y + 1)
          have := hs.out
          rw [beg_last] at *
          omega
        cases hb : leapB y
        · have HL := Lib.hid (lp_of_not hb)
          have hk' : 365 ≤ d + 25567 - beg y := by have := HL.out; omega
          clear hk
          go_wp2_with (go_at_call 27; refine (rleap_any _ _).mono ?_; rintro e w' ⟨rfl, rfl⟩)
          go_round
          case rel => exact ⟨y + 1, by omega, by omega, by rw [hs.out, HL.out]; omega, by rw [hs.out, HL.out]; go_num, by go_num⟩
          case measure => simp [intOf]; omega
        · have HL := Lib.hid (lp_of_leap hb)
          have hk' : 366 ≤ d + 25567 - beg y := by have := HL.out; omega
          clear hk
          go_wp2_with (go_at_call 27; refine (rleap_any _ _).mono ?_; rintro e w' ⟨rfl, rfl⟩)
          go_round
          case rel => exact ⟨y + 1, by omega, by omega, by rw [hs.out, HL.out]; omega, by rw [hs.out, HL.out]; go_num, by go_num⟩
          case measure => simp [intOf]; omega
end Go.Proofs.YtjkpfjnhgbcnkaaDoor
