/- Contracts of Print and awake. -/
import Derived.Test.YtjkpfjnhgbcnkaaDoorMon
import Derived.Test.YtjkpfjnhgbcnkaaDoorShelf
import Derived.Lib.SmallJoins
namespace Go.Proofs.YtjkpfjnhgbcnkaaDoor
open Go.RowKit

/-- the table of the powers of ten holds them -/
def Tab (w : World) : Prop := Lib.TabIs Tryd.prog w "internal/strconv.uint64pow10" .u64 Lib.pow10Tab
theorem gPow : Tryd.prog.globalNamed "internal/strconv.uint64pow10" = some 1 := by kernel_rfl
theorem Tab.below {w w' : World} (h : Tab w) (hb : Below w.heap.size w w') : Tab w' := Joins.tab_stays gPow h hb (Nat.le_refl _)
def dg (k : Nat) : UInt8 := UInt8.ofNat (48 + k)
theorem dec1 (n : Nat) (h : n < 10) : Lib.decDigits n = [dg n] := by rw [Lib.decDigits, dif_pos h]; rfl
theorem dec2 (n : Nat) (h : 10 ≤ n) (h' : n < 100) : Lib.decDigits n = [dg (n / 10), dg (n % 10)] := by
  rw [Lib.decDigits, dif_neg (by omega), dec1 _ (by omega)]; rfl
theorem dec4 (n : Nat) (h : 1000 ≤ n) (h' : n < 10000) : Lib.decDigits n = [dg (n / 1000), dg (n / 100 % 10), dg (n / 10 % 10), dg (n % 10)] := by
  rw [Lib.decDigits, dif_neg (by omega), Lib.decDigits, dif_neg (by omega), dec2 _ (by omega) (by omega), show n / 10 / 10 / 10 = n / 1000 by omega, show n / 10 / 10 % 10 = n / 100 % 10 by omega]; rfl
def dig2 (n : Nat) : List UInt8 := [dg (n / 10), dg (n % 10)]
def dig4 (n : Nat) : List UInt8 := [dg (n / 1000), dg (n / 100 % 10), dg (n / 10 % 10), dg (n % 10)]
def textL (y m d : Int) : List UInt8 := dig4 y.toNat ++ [45] ++ dig2 m.toNat ++ [45] ++ dig2 d.toNat
theorem itoa1 (n : Nat) (w : World) (h : n < 10) : Calls Tryd.prog 40 #[.int .i64 (n : Int)] w fun e w' => e = .returned (.string ⟨#[dg n]⟩) ∧ w = w' :=
  (Tryd.strconv_Itoa_small n (by omega) w).mono fun _ _ ⟨he, hw⟩ => ⟨by rw [he, dec1 n h], hw.symm⟩
theorem itoa2 (n : Nat) (w : World) (h : 10 ≤ n) (h' : n < 100) : Calls Tryd.prog 40 #[.int .i64 (n : Int)] w fun e w' => e = .returned (.string ⟨#[dg (n / 10), dg (n % 10)]⟩) ∧ w = w' :=
  (Tryd.strconv_Itoa_small n (by omega) w).mono fun _ _ ⟨he, hw⟩ => ⟨by rw [he, dec2 n h h'], hw.symm⟩
theorem itoa4 (n : Int) (w : World) (h : 1000 ≤ n) (h' : n < 10000) (ht : Tab w) : Calls Tryd.prog 40 #[.int .i64 n] w fun e w' => e = .returned (.string ⟨#[dg (n.toNat / 1000), dg (n.toNat / 100 % 10), dg (n.toNat / 10 % 10), dg (n.toNat % 10)]⟩) ∧ Below w.heap.size w w' :=
  (Tryd.strconv_Itoa n (by omega) (by omega) w ht).mono fun _ _ ⟨he, k, os, hw⟩ => ⟨by
    rw [he]
    have : Lib.itoa n = Lib.decDigits n.toNat := by rw [Lib.itoa, if_neg (by omega)]
    rw [this, dec4 n.toNat (by omega) (by omega)], by
    rw [hw]; exact ⟨rfl, rfl, rfl, by simp [Sort.grow, World.drewN], fun j hj => by simp [Sort.grow, World.drewN, Array.getElem?_append, hj]⟩⟩
theorem two_any (n : Int) (w : World) (h : 1 ≤ n) (h' : n ≤ 31) : Calls Tryd.prog 38 #[.int .i64 n] w fun e w' => e = .returned (.string ⟨#[dg (n.toNat / 10), dg (n.toNat % 10)]⟩) ∧ w = w' := by
  obtain ⟨k, rfl⟩ := Int.eq_ofNat_of_zero_le (show 0 ≤ n by omega)
  rw [Int.toNat_natCast]
  by_cases hk : k < 10
  · have H := Lib.hid (show dg (k / 10) = 48 ∧ dg (k % 10) = dg k by rw [Nat.div_eq_of_lt hk, Nat.mod_eq_of_lt hk]; exact ⟨rfl, rfl⟩)
    generalize hx : dg k = x at *
    have HX := Lib.hid hx
    have hit : ∀ w, Calls Tryd.prog 40 #[.int .i64 (k : Int)] w fun e w' => e = .returned (.string ⟨#[x]⟩) ∧ w = w' := fun w => by rw [← hx]; exact itoa1 k w hk
    have HI := Lib.hid hit
    clear hx hit
    go_enter Tryd.func38, Tryd.ntmps38
    go_wp2_with fail
    refine (HI.out _).mono ?_
    rintro e w1 ⟨rfl, rfl⟩
    go_wp2_with fail
    refine (Tryd.strings_Repeat_one _ _).mono ?_
    rintro e w1 ⟨rfl, rfl⟩
    go_wp2_with fail
    refine (HI.out _).mono ?_
    rintro e w1 ⟨rfl, rfl⟩
    go_wp2_with fail
    go_ret
    exact ⟨by rw [H.out.1, H.out.2]; rfl, rfl⟩
  · generalize hx : dg (k / 10) = x at *
    generalize hy : dg (k % 10) = y at *
    have hit : ∀ w, Calls Tryd.prog 40 #[.int .i64 (k : Int)] w fun e w' => e = .returned (.string ⟨#[x, y]⟩) ∧ w = w' := fun w => by rw [← hx, ← hy]; exact itoa2 k w (by omega) (by omega)
    have HI := Lib.hid hit
    clear hx hy hit
    go_enter Tryd.func38, Tryd.ntmps38
    go_wp2_with fail
    refine (HI.out _).mono ?_
    rintro e w1 ⟨rfl, rfl⟩
    go_wp2_with fail
    refine (Tryd.strings_Repeat_zero _ _).mono ?_
    rintro e w1 ⟨rfl, rfl⟩
    go_wp2_with fail
    refine (HI.out _).mono ?_
    rintro e w1 ⟨rfl, rfl⟩
    go_wp2_with fail
    go_ret
    exact ⟨rfl, rfl⟩
def RetS (s : List UInt8) (n : Int) (w : World) (e : Ending) (w' : World) : Prop := e = .returned (.tuple #[.string ⟨s.toArray⟩, .int .i64 n]) ∧ Below w.heap.size w w'
noncomputable def prS (d : Int) : List UInt8 := if okDay d then textL (yOf d) (mOf d) (dOf d) else []
theorem Print_any (d : Int) (w : World) (ht : Tab w) : Calls Tryd.prog 28 #[.int .i64 d] w (RetS (prS d) (dayE d) w) := by
  cases hd : okDay d
  · have HN := Lib.hid (show prS d = [] ∧ dayE d = 13 by simp [prS, dayE, hd])
    go_enter Tryd.func28, Tryd.ntmps28
    go_wp2_with (go_at_call 22; refine (Parts_no _ _ (by assumption)).mono ?_; rintro e w' ⟨rfl, hb⟩)
    go_ret2
    exact ⟨by rw [HN.out.1, HN.out.2]; rfl, hb⟩
  · obtain ⟨d0, d1⟩ := (okDay_iff d).1 hd
    have hv := (date_valid d d0 d1).1
    have y0 := hv.y0; have y1 := hv.y1; have m0 := hv.m0; have m1 := hv.m1; have q0 := hv.d0; have q1 := hv.d1
    have hl := len_lo (yOf d) (mOf d)
    have HN := Lib.hid (show prS d = textL (yOf d) (mOf d) (dOf d) ∧ dayE d = 0 by simp [prS, dayE, hd])
    clear hv
    go_enter Tryd.func28, Tryd.ntmps28
    go_wp2_with fail
    refine (Parts_yes _ _ hd).mono ?_
    rintro e w1 ⟨rfl, hb1⟩
    have ht1 := ht.below hb1
    go_wp2_with fail
    refine (itoa4 _ _ (by omega) (by omega) ht1).mono ?_
    rintro e w2 ⟨rfl, hb2⟩
    have hT := Lib.hid (show textL (yOf d) (mOf d) (dOf d) = dig4 (yOf d).toNat ++ [45] ++ dig2 (mOf d).toNat ++ [45] ++ dig2 (dOf d).toNat from rfl)
    generalize h1 : dg ((yOf d).toNat / 1000) = c1 at *
    generalize h2 : dg ((yOf d).toNat / 100 % 10) = c2 at *
    generalize h3 : dg ((yOf d).toNat / 10 % 10) = c3 at *
    generalize h4 : dg ((yOf d).toNat % 10) = c4 at *
    have HH := Lib.hid (And.intro h1 (And.intro h2 (And.intro h3 h4)))
    clear h1 h2 h3 h4
    go_wp2_with fail
    refine (two_any _ _ (by omega) (by omega)).mono ?_
    rintro e w3 ⟨rfl, rfl⟩
    generalize h1 : dg ((mOf d).toNat / 10) = c5 at *
    generalize h2 : dg ((mOf d).toNat % 10) = c6 at *
    have HG := Lib.hid (And.intro h1 h2)
    clear h1 h2
    go_wp2_with fail
    refine (two_any _ _ (by omega) (by omega)).mono ?_
    rintro e w3 ⟨rfl, rfl⟩
    generalize h1 : dg ((dOf d).toNat / 10) = c7 at *
    generalize h2 : dg ((dOf d).toNat % 10) = c8 at *
    have HF := Lib.hid (And.intro h1 h2)
    clear h1 h2
    go_wp2_with fail
    go_ret2
    refine ⟨?_, hb1.trans (hb2.mono hb1.size)⟩
    obtain ⟨e1, e2, e3, e4⟩ := HH.out
    obtain ⟨e5, e6⟩ := HG.out
    obtain ⟨e7, e8⟩ := HF.out
    rw [HN.out.1, HN.out.2, hT.out, dig4, dig2, dig2, e1, e2, e3, e4, e5, e6, e7, e8]
    rfl
end Go.Proofs.YtjkpfjnhgbcnkaaDoor
