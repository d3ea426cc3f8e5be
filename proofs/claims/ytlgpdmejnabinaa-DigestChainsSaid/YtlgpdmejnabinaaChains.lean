/- The walk of DigestChains. -/
import Derived.Test.YtlgpdmejnabinaaConcat
import Derived.Test.YtlgpdmejnabinaaRoots
import Derived.Test.YtlgpdmejnabinaaEq
import Derived.Deep.DeepCutAuto
namespace Go.Proofs.Ytlgpdmejnabinaa
open Go.RowKit Go.Sort

theorem getD_append_lt (a b : List ByteArray) (j : Nat) (h : j < a.length) : (a ++ b).getD j ByteArray.empty = a.getD j ByteArray.empty := by
  rw [List.getD_eq_getElem?_getD, List.getD_eq_getElem?_getD, List.getElem?_append_left h]
theorem getD_append_ge (a b : List ByteArray) (j : Nat) : (a ++ b).getD (a.length + j) ByteArray.empty = b.getD j ByteArray.empty := by
  rw [List.getD_eq_getElem?_getD, List.getD_eq_getElem?_getD, List.getElem?_append_right (by omega), Nat.add_sub_cancel_left]
theorem chainTo_front (s : ByteArray) (a b : List ByteArray) (k : Nat) (h : k ≤ a.length) : chainTo s (a ++ b) k = chainTo s a k := by
  induction k with
  | zero => rfl
  | succ k ih => rw [chainTo, chainTo, ih (by omega), getD_append_lt a b k (by omega)]
theorem chainTo_back (s : ByteArray) (a b : List ByteArray) (k : Nat) :
    chainTo s (a ++ b) (a.length + k) = ((chainTo (chainTo s a a.length).1 b k).1, (chainTo s a a.length).2 ++ (chainTo (chainTo s a a.length).1 b k).2) := by
  induction k with
  | zero => rw [Nat.add_zero, chainTo_front s a b a.length (Nat.le_refl _), chainTo]; simp
  | succ k ih => rw [← Nat.add_assoc, chainTo, ih, getD_append_ge, chainTo]; simp
theorem chainL_append (s : ByteArray) (a b : List ByteArray) : chainL s (a ++ b) = chainL s a ++ chainL (chainTo s a a.length).1 b := by
  rw [chainL, List.length_append, chainTo_back]; rfl
theorem chainTo_get (s : ByteArray) (l : List ByteArray) (k j : Nat) (h : j < k) : (chainTo s l k).2.getD j ByteArray.empty = (chainTo s l (j + 1)).1 := by
  induction k with
  | zero => omega
  | succ k ih =>
    rw [chainTo]
    by_cases e : j = k
    · subst e
      have hl := chainTo_len s l j
      show ((chainTo s l j).2 ++ [dig ((chainTo s l j).1 ++ l.getD j ByteArray.empty)]).getD j ByteArray.empty = _
      have := getD_append_ge (chainTo s l j).2 [dig ((chainTo s l j).1 ++ l.getD j ByteArray.empty)] 0
      rw [hl, Nat.add_zero] at this
      rw [this, chainTo]; rfl
    · show ((chainTo s l k).2 ++ _).getD j ByteArray.empty = _
      rw [getD_append_lt _ _ _ (by rw [chainTo_len]; omega)]
      exact ih (by omega)
theorem chainL_len (s : ByteArray) (l : List ByteArray) : (chainL s l).length = l.length := chainTo_len _ _ _
theorem strs_pair (w : World) (A B : Option Addr) (n c m d : Nat) : (w.alloc (.cells #[.slice A n c, .slice B m d] 27)).cell? ⟨w.heap.size, 0, none⟩ = some (.slice A n c) ∧ (w.alloc (.cells #[.slice A n c, .slice B m d] 27)).cell? ⟨w.heap.size, 1, none⟩ = some (.slice B m d) := by
  constructor <;> rw [cell_of_row _ _ _ _ _ _ (heap_alloc_new w _)] <;> rfl
theorem strs1' (w : World) (s : ByteArray) : Strs (w.alloc (.cells #[.string s] 9)) (some ⟨w.heap.size, 0, none⟩) 1 1 [s] :=
  ⟨rfl, Nat.le_refl _, by omega, fun _ => ⟨w.heap.size, 0, rfl, by simp, fun k hk => by
    obtain rfl : k = 0 := by omega
    rw [cell_of_row _ _ _ _ _ _ (heap_alloc_new w _)]; rfl⟩⟩
theorem belowA (w : World) (o : Obj) : Below w.heap.size w (w.alloc o) := (Below.refl _ _).alloc (Nat.le_refl _) _
set_option maxHeartbeats 4000000 in
set_option maxRecDepth 100000 in
theorem chains_law (s : ByteArray) (A : Option Addr) (n c : Nat) (a : List ByteArray) (B : Option Addr) (m d : Nat) (b : List ByteArray) (w : World) (hs : s.size ≤ 9223372036854775807)
    (h : Strs w A n c a) (ha : ∀ x ∈ a, x.size ≤ 9223372036854775807) (k : Strs w B m d b) (hb : ∀ x ∈ b, x.size ≤ 9223372036854775807) :
    Calls Try.prog 7 #[.string s, .slice A n c, .slice B m d] w fun e w' => e = .returned (.bool true) ∧ Below w.heap.size w w' := by
  have hb1 : Below w.heap.size w (w.alloc (.cells #[.string s] 9)) := belowA _ _
  have h1 := h.below hb1
  have k1 := k.below hb1
  cases hg : greatB [s]
  · cases hga : greatB a
    · cases hgb : greatB b
      · have hs200 : s.size ≤ 200 := (not_great [s] hg).2 s (by simp)
        obtain ⟨ha12, ha200⟩ := not_great a hga
        obtain ⟨hb12, hb200⟩ := not_great b hgb
        have hla := h.len
        have hlb := k.len
        have hn12 : n ≤ 12 := by omega
        have hm12 : m ≤ 12 := by omega
        have za : ∀ x ∈ a, x.size ≤ 1000000 := fun x hx => Nat.le_trans (ha200 x hx) (by omega)
        have zb : ∀ x ∈ b, x.size ≤ 1000000 := fun x hx => Nat.le_trans (hb200 x hx) (by omega)
        have zab : ∀ x ∈ a ++ b, x.size ≤ 1000000 := fun x hx => by
          rcases List.mem_append.1 hx with hx | hx
          · exact za x hx
          · exact zb x hx
        have Z := Lib.hid (And.intro za (And.intro zb (And.intro zab (And.intro hla hlb))))
        clear ha12 hb12 ha200 hb200 za zb zab hla hlb
        go_enter Try.func7, Try.ntmps7
        go_wp2_with fail
        refine (great_any _ 1 1 [s] _ (strs1' w s) (by simpa using hs)).mono ?_
        rintro e w1 ⟨rfl, rfl⟩
        rw [hg]
        go_wp2_with fail
        refine (great_any A n c a _ h1 ha).mono ?_
        rintro e w1 ⟨rfl, rfl⟩
        rw [hga]
        go_wp2_with fail
        refine (great_any B m d b _ k1 hb).mono ?_
        rintro e w1 ⟨rfl, rfl⟩
        rw [hgb]
        generalize hw1 : w.alloc (.cells #[.string s] 9) = w1 at *
        clear hw1
        go_wp2_with fail
        have hb2 := belowA w1 (.cells #[.slice A n c, .slice B m d] 27)
        refine (concat_any w1.heap.size A B n c m d a b _ (by simp) (strs_pair w1 A B n c m d).1 (strs_pair w1 A B n c m d).2 (h1.below hb2) (k1.below hb2) (by omega) (by omega)).mono ?_
        rintro e w2 ⟨v2, rfl, ho2, hb2'⟩
        have b2 : Below w.heap.size w w2 := (hb1.trans (hb2.mono hb1.size)).trans (hb2'.mono (by have := hb1.size; simp; omega))
        obtain ⟨A2, c2, rfl, hs2⟩ := ho2.strs
        have hlab : (a ++ b).length = n + m := by rw [List.length_append, Z.out.2.2.2.1, Z.out.2.2.2.2]
        rw [hlab] at hs2 ⊢
        clear ho2 hb2 hb2' hlab
        go_wp2_with fail
        refine (chain_any s A2 (n + m) c2 (a ++ b) _ hs2 (by omega) Z.out.2.2.1 (by omega)).mono ?_
        rintro e w3 ⟨v3, rfl, ho3, hb3⟩
        have b3 : Below w.heap.size w w3 := b2.trans (hb3.mono b2.size)
        clear hs2 hb3
        go_wp2_with fail
        refine (chain_any s A n c a _ (h.below b3) (by omega) Z.out.1 (by omega)).mono ?_
        rintro e w4 ⟨v4, rfl, ho4, hb4⟩
        have b4 : Below w.heap.size w w4 := b3.trans (hb4.mono b3.size)
        have ho34 := ho3.below hb4
        clear ho3 hb4
        obtain ⟨A3, c3, rfl, hs3⟩ := ho34.strs
        obtain ⟨A4, c4, rfl, hs4⟩ := ho4.strs
        have l3 : (chainL s (a ++ b)).length = n + m := by rw [chainL_len, List.length_append, Z.out.2.2.2.1, Z.out.2.2.2.2]
        have l4 : (chainL s a).length = n := by rw [chainL_len, Z.out.2.2.2.1]
        rw [l3] at hs3 ⊢
        rw [l4] at hs4 ⊢
        clear l3 l4 ho34 ho4
        obtain ⟨L, hL⟩ : ∃ L, L = (chainTo s a n).1 := ⟨_, rfl⟩
        have hLs : L.size ≤ 1000000 := by rw [hL]; exact chainTo_size s a n (by omega)
        have hchain : chainL s (a ++ b) = chainL s a ++ chainL L b := by rw [chainL_append, Z.out.2.2.2.1, hL]
        have HC := Lib.hid (And.intro hL hchain)
        clear hL hchain
        have hq1 : ((n : Int) != (n : Int)) = false := by simp
        have hq2 : ((n : Int) + (m : Int) != (n : Int) + (m : Int)) = false := by simp
        go_upto_if 69 with fail
        go_cut [11] (fun s11 wx => s11 = .string L ∧ wx = w4)
        case first =>
          rcases Nat.eq_zero_or_pos n with h0 | h0
          · have hd : decide (0 < n) = false := by simp; omega
            have e : L = s := by rw [HC.out.1, h0]; rfl
            subst e
            rw [hd]
            go_wp2_with fail
            go_meet
            exact ⟨rfl, rfl⟩
          · have hd : decide (0 < n) = true := by simp; omega
            rw [hd]
            obtain ⟨g, o, rfl, _, hcell⟩ := hs4.at_ h0
            obtain ⟨q, hq⟩ : ∃ q : Nat, n = q + 1 := ⟨n - 1, by omega⟩
            have hc := hcell q (by omega)
            have e : (chainL s a).getD q ByteArray.empty = L := by
              rw [chainL, Z.out.2.2.2.1, chainTo_get s a n q (by omega), HC.out.1, hq]
            rw [e] at hc
            have hw : (n : Int) - 1 = (q : Int) := by omega
            have hqi : (q : Int) < (n : Int) := by omega
            clear hcell e hq
            go_wp2_with fail
            go_meet
            exact ⟨rfl, rfl⟩
        case rest =>
          obtain ⟨rfl, rfl⟩ := hcut
          go_wp2_with fail
          refine (chain_any L B m d b _ (k.below b4) hLs Z.out.2.1 (by omega)).mono ?_
          rintro e w5 ⟨v5, rfl, ho5, hb5⟩
          have b5 : Below w.heap.size w w5 := b4.trans (hb5.mono b4.size)
          have hs35 := hs3.below hb5
          have hs45 := hs4.below hb5
          clear hs3 hs4 hb5
          obtain ⟨A5, c5, rfl, hs5⟩ := ho5.strs
          have l5 : (chainL L b).length = m := by rw [chainL_len, Z.out.2.2.2.2]
          rw [l5] at hs5 ⊢
          clear l5 ho5
          go_wp2_with fail
          have hb6 := belowA w5 (.cells #[.slice A4 n c4, .slice A5 m c5] 27)
          refine (concat_any w5.heap.size A4 A5 n c4 m c5 (chainL s a) (chainL L b) _ (by simp) (strs_pair w5 A4 A5 n c4 m c5).1 (strs_pair w5 A4 A5 n c4 m c5).2 (hs45.below hb6) (hs5.below hb6) (by omega) (by omega)).mono ?_
          rintro e w6 ⟨v6, rfl, ho6, hb6'⟩
          have b56 : Below w5.heap.size w5 w6 := hb6.trans (hb6'.mono hb6.size)
          have b6 : Below w.heap.size w w6 := b5.trans (b56.mono b5.size)
          have hs36 := hs35.below b56
          obtain ⟨A6, c6, rfl, hs6⟩ := ho6.strs
          rw [← HC.out.2] at hs6 ⊢
          have l6 : (chainL s (a ++ b)).length = n + m := by rw [chainL_len, List.length_append, Z.out.2.2.2.1, Z.out.2.2.2.2]
          rw [l6] at hs6 ⊢
          clear l6 ho6 hs35 hs45 hs5 hb6 hb6'
          go_wp2_with fail
          refine (equal_any A3 A6 (n + m) c3 (n + m) c6 _ _ _ hs36 hs6).mono ?_
          rintro e w7 ⟨rfl, hb7⟩
          rw [decide_eq_true (rfl : chainL s (a ++ b) = chainL s (a ++ b))]
          have b7 : Below w.heap.size w w7 := b6.trans (hb7.mono b6.size)
          have hs37 := hs36.below hb7
          clear hs36 hs6 hb7
          rcases Nat.eq_zero_or_pos m with m0 | m0
          · have hd : decide (0 < (m : Int)) = false := by simp; omega
            go_wp2_with fail
            refine (awake_any _).mono ?_
            rintro e w8 ⟨rfl, hb8⟩
            go_wp2_with fail
            go_ret
            exact ⟨rfl, b7.trans (hb8.mono b7.size)⟩
          · have hd : decide (0 < (m : Int)) = true := by simp; omega
            obtain ⟨G, hG⟩ : ∃ G, G = (chainTo s (a ++ b) (n + m - 1)).1 := ⟨_, rfl⟩
            have hGs : G.size ≤ 1000000 := by rw [hG]; exact chainTo_size s (a ++ b) _ (by omega)
            have HG := Lib.hid hG
            clear hG
            obtain ⟨g, o, rfl, _, hcell⟩ := hs37.at_ (by omega)
            go_upto_if 100 with fail
            go_cut [14] (fun s14 wx => s14 = .string G ∧ wx = w7)
            case first =>
              by_cases hN : 1 < n + m
              · have hd1 : decide (1 < (n : Int) + (m : Int)) = true := by simp; omega
                obtain ⟨q, hq⟩ : ∃ q : Nat, n + m = q + 2 := ⟨n + m - 2, by omega⟩
                have hc := hcell q (by omega)
                have e : (chainL s (a ++ b)).getD q ByteArray.empty = G := by
                  rw [chainL, List.length_append, Z.out.2.2.2.1, Z.out.2.2.2.2, chainTo_get s (a ++ b) (n + m) q (by omega), HG.out, hq]; rfl
                rw [e] at hc
                have hw : (n : Int) + (m : Int) - 2 = (q : Int) := by omega
                have hqi : (q : Int) < (n : Int) + (m : Int) := by omega
                clear hcell e hq
                go_wp2_with fail
                go_meet
                exact ⟨rfl, rfl⟩
              · have hd1 : decide (1 < (n : Int) + (m : Int)) = false := by simp; omega
                have e : G = s := by rw [HG.out, show n + m - 1 = 0 by omega]; rfl
                subst e
                clear hcell
                go_wp2_with fail
                go_meet
                exact ⟨rfl, rfl⟩
            case rest =>
              obtain ⟨rfl, rfl⟩ := hcut
              obtain ⟨gb, ob, rfl, _, hcb⟩ := (k.below b7).at_ m0
              obtain ⟨q, hq⟩ : ∃ q : Nat, n + m = q + 1 := ⟨n + m - 1, by omega⟩
              obtain ⟨r, hr⟩ : ∃ r : Nat, m = r + 1 := ⟨m - 1, by omega⟩
              have hc1 := hcell q (by omega)
              have hc2 := hcb r (by omega)
              have hys := Z.out.2.1 _ (getD_mem b r (by rw [Z.out.2.2.2.2]; omega))
              have e : (chainL s (a ++ b)).getD q ByteArray.empty = dig (G ++ b.getD r ByteArray.empty) := by
                have e2 : (a ++ b).getD q ByteArray.empty = b.getD r ByteArray.empty := by
                  rw [show q = a.length + r by rw [Z.out.2.2.2.1]; omega, getD_append_ge]
                rw [chainL, List.length_append, Z.out.2.2.2.1, Z.out.2.2.2.2, chainTo_get s (a ++ b) (n + m) q (by omega), chainTo, e2, HG.out, hq]
                rfl
              rw [e] at hc1
              generalize b.getD r ByteArray.empty = y at *
              have hc1' := fun dd oo => cell_regrown hc1 dd oo
              have hc2' := fun dd oo => cell_regrown hc2 dd oo
              have hw1 : IntKind.i64.wrap ((n : Int) + (m : Int) - 1) = (q : Int) := by rw [IntWalk.i64_in _ (by omega)]; omega
              have hw2 : IntKind.i64.wrap ((m : Int) - 1) = (r : Int) := by rw [IntWalk.i64_in _ (by omega)]; omega
              have hqi : (q : Int) < (n : Int) + (m : Int) := by omega
              have hri : (r : Int) < (m : Int) := by omega
              have hGy : (G ++ y).size ≤ 140737488351232 := by rw [append_size]; omega
              have hz1 : ¬ 9223372036854775807 < G.size + y.size := by omega
              clear hcell hcb e hq hr
              go_wp2_with fail
              refine wp_region_quiet_below (by kernel_rfl) (by kernel_rfl) ?_
              repeat (quiet_step (first
                | exact Calls.regrown_of (sum_dig _ _ hGy)
                | exact Calls.regrown_of (awake_any _)))
              refine wpQuiet_nil ?_
              intro _ hw'
              obtain ⟨⟨dq, osq⟩, hw''⟩ := hw'
              subst hw''
              go_wp2_with fail
              go_ret
              exact ⟨rfl, b7.trans ((below_regrown _ dq osq).mono b7.size)⟩
      · go_enter Try.func7, Try.ntmps7
        go_wp2_with fail
        refine (great_any _ 1 1 [s] _ (strs1' w s) (by simpa using hs)).mono ?_
        rintro e w1 ⟨rfl, rfl⟩
        rw [hg]
        go_wp2_with fail
        refine (great_any A n c a _ h1 ha).mono ?_
        rintro e w1 ⟨rfl, rfl⟩
        rw [hga]
        go_wp2_with fail
        refine (great_any B m d b _ k1 hb).mono ?_
        rintro e w1 ⟨rfl, rfl⟩
        rw [hgb]
        go_wp2_with fail
        refine (awake_any _).mono ?_
        rintro e w2 ⟨rfl, hb2⟩
        go_wp2_with fail
        go_ret
        exact ⟨rfl, hb1.trans (hb2.mono (by simp))⟩
    · go_enter Try.func7, Try.ntmps7
      go_wp2_with fail
      refine (great_any _ 1 1 [s] _ (strs1' w s) (by simpa using hs)).mono ?_
      rintro e w1 ⟨rfl, rfl⟩
      rw [hg]
      go_wp2_with fail
      refine (great_any A n c a _ h1 ha).mono ?_
      rintro e w1 ⟨rfl, rfl⟩
      rw [hga]
      go_wp2_with fail
      refine (awake_any _).mono ?_
      rintro e w2 ⟨rfl, hb2⟩
      go_wp2_with fail
      go_ret
      exact ⟨rfl, hb1.trans (hb2.mono (by simp))⟩
  · go_enter Try.func7, Try.ntmps7
    go_wp2_with fail
    refine (great_any _ 1 1 [s] _ (strs1' w s) (by simpa using hs)).mono ?_
    rintro e w1 ⟨rfl, rfl⟩
    rw [hg]
    go_wp2_with fail
    refine (awake_any _).mono ?_
    rintro e w2 ⟨rfl, hb2⟩
    go_wp2_with fail
    go_ret
    exact ⟨rfl, hb1.trans (hb2.mono (by simp))⟩
end Go.Proofs.Ytlgpdmejnabinaa
