/- Audit: contracts of the reference's group, trim, plus. -/
import Derived.Test.YtejaehmoplohdaaGreatDoorQ20
import Derived.Test.YtejaehmoplohdaaGreatDoorQ23
import Derived.Test.YtejaehmoplohdaaGreatDoorQ9
import Derived.Test.YtejaehmoplohdaaGreatDoorQ10
import Derived.Test.YtejaehmoplohdaaGreatDoorQ7
import Derived.WalkLawsBesides
import Derived.BigQuiet
namespace Go.Proofs.YtejaehmoplohdaaGreatDoor
open Go.RowKit Go.Maps Num

/-- rows of groups -/
abbrev rowG : Row Nat := ⟨162, 3, .int .i64 0, 1, 8, fun g => [.int .i64 (g : Int)]⟩
theorem rowG_ok : rowG.Ok where
  hS := Tryz.underlying162
  info := by kernel_rfl
  zc := rfl
  k0 := by decide
  b1 := by decide
  hk _ := rfl
  h1 x v hv := by
    simp only [List.mem_cons, List.not_mem_nil, or_false] at hv
    subst hv; rfl
set_option maxRecDepth 100000 in
theorem group_any (A : Option Addr) (n c : Nat) (l : List Nat) (i : Nat) (w : World) (hl : rowG.Rds w A n c l) (hn : n ≤ 100000) (hi : i ≤ 100000) :
    Calls Tryz.prog 185 #[.slice A n c, .int .i64 (i : Int)] w (RetP (.int .i64 ((l.getD i 0 : Nat) : Int)) w) := by
  by_cases hlt : i < n
  · obtain ⟨b1, o1, rfl, hb1, _⟩ := hl.at_ (by omega)
    have q0 := hl.cell rowG_ok 0 i 0 _ hlt rfl
    have hki : (i : Int) < (n : Int) := by omega
    have hk0 : (0 : Int) ≤ (i : Int) := by omega
    simp only [Nat.add_zero, Nat.mul_one] at q0
    generalize l.getD i 0 = x at *
    clear hl
    go_enter Tryz.func185, Tryz.ntmps185
    go_wp2_with fail
    go_ret
    exact ⟨rfl, rfl⟩
  · have hki : ¬ (i : Int) < (n : Int) := by omega
    have h0 : l.getD i 0 = 0 := by rw [List.getD_eq_getElem?_getD, List.getElem?_eq_none (by rw [hl.len]; omega)]; rfl
    rw [h0]
    clear hl h0
    go_enter Tryz.func185, Tryz.ntmps185
    go_wp2_with fail
    go_ret
    exact ⟨rfl, rfl⟩
def sliceN : Value → Nat
  | .slice _ n _ => n
  | _ => 0
def TrmP (l : List Nat) (w : World) (e : Ending) (w' : World) : Prop := ∃ A n c, e = .returned (.slice A n c) ∧ rowG.Rds w' A n c l ∧ Below w.heap.size w w'
set_option maxRecDepth 100000 in
set_option maxHeartbeats 4000000 in
theorem trim_any (A : Option Addr) (n c : Nat) (l : List Nat) (w : World) (hl : rowG.Rds w A n c l) (hn : n ≤ 100000) :
    Calls Tryz.prog 186 #[.slice A n c] w (TrmP (Num.cutM l) w) := by
  have HP := Lib.hid (show ∀ A m c, rowG.Rds w A m c (Num.cutM l) → TrmP (Num.cutM l) w (.returned (.slice A m c)) w from fun A m c h => ⟨A, m, c, rfl, h, Below.refl _ _⟩)
  have ll := Lib.hid hl.len
  have L1 := Lib.hid hl
  generalize TrmP (Num.cutM l) w = Post at *
  go_enter Tryz.func186, Tryz.ntmps186
  go_wp2_with fail
  go_loop [0] (fun v => ∃ (A' : Option Addr) (m : Nat), m ≤ n ∧ v = .slice A' m c ∧ Hid (rowG.Rds w A' m c (l.take m) ∧ Num.cutM (l.take m) = Num.cutM l)) (fun v => sliceN v)
  case atStart => exact ⟨A, n, Nat.le_refl _, rfl, Lib.hid ⟨by rw [List.take_of_length_le (by rw [ll.out]; exact Nat.le_refl _)]; exact L1.out, by rw [List.take_of_length_le (by rw [ll.out]; exact Nat.le_refl _)]⟩⟩
  case round =>
    clear hl
    obtain ⟨A', m, hm, rfl, hR⟩ := hrel
    have HR := Lib.hid hR.out.1
    have HC := Lib.hid hR.out.2
    clear hR L1
    by_cases h0 : m = 0
    · subst h0
      have hv := Lib.hid (HP.out A' 0 c (by rw [← HC.out]; exact HR.out))
      clear HP HR HC
      have hk : ((0 : Nat) : Int) = 0 := rfl
      go_wp2_with fail
      exact hv.out
    · obtain ⟨j, rfl⟩ : ∃ j, m = j + 1 := ⟨m - 1, by omega⟩
      obtain ⟨b1, o1, rfl, hb1, _⟩ := HR.out.at_ (by omega)
      have q0 := HR.out.cell rowG_ok 0 j 0 _ (by omega) rfl
      have hstep := Lib.hid (cut_step l j (by rw [ll.out]; omega))
      rw [show (l.take (j + 1)).getD j 0 = l.getD j 0 from by rw [List.getD_eq_getElem?_getD, List.getD_eq_getElem?_getD, List.getElem?_take, if_pos (by omega)]] at q0
      obtain ⟨A3, run3, h3⟩ := Row.run_upto rowG_ok HR.out j (by omega)
      have H3 := Lib.hid h3
      have HR2 := Lib.hid HR.out
      clear h3 HR
      generalize hx : l.getD j 0 = x at *
      clear hx
      obtain ⟨M, hM⟩ : ∃ M, M = j + 1 := ⟨_, rfl⟩
      rw [← hM] at HR2 H3 run3 hm hstep HC ⊢
      have hMi : IntKind.i64.wrap ((M : Int) - 1) = (j : Int) := by rw [IntWalk.i64_in _ (by omega)]; omega
      have hM0 : (0 : Int) < (M : Int) := by omega
      have hjM : (j : Int) < (M : Int) := by omega
      have hj0 : (0 : Int) ≤ (j : Int) := by omega
      have hjn : j < M := by omega
      have HM := Lib.hid hM
      clear hM
      simp only [Nat.add_zero, Nat.mul_one] at q0
      by_cases hx0 : x = 0
      · subst hx0
        have e1 := hstep.out
        rw [if_pos rfl, HC.out] at e1
        have HC2 := Lib.hid e1.symm
        clear e1 hstep HP HC HR2
        go_wp2_with fail
        go_round
        case rel => exact ⟨A3, j, by omega, rfl, Lib.hid ⟨by have := H3.out; rw [List.take_take, Nat.min_eq_left (by omega)] at this; exact this, HC2.out⟩⟩
        case measure => show j < M; omega
      · have hxe : ((x : Int) == 0) = false := beq_eq_false_iff_ne.2 (by omega)
        have e1 := hstep.out
        rw [if_neg hx0, HC.out] at e1
        have hv := Lib.hid (HP.out (some ⟨b1, o1, none⟩) M c (by rw [e1]; exact HR2.out))
        clear e1 hstep HP HC HR2 H3 run3
        go_wp2_with fail
        exact hv.out
end Go.Proofs.YtejaehmoplohdaaGreatDoor

/- Audit: the contract of the reference's plus. -/
namespace Go.Proofs.YtejaehmoplohdaaGreatDoor
open Go.RowKit Go.Maps Num

theorem take_mag (l : List Nat) (i : Nat) : magV (l.take (i + 1)) = magV (l.take i) + base ^ i * l.getD i 0 := by
  by_cases h : i < l.length
  · rw [List.take_succ_eq_append_getElem h, magV_append, List.length_take, Nat.min_eq_left (by omega), List.getD_eq_getElem?_getD, List.getElem?_eq_getElem h]
    simp [magV]
  · rw [List.take_of_length_le (by omega), List.take_of_length_le (by omega), List.getD_eq_getElem?_getD, List.getElem?_eq_none (by omega)]
    simp
theorem getD_base {l : List Nat} (h : ∀ g ∈ l, g < base) (i : Nat) : l.getD i 0 < base := by
  by_cases hi : i < l.length
  · rw [List.getD_eq_getElem?_getD, List.getElem?_eq_getElem hi]; exact h _ (List.getElem_mem hi)
  · rw [List.getD_eq_getElem?_getD, List.getElem?_eq_none (by omega)]; decide
/-- the loop's state: the sum so far, the carry -/
structure PlI (w : World) (a b : List Nat) (N i cr : Nat) (v : Value) (d : List Nat) (W : World) : Prop where
  own : rowG.Own w.heap.size W v d
  bel : Below w.heap.size w W
  lt : ∀ g ∈ d, g < base
  len : d.length = i
  crl : cr ≤ 1
  val : magV d + base ^ i * cr = magV (a.take i) + magV (b.take i)
  fin : N < i → cr = 0
/-- groups are returned -/
def GrpP (x k : Nat) (w : World) (e : Ending) (w' : World) : Prop := ∃ A n c os, e = .returned (.slice A n c) ∧ n ≤ k ∧ rowG.Rds w' A n c os ∧ (∀ g ∈ os, g < base) ∧ magV os = x ∧ Below w.heap.size w w'
theorem PlI.step {w : World} {a b : List Nat} {N i cr : Nat} {v : Value} {d : List Nat} {W : World} (h : PlI w a b N i cr v d W) (ha : ∀ g ∈ a, g < base) (hb : ∀ g ∈ b, g < base) (hN : a.length ≤ N ∧ b.length ≤ N) {v' : Value} {W' : World}
    (ho : rowG.Own w.heap.size W' v' (d ++ [(a.getD i 0 + b.getD i 0 + cr) % base])) (hw : Below w.heap.size w W') : PlI w a b N (i + 1) ((a.getD i 0 + b.getD i 0 + cr) / base) v' (d ++ [(a.getD i 0 + b.getD i 0 + cr) % base]) W' := by
  have h1 := getD_base ha i
  have h2 := getD_base hb i
  have h3 := h.crl
  have hbs : base = 1000000000 := rfl
  refine ⟨ho, hw, fun g hg => ?_, by rw [List.length_append, h.len]; rfl, by rw [hbs] at h1 h2 ⊢; omega, ?_, fun hi => ?_⟩
  · rcases List.mem_append.1 hg with hg | hg
    · exact h.lt g hg
    · rw [List.mem_singleton.1 hg]; exact Nat.mod_lt _ (by decide)
  · have hv := h.val
    rw [magV_append, h.len, take_mag, take_mag]
    generalize a.getD i 0 = x at *
    generalize b.getD i 0 = y at *
    have e1 : magV [(x + y + cr) % base] = (x + y + cr) % base := by simp [magV]
    have e2 : base ^ (i + 1) * ((x + y + cr) / base) = base ^ i * (base * ((x + y + cr) / base)) := by rw [Nat.pow_succ, Nat.mul_assoc]
    have e3 : base ^ i * ((x + y + cr) % base) + base ^ i * (base * ((x + y + cr) / base)) = base ^ i * x + base ^ i * y + base ^ i * cr := by
      rw [← Nat.mul_add, Nat.mod_add_div, Nat.mul_add, Nat.mul_add]
    rw [e1, e2]
    omega
  · have ea : a.getD i 0 = 0 := by rw [List.getD_eq_getElem?_getD, List.getElem?_eq_none (by omega)]; rfl
    have eb : b.getD i 0 = 0 := by rw [List.getD_eq_getElem?_getD, List.getElem?_eq_none (by omega)]; rfl
    rw [ea, eb]
    rw [hbs]
    omega
set_option maxRecDepth 100000 in
set_option maxHeartbeats 8000000 in
theorem rplus_any (A B : Option Addr) (n c p e0 : Nat) (a b : List Nat) (w : World) (ha : rowG.Rds w A n c a) (hb : rowG.Rds w B p e0 b) (hn : n ≤ 100) (hp : p ≤ 100) (la : ∀ g ∈ a, g < base) (lb : ∀ g ∈ b, g < base) :
    Calls Tryz.prog 163 #[.slice A n c, .slice B p e0] w (GrpP (magV a + magV b) 200 w) := by
  have HP := Lib.hid (show ∀ A m c os W, m ≤ 200 → rowG.Rds W A m c os → (∀ g ∈ os, g < base) → magV os = magV a + magV b → Below w.heap.size w W → GrpP (magV a + magV b) 200 w (.returned (.slice A m c)) W from fun A m c os W h1 h2 h3 h4 h5 => ⟨A, m, c, os, rfl, h1, h2, h3, h4, h5⟩)
  have lla := ha.len
  have llb := hb.len
  have L1 := Lib.hid ha
  have L2 := Lib.hid hb
  have LA := Lib.hid la
  have LB := Lib.hid lb
  have LL := Lib.hid (show a.length = n ∧ b.length = p from ⟨lla, llb⟩)
  generalize GrpP (magV a + magV b) 200 w = Post at *
  have R0 := Lib.hid (show PlI w a b (max n p) 0 0 (.slice (some ⟨w.heap.size, 0, none⟩) 0 0) [] (w.alloc (.cells #[] 3)) from
    ⟨World.ownsRow_made w #[] 0 (Nat.le_refl _) (by unfold maxLen; omega) (by simp), (Below.refl _ w).alloc (Nat.le_refl _) _, fun g hg => (by cases hg), rfl, by omega, by simp [magV], fun h => rfl⟩)
  clear ha hb la lb lla llb
  go_enter Tryz.func163, Tryz.ntmps163
  go_wp2_with fail
  go_loopw [5, 6, 7, 8] (fun v x y _ wr => ∃ (i cr : Nat) (d : List Nat), i ≤ max n p + 1 ∧ cr ≤ 1 ∧ x = .int .i64 (cr : Int) ∧ y = .int .i64 (i : Int) ∧ Hid (PlI w a b (max n p) i cr v d wr)) (fun _ _ y _ _ => max n p + 1 - (intOf y).toNat)
  case atStart => exact ⟨0, 0, [], by omega, by omega, rfl, rfl, R0⟩
  case round =>
    obtain ⟨i, cr, d, hi, hcr, rfl, rfl, hR⟩ := hrel
    have HI := Lib.hid hR.out
    clear hR R0
    by_cases hgo : i < n ∨ i < p ∨ 0 < cr
    · have hiN : i ≤ max n p := by have := HI.out.fin; omega
      have GA := Lib.hid (fun W (h : Below w.heap.size w W) => group_any A n c a i W (L1.out.below h) (by omega) (by omega))
      have GB := Lib.hid (fun W (h : Below w.heap.size w W) => group_any B p e0 b i W (L2.out.below h) (by omega) (by omega))
      have g1 := getD_base LA.out i
      have g2 := getD_base LB.out i
      have ST := Lib.hid (fun v' W' h1 h2 => HI.out.step LA.out LB.out (by have := LL.out; omega) (v' := v') (W' := W') h1 h2)
      have hdl : d.length = i := HI.out.len
      unfold RetP at GA GB
      generalize a.getD i 0 = x at *
      generalize b.getD i 0 = y at *
      obtain ⟨S1, hS1⟩ : ∃ S1, S1 = x + y := ⟨_, rfl⟩
      obtain ⟨X, hX⟩ : ∃ X, X = x + y + cr := ⟨_, rfl⟩
      rw [← hX] at ST
      obtain ⟨r, hr⟩ : ∃ r, r = X % base := ⟨_, rfl⟩
      obtain ⟨q, hq⟩ : ∃ q, q = X / base := ⟨_, rfl⟩
      rw [← hr, ← hq] at ST
      have hbs : base = 1000000000 := rfl
      rw [hbs] at g1 g2 hr hq
      have hq1 : q ≤ 1 := by omega
      have k1 : IntKind.i64.wrap ((x : Int) + (y : Int)) = (S1 : Int) := by rw [IntWalk.i64_in _ (by omega)]; omega
      have k2 : IntKind.i64.wrap ((S1 : Int) + (cr : Int)) = (X : Int) := by rw [IntWalk.i64_in _ (by omega)]; omega
      have k1' : (x : Int) + (y : Int) = (S1 : Int) := by omega
      have k2' : (S1 : Int) + (cr : Int) = (X : Int) := by omega
      have k3 : (X : Int) % 1000000000 = (r : Int) := by omega
      have k4 : (X : Int) / 1000000000 = (q : Int) := by omega
      have k3' : Int.tmod (X : Int) 1000000000 = (r : Int) := by rw [Int.tmod_eq_emod_of_nonneg (by omega)]; exact k3
      have k4' : Int.tdiv (X : Int) 1000000000 = (q : Int) := by rw [Int.tdiv_eq_ediv_of_nonneg (by omega)]; exact k4
      have hX9 : X ≤ 1999999999 := by omega
      have hcase : i < n ∨ (¬ i < n ∧ i < p) ∨ (¬ i < n ∧ ¬ i < p ∧ 0 < cr) := by omega
      clear hS1 hX hr hq hbs g1 g2 hgo
      rcases hcase with h1 | ⟨h1, h2⟩ | ⟨h1, h2, h3⟩
      · have j1 : (i : Int) < (n : Int) := by omega
        go_wp2_with fail
        refine (GA.out _ HI.out.bel).mono ?_
        rintro e w1 ⟨rfl, rfl⟩
        go_wp2_with fail
        refine (GB.out _ HI.out.bel).mono ?_
        rintro e w2 ⟨rfl, rfl⟩
        go_wp2_with (at_builtin; go_must (refine Row.wp_append1 rowG_ok rfl (.tmp 35) (.tmp 38) rfl w.heap.size _ d _ r _ _ rfl rfl rfl HI.out.own rfl HI.out.bel.size (by omega) ?_; intro v8 w9 ho8 hg8 _; have NX := Lib.hid (ST.out v8 w9 ho8 (below_own HI.out.bel (Nat.le_refl _) hg8 fun k hk => (HI.out.own.own k hk).1)); clear ho8 hg8))
        go_roundw
        case rel => exact ⟨i + 1, q, d ++ [r], by omega, hq1, rfl, by go_num, NX⟩
        case measure => simp [intOf]; omega
      · have j1 : ¬ (i : Int) < (n : Int) := by omega
        have j2 : (i : Int) < (p : Int) := by omega
        go_wp2_with fail
        refine (GA.out _ HI.out.bel).mono ?_
        rintro e w1 ⟨rfl, rfl⟩
        go_wp2_with fail
        refine (GB.out _ HI.out.bel).mono ?_
        rintro e w2 ⟨rfl, rfl⟩
        go_wp2_with (at_builtin; go_must (refine Row.wp_append1 rowG_ok rfl (.tmp 35) (.tmp 38) rfl w.heap.size _ d _ r _ _ rfl rfl rfl HI.out.own rfl HI.out.bel.size (by omega) ?_; intro v8 w9 ho8 hg8 _; have NX := Lib.hid (ST.out v8 w9 ho8 (below_own HI.out.bel (Nat.le_refl _) hg8 fun k hk => (HI.out.own.own k hk).1)); clear ho8 hg8))
        go_roundw
        case rel => exact ⟨i + 1, q, d ++ [r], by omega, hq1, rfl, by go_num, NX⟩
        case measure => simp [intOf]; omega
      · have j1 : ¬ (i : Int) < (n : Int) := by omega
        have j2 : ¬ (i : Int) < (p : Int) := by omega
        have j3 : (0 : Int) < (cr : Int) := by omega
        go_wp2_with fail
        refine (GA.out _ HI.out.bel).mono ?_
        rintro e w1 ⟨rfl, rfl⟩
        go_wp2_with fail
        refine (GB.out _ HI.out.bel).mono ?_
        rintro e w2 ⟨rfl, rfl⟩
        go_wp2_with (at_builtin; go_must (refine Row.wp_append1 rowG_ok rfl (.tmp 35) (.tmp 38) rfl w.heap.size _ d _ r _ _ rfl rfl rfl HI.out.own rfl HI.out.bel.size (by omega) ?_; intro v8 w9 ho8 hg8 _; have NX := Lib.hid (ST.out v8 w9 ho8 (below_own HI.out.bel (Nat.le_refl _) hg8 fun k hk => (HI.out.own.own k hk).1)); clear ho8 hg8))
        go_roundw
        case rel => exact ⟨i + 1, q, d ++ [r], by omega, hq1, rfl, by go_num, NX⟩
        case measure => simp [intOf]; omega
    · have hc0 : cr = 0 := by omega
      subst hc0
      have j1 : ¬ (i : Int) < (n : Int) := by omega
      have j2 : ¬ (i : Int) < (p : Int) := by omega
      have j3 : ((0 : Nat) : Int) = 0 := rfl
      have hv := HI.out.val
      rw [List.take_of_length_le (by have := LL.out; omega), List.take_of_length_le (by have := LL.out; omega), Nat.mul_zero, Nat.add_zero] at hv
      obtain ⟨Ad, cd, e2, hrd⟩ := HI.out.own.rds
      have hdl : d.length ≤ 200 := by have := HI.out.len; omega
      have TR := Lib.hid (trim_any Ad d.length cd d wr hrd (by omega))
      have hmc := magV_cut d
      have HV := Lib.hid (show magV (Num.cutM d) = magV a + magV b ∧ (∀ g ∈ Num.cutM d, g < base) ∧ (Num.cutM d).length ≤ 200 from ⟨by rw [hmc.1]; exact hv, fun g hg => HI.out.lt g (hmc.2.2 g hg), by have := cutM_len d; omega⟩)
      have BL := Lib.hid HI.out.bel
      unfold TrmP at TR
      clear hv hmc hrd HI hgo
      subst e2
      go_wp2_with fail
      refine TR.out.mono ?_
      rintro e w3 ⟨A3, m3, c3, rfl, hr3, hb3⟩
      have hm3 := hr3.len
      have hv3 := Lib.hid (HP.out A3 m3 c3 _ w3 (by have := HV.out.2.2; omega) hr3 HV.out.2.1 HV.out.1 (below_next BL.out hb3 ⟨rfl, rfl, rfl, rfl⟩))
      clear hr3 hb3 hm3
      go_wp2_with fail
      exact hv3.out
end Go.Proofs.YtejaehmoplohdaaGreatDoor

/- Audit: the contract of the reference's read. -/
namespace Go.Proofs.YtejaehmoplohdaaGreatDoor
open Go.RowKit Go.Maps Num

theorem part_dig {s : List UInt8} {i lo : Nat} (h : s.all isDig = true) (hi : i < s.length) (hlo : lo ≤ i) (h9 : i < lo + 9) : digV ((s.take (i + 1)).drop lo) = 10 * digV ((s.take i).drop lo) + (s[i].toNat - 48) ∧ digV ((s.take i).drop lo) < 1000000000 ∧ 48 ≤ s[i].toNat ∧ s[i].toNat ≤ 57 := by
  have e : (s.take (i + 1)).drop lo = (s.take i).drop lo ++ [s[i]] := by
    rw [List.take_succ_eq_append_getElem hi, List.drop_append_of_le_length (by rw [List.length_take]; omega)]
  have hd : isDig s[i] = true := List.all_eq_true.1 h _ (List.getElem_mem hi)
  have hl : ((s.take i).drop lo).length ≤ 9 := by rw [List.length_drop, List.length_take]; omega
  have h2 := digV_lt ((s.take i).drop lo) (List.all_eq_true.2 fun x hx => List.all_eq_true.1 h x (List.mem_of_mem_take (List.mem_of_mem_drop hx)))
  have h3 : 10 ^ ((s.take i).drop lo).length ≤ 10 ^ 9 := Nat.pow_le_pow_right (by omega) hl
  unfold isDig at hd
  rw [Bool.and_eq_true, decide_eq_true_iff, decide_eq_true_iff] at hd
  exact ⟨by rw [e, digV_snoc]; rfl, by omega, hd⟩
theorem own_rdsG {B : Nat} {W : World} {A : Option Addr} {n c : Nat} {l : List Nat} (h : rowG.Own B W (.slice A n c) l) : rowG.Rds W A n c l := by
  obtain ⟨A', c', e, h'⟩ := h.rds
  injection e with e1 e2 e3
  subst e1 e2 e3
  exact h'
/-- a number is returned -/
def NumP (ng : Bool) (ms : List Nat) (w : World) (e : Ending) (w' : World) : Prop := ∃ A n c, e = .returned (.agg #[.bool ng, .slice A n c]) ∧ rowG.Rds w' A n c ms ∧ Below w.heap.size w w'
structure RdI (w1 : World) (ng : Bool) (s : List UInt8) (k : Nat) (W : World) : Prop where
  box : ∃ v d, W.heap[w1.heap.size]? = some (.cells #[.bool ng, v] 164) ∧ rowG.Own (w1.heap.size + 1) W v d ∧ d ++ grp (s.take k) = grp s
  bel : Below w1.heap.size w1 W
theorem rd_step {w1 W w9 : World} {ng : Bool} {s : List UInt8} {k : Nat} {v v8 : Value} {d : List Nat} (hb : W.heap[w1.heap.size]? = some (.cells #[.bool ng, v] 164)) (ho : rowG.Own (w1.heap.size + 1) W v d) (he : d ++ grp (s.take k) = grp s) (hl : Below w1.heap.size w1 W) (hk : 0 < k) (hks : k ≤ s.length)
    (ho8 : rowG.Own (w1.heap.size + 1) w9 v8 (d ++ [digV ((s.take k).drop (k - 9))])) (hg : W.grownBy w9 v.ownBlock) :
    w9.heap[w1.heap.size]? = some (.cells #[.bool ng, v] 164) ∧ RdI w1 ng s (k - 9) (w9.setCell ⟨w1.heap.size, 1, none⟩ v8) := by
  have hne : some w1.heap.size ≠ v.ownBlock := fun e => by have := (ho.own _ e.symm).1; omega
  have h6 := (hg.block w1.heap.size (Array.getElem?_eq_some_iff.1 hb).1 hne).trans hb
  refine ⟨h6, ⟨v8, _, set1s h6 v8, ho8.kept (grown_setCell w9 ⟨w1.heap.size, 1, none⟩ v8) (fun q e => by cases e; exact Nat.lt_succ_self _), ?_⟩, (below_own hl (Nat.le_refl _) hg (fun q e => by have := (ho.own q e).1; omega)).setCell (p := ⟨w1.heap.size, 1, none⟩) (Nat.le_refl _) _⟩
  rw [List.append_assoc, List.singleton_append, ← grp_step s k hk hks]
  exact he
set_option maxRecDepth 100000 in
set_option maxHeartbeats 8000000 in
theorem rread_any (l : List UInt8) (w : World) (hs : l.length ≤ 1000) : Calls Tryz.prog 128 #[.string ⟨l.toArray⟩] w (NumP (neg l) (grp (dgs l)) w) := by
  have C := Lib.hid (fun W => rdig_any l W (by omega))
  have HA := Lib.hid (dgs_all l)
  have hl2 : (dgs l).length ≤ 1000 := Nat.le_trans (dgs_len l) hs
  have HP := Lib.hid (show ∀ A n c W, rowG.Rds W A n c (grp (dgs l)) → Below w.heap.size w W → NumP (neg l) (grp (dgs l)) w (.returned (.agg #[.bool (neg l), .slice A n c])) W from fun A n c W h1 h2 => ⟨A, n, c, rfl, h1, h2⟩)
  unfold RdgPost at C
  generalize NumP (neg l) (grp (dgs l)) w = Post at *
  generalize neg l = ng at *
  generalize dgs l = s at *
  have B1 := Lib.hid ((Below.refl _ w).alloc (Nat.le_refl _) (.cells #[.bool false, .slice none 0 0] 164))
  have Y1 := Lib.hid (heap_alloc_new w (.cells #[.bool false, .slice none 0 0] 164))
  go_enter Tryz.func128, Tryz.ntmps128
  go_wp2_with fail
  refine (C.out _).mono ?_
  rintro e w1 ⟨rfl, rfl⟩
  generalize w.alloc (.cells #[.bool false, .slice none 0 0] 164) = w1 at *
  have HL1 := Lib.hid (show w.heap.size < w1.heap.size from (Array.getElem?_eq_some_iff.1 Y1.out).1)
  have R0 := Lib.hid (show RdI w1 ng s s.length (w1.alloc (.cells #[.bool ng, .slice none 0 0] 164)) from
    ⟨⟨_, [], heap_alloc_new w1 _, Row.Own.nil _ _, by rw [List.nil_append, List.take_length]⟩, (Below.refl _ w1).alloc (Nat.le_refl _) _⟩)
  clear C
  go_upto_region 3 with fail
  go_wp2_with fail
  go_loopw [6, 7, 8] (fun t _ _ wr => ∃ z : Int, -9 ≤ z ∧ z ≤ (s.length : Int) ∧ t = .int .i64 z ∧ Hid (RdI w1 ng s z.toNat wr)) (fun t _ _ _ => (intOf t).toNat)
  case atStart => exact ⟨(s.length : Int), by omega, by omega, rfl, by simpa using R0⟩
  case round =>
    clear R0
    obtain ⟨z, hz1, hz2, rfl, hR⟩ := hrel
    by_cases hz : 0 < z
    · obtain ⟨k, rfl⟩ : ∃ k : Nat, z = (k : Int) := ⟨z.toNat, by omega⟩
      have hk : 0 < k := by omega
      have hks : k ≤ s.length := by omega
      obtain ⟨lo, hlo⟩ : ∃ lo, lo = k - 9 := ⟨_, rfl⟩
      have hmax : max (0 : Int) ((k : Int) - 9) = (lo : Int) := by omega
      have hlk : lo ≤ k ∧ k ≤ lo + 9 := by omega
      have HLO := Lib.hid hlo
      clear hlo
      have HR := Lib.hid hR.out
      clear hR
      go_wp2_with fail
      go_loop [8, 7] (fun i n => ∃ j : Nat, lo ≤ j ∧ j ≤ k ∧ i = .int .i64 (j : Int) ∧ n = .int .i64 (digV ((s.take j).drop lo) : Int)) (fun i _ => k - (intOf i).toNat)
      case atStart => exact ⟨lo, Nat.le_refl _, hlk.1, rfl, by rw [List.drop_of_length_le (by rw [List.length_take]; omega)]; rfl⟩
      case round =>
        obtain ⟨j, hj1, hj2, rfl, rfl⟩ := hrel
        by_cases hlt : j < k
        · have hjk : (j : Int) < (k : Int) := by omega
          have hjs : (j : Int) < (s.length : Int) := by omega
          have hjn : j < s.length := by omega
          obtain ⟨h1, h2, h3, h4⟩ := part_dig HA.out hjn hj1 (by omega)
          have hba := ba_get s j hjn
          have HT := Lib.hid h1
          clear h1
          obtain ⟨N2, hN2⟩ : ∃ N2, digV ((s.take (j + 1)).drop lo) = N2 := ⟨_, rfl⟩
          rw [hN2] at HT
          have HN2 := Lib.hid hN2
          clear hN2
          generalize digV ((s.take j).drop lo) = N at *
          rw [← hba] at h3 h4 HT
          have w1 : IntKind.u8.wrap ((((⟨s.toArray⟩ : ByteArray)[j]'hjn).toNat : Int) - 48) = ((((⟨s.toArray⟩ : ByteArray)[j]'hjn).toNat - 48 : Nat) : Int) := by
            rw [IntWalk.u8_in _ (by omega)]; omega
          have w2 : IntKind.i64.wrap ((((⟨s.toArray⟩ : ByteArray)[j]'hjn).toNat - 48 : Nat) : Int) = ((((⟨s.toArray⟩ : ByteArray)[j]'hjn).toNat - 48 : Nat) : Int) := IntWalk.i64_in _ (by omega)
          have w3 : IntKind.i64.wrap (10 * (N : Int)) = 10 * (N : Int) := IntWalk.i64_in _ (by omega)
          have w4 : IntKind.i64.wrap (10 * (N : Int) + ((((⟨s.toArray⟩ : ByteArray)[j]'hjn).toNat - 48 : Nat) : Int)) = (N2 : Int) := by
            rw [IntWalk.i64_in _ (by omega), HT.out]; omega
          clear hba hmax
          go_wp2_with fail
          go_round
          case rel => exact ⟨j + 1, by omega, by omega, by go_num, by rw [HN2.out]⟩
          case measure => simp [intOf]; omega
        · obtain rfl : j = k := by omega
          have hjk : ¬ (j : Int) < (j : Int) := by omega
          obtain ⟨v, d, hb, ho, he⟩ := HR.out.box
          rw [Int.toNat_natCast] at he
          have HB := Lib.hid hb
          have HO := Lib.hid ho
          have HE := Lib.hid he
          obtain ⟨⟨x0, x1⟩, _⟩ := cells2n hb
          have hdl : d.length ≤ 1000 := by
            have := congrArg List.length he
            rw [List.length_append] at this
            have := grp_len s
            omega
          have hnl : (d ++ [digV ((s.take j).drop lo)]).length = d.length + 1 := by rw [List.length_append]; rfl
          have HNL := Lib.hid hnl
          have HG := Lib.hid (show digV ((s.take j).drop lo) = digV ((s.take j).drop (j - 9)) by rw [HLO.out])
          have BL := Lib.hid HR.out.bel
          clear hb ho he hnl hmax
          generalize digV ((s.take j).drop lo) = G at *
          go_wp2_with (at_builtin; go_must (refine Row.wp_append1 rowG_ok rfl (.tmp 39) (.tmp 41) rfl (w1.heap.size + 1) v d wr G _ _ rfl rfl rfl HO.out rfl (by have := HB.out; exact (Array.getElem?_eq_some_iff.1 this).1) (by omega) ?_; intro v8 w9 ho8 hg8 _; obtain ⟨A8, c8, e8⟩ := ho8.slice; rw [HNL.out] at e8; subst e8; have NX := Lib.hid (rd_step HB.out HO.out HE.out BL.out hk hks (by rw [← HG.out]; exact ho8) hg8); obtain ⟨⟨y0, y1⟩, f0, f1⟩ := cells2n NX.out.1; clear ho8 hg8))
          exact ⟨⟨(j : Int) - 9, by omega, by omega, rfl, by rw [show ((j : Int) - 9).toNat = j - 9 by omega]; exact Lib.hid NX.out.2⟩, by simp [intOf]; omega⟩
    · have e0 : z.toNat = 0 := by omega
      obtain ⟨v, d, hb, ho, he⟩ := hR.out.box
      rw [e0, List.take_zero, grp_nil, List.append_nil] at he
      subst he
      obtain ⟨A5, k5, rfl⟩ := ho.slice
      have hrb := (hR.out.bel.block _ HL1.out).trans Y1.out
      obtain ⟨⟨x0, x1⟩, _⟩ := cells2n hb
      obtain ⟨⟨z0, z1⟩, f0, f1⟩ := cells2n hrb
      obtain ⟨⟨q0, q1⟩, _⟩ := cells2n (set2n hrb (.bool ng) (.slice A5 (grp s).length k5))
      have HBF := Lib.hid (below_set2n (below_next B1.out hR.out.bel ⟨rfl, rfl, rfl, rfl⟩) (Nat.le_refl _) (.bool ng) (.slice A5 (grp s).length k5))
      have hr : ∀ q, some w.heap.size = some q → q < w1.heap.size + 1 := fun q e => by cases e; have := HL1.out; omega
      have HOF := Lib.hid (own_rdsG ((ho.kept (grown_setCell wr ⟨w.heap.size, 0, none⟩ (.bool ng)) hr).kept (grown_setCell _ ⟨w.heap.size, 1, none⟩ (.slice A5 (grp s).length k5)) hr))
      clear hb ho hrb hr hR
      go_wp2_with fail
      exact bodyPost_ret (v := .agg #[.bool ng, .slice A5 (grp s).length k5]) (by simp [results, Tryz.results128, go_sem, q0, q1]) rfl (HP.out _ _ _ _ HOF.out HBF.out)
end Go.Proofs.YtejaehmoplohdaaGreatDoor

/- Audit: the contract of the reference's add, for two numbers that are not negative. -/
namespace Go.Proofs.YtejaehmoplohdaaGreatDoor
open Go.RowKit Go.Maps Num

/-- a number that is not negative is returned -/
def PosP (x k : Nat) (w : World) (e : Ending) (w' : World) : Prop := ∃ A n c os, e = .returned (.agg #[.bool false, .slice A n c]) ∧ n ≤ k ∧ rowG.Rds w' A n c os ∧ (∀ g ∈ os, g < base) ∧ magV os = x ∧ Below w.heap.size w w'
theorem rds_set2 {W : World} {A : Option Addr} {n c b : Nat} {l : List Nat} (h : rowG.Rds W A n c l) {x y : Value} {t : TypeId} (hb : W.heap[b]? = some (.cells #[x, y] t)) (hx : ∀ i, x ≠ .int .i64 i) (hy : ∀ i, y ≠ .int .i64 i) (p q : Value) : rowG.Rds ((W.setCell ⟨b, 0, none⟩ p).setCell ⟨b, 1, none⟩ q) A n c l :=
  ⟨h.len, h.cap, h.top, fun h0 => by
    obtain ⟨b', o', e, h2, h3⟩ := h.at_ h0
    have hne : b' ≠ b := fun eb => by
      subst eb
      have hl := h.len
      obtain ⟨g, r, rfl⟩ : ∃ g r, l = g :: r := by
        cases l with
        | nil => simp at hl; omega
        | cons g r => exact ⟨g, r, rfl⟩
      have h4 := h3 0 (.int .i64 (g : Int)) rfl
      rw [Nat.add_zero] at h4
      simp only [World.cell?, hb] at h4
      rcases o' with _ | _ | o'
      · simp at h4; exact hx _ h4
      · simp at h4; exact hy _ h4
      · simp at h4
    refine ⟨b', o', e, by rw [World.size_setCell, World.size_setCell]; exact h2, fun j u hu => ?_⟩
    rw [cell_set2n hne]
    exact h3 j u hu⟩
set_option maxRecDepth 100000 in
set_option maxHeartbeats 8000000 in
theorem raddp_any (A B : Option Addr) (n c p e0 : Nat) (a b : List Nat) (w : World) (ha : rowG.Rds w A n c a) (hb : rowG.Rds w B p e0 b) (hn : n ≤ 100) (hp : p ≤ 100) (la : ∀ g ∈ a, g < base) (lb : ∀ g ∈ b, g < base) :
    Calls Tryz.prog 127 #[.agg #[.bool false, .slice A n c], .agg #[.bool false, .slice B p e0]] w (PosP (magV a + magV b) 200 w) := by
  have HP := Lib.hid (show ∀ A m c os W, m ≤ 200 → rowG.Rds W A m c os → (∀ g ∈ os, g < base) → magV os = magV a + magV b → Below w.heap.size w W → PosP (magV a + magV b) 200 w (.returned (.agg #[.bool false, .slice A m c])) W from fun A m c os W h1 h2 h3 h4 h5 => ⟨A, m, c, os, rfl, h1, h2, h3, h4, h5⟩)
  have HA := Lib.hid (fun W (h : Below w.heap.size w W) => rplus_any A B n c p e0 a b W (ha.below h) (hb.below h) hn hp la lb)
  unfold GrpP at HA
  generalize PosP (magV a + magV b) 200 w = Post at *
  clear ha hb la lb
  have hB0 : Below w.heap.size w (((w.alloc (.cells #[.bool false, .slice A n c] 164)).alloc (.cells #[.bool false, .slice B p e0] 164)).alloc (.cells #[.bool false, .slice none 0 0] 164)) := (((Below.refl _ w).alloc (Nat.le_refl _) _).alloc (by simp) _).alloc (by simp; omega) _
  obtain ⟨y0', y1', y2'⟩ := alloc_three w (.bool false) (.slice A n c) (.bool false) (.slice B p e0) (.bool false) (.slice none 0 0) 164
  have hsz : (((w.alloc (.cells #[.bool false, .slice A n c] 164)).alloc (.cells #[.bool false, .slice B p e0] 164)).alloc (.cells #[.bool false, .slice none 0 0] 164)).heap.size = w.heap.size + 3 := by simp
  have B0 := Lib.hid hB0
  have Y0 := Lib.hid y0'
  have Y1 := Lib.hid y1'
  have Y2 := Lib.hid y2'
  obtain ⟨⟨q0, q1⟩, _⟩ := cells2n y0'
  obtain ⟨⟨r0, r1⟩, _⟩ := cells2n y1'
  obtain ⟨⟨z0, z1⟩, f0, f1⟩ := cells2n y2'
  have SZ := Lib.hid hsz
  clear hB0 y0' y1' y2' hsz
  go_enter Tryz.func127, Tryz.ntmps127
  go_upto_region 2 with fail
  generalize ((w.alloc (.cells #[.bool false, .slice A n c] 164)).alloc (.cells #[.bool false, .slice B p e0] 164)).alloc (.cells #[.bool false, .slice none 0 0] 164) = w1 at *
  have HL := Lib.hid (show w.heap.size < w1.heap.size ∧ w.heap.size + 1 < w1.heap.size ∧ w.heap.size + 1 + 1 < w1.heap.size by have := SZ.out; omega)
  have HNE := Lib.hid (show w.heap.size ≠ w.heap.size + 1 + 1 ∧ w.heap.size + 1 ≠ w.heap.size + 1 + 1 by omega)
  have RB := Lib.hid (show w.heap.size ≤ w.heap.size + 1 + 1 by omega)
  generalize w.heap.size + 1 + 1 = rb at *
  generalize w.heap.size + 1 = yb at *
  have HD := Lib.hid (Below.refl w1.heap.size w1)
  have ARM := Lib.hid (fun W (h : Below w1.heap.size w1 W) => (show Below w.heap.size w W ∧ W.heap[w.heap.size]? = some (.cells #[.bool false, .slice A n c] 164) ∧ W.heap[yb]? = some (.cells #[.bool false, .slice B p e0] 164) ∧ W.heap[rb]? = some (.cells #[.bool false, .slice none 0 0] 164) from
    ⟨below_next B0.out h ⟨rfl, rfl, rfl, rfl⟩, (h.block _ HL.out.1).trans Y0.out, (h.block _ HL.out.2.1).trans Y1.out, (h.block _ HL.out.2.2).trans Y2.out⟩))
  clear B0 Y0 Y1 Y2 SZ
  go_region_held3 (fun w' => w'.cell? ⟨w.heap.size, 0, none⟩ = some (.bool false) ∧ w'.cell? ⟨w.heap.size, 1, none⟩ = some (.slice A n c) ∧ w'.cell? ⟨yb, 1, none⟩ = some (.slice B p e0))
    (first | exact ⟨g0, g1, g3⟩ | exact ⟨q0, q1, r1⟩ | exact ⟨(cell_set2n HNE.out.1 _ _).trans g0, (cell_set2n HNE.out.1 _ _).trans g1, (cell_set2n HNE.out.2 _ _).trans g3⟩ | go_keep)
    (first
      | (go_at_call 163; with_reducible refine (HA.out _ (ARM.out _ ?_).1).mono ?_; · (first | exact HD.out | exact Below.drew HD.out)
         rintro e w' ⟨A3, n3, c3, os, rfl, hm1, hm2, hm3, hm4, hb⟩; have HM := Lib.hid (And.intro hm1 (And.intro hm2 (And.intro hm3 hm4))); have HD := Lib.hid (below_next HD.out hb ⟨rfl, rfl, rfl, rfl⟩); have HQ := ARM.out _ HD.out; obtain ⟨⟨g0, g1⟩, _⟩ := cells2n HQ.2.1; obtain ⟨⟨g2, g3⟩, _⟩ := cells2n HQ.2.2.1; obtain ⟨⟨h0, h1⟩, h2, h3⟩ := cells2n HQ.2.2.2; clear hb HQ hm1 hm2 hm3 hm4))
  all_goals
    go_wp2_with fail
    have HQ := ARM.out _ HD.out
    obtain ⟨⟨q0, q1⟩, _⟩ := cells2n (set2n HQ.2.2.2 (.bool false) (.slice A3 n3 c3))
    exact bodyPost_ret (v := .agg #[.bool false, .slice A3 n3 c3]) (by simp [results, Tryz.results127, go_sem, q0, q1]) rfl (HP.out _ _ _ os _ HM.out.1 (rds_set2 HM.out.2.1 HQ.2.2.2 (fun i e => by cases e) (fun i e => by cases e) _ _) HM.out.2.2.1 HM.out.2.2.2 (below_set2n HQ.1 RB.out _ _))
end Go.Proofs.YtejaehmoplohdaaGreatDoor

/- Audit: the contract of the reference's write, for numbers that are not negative. -/
namespace Go.Proofs.YtejaehmoplohdaaGreatDoor
open Go.RowKit Go.Maps Num

theorem digV_lead (s : List UInt8) : digV (lead s) = digV s := by
  induction s with
  | nil => rfl
  | cons c r ih =>
    by_cases h : c = 48
    · subst h
      rw [lead_zero, ih, digV_cons, show dv 48 = 0 from rfl]
      omega
    · rw [lead_stop c r h]
theorem val_digits {s : List UInt8} (h : s.all isDig = true) : val s = (digV s : Int) := by
  have hb : body s = s ∧ sgn s = false := by
    cases s with
    | nil => exact ⟨rfl, rfl⟩
    | cons c r =>
      have hc : isDig c = true := by rw [List.all_cons, Bool.and_eq_true] at h; exact h.1
      have hm := digit_not_minus hc
      have := sgn_first c r
      rw [if_neg hm, decide_eq_false hm] at this
      exact ⟨this.2, this.1⟩
  unfold val neg dgs
  rw [hb.1, hb.2, if_pos h, Bool.false_and, if_neg (by decide), digV_lead]
/-- the text of i groups and j digits of the next one -/
structure WrI (ms : List Nat) (i j g : Nat) (U : List UInt8) : Prop where
  all : U.all isDig = true
  len : U.length = 9 * i + j
  val : digV U = magV (ms.take i) + base ^ i * (g % 10 ^ j)
theorem base_pow (i : Nat) : (10 : Nat) ^ (9 * i) = base ^ i := by rw [Nat.pow_mul]; rfl
theorem WrI.step {ms : List Nat} {i j g : Nat} {U : List UInt8} (h : WrI ms i j g U) : WrI ms i (j + 1) g (UInt8.ofNat (48 + g / 10 ^ j % 10) :: U) := by
  have hr : g / 10 ^ j % 10 < 10 := Nat.mod_lt _ (by decide)
  have hn : (UInt8.ofNat (48 + g / 10 ^ j % 10)).toNat = 48 + g / 10 ^ j % 10 := by rw [UInt8.toNat_ofNat']; omega
  refine ⟨?_, by rw [List.length_cons, h.len]; omega, ?_⟩
  · rw [List.all_cons, h.all, Bool.and_true]
    unfold isDig
    rw [hn]
    simp
    omega
  · rw [digV_cons, h.val, h.len, show dv (UInt8.ofNat (48 + g / 10 ^ j % 10)) = g / 10 ^ j % 10 from by unfold dv; rw [hn]; omega, Nat.pow_add, base_pow, show g % 10 ^ (j + 1) = g % 10 ^ j + 10 ^ j * (g / 10 ^ j % 10) from by rw [Nat.pow_succ, Nat.mod_mul], Nat.mul_add, ← Nat.mul_assoc (base ^ i), Nat.mul_comm (g / 10 ^ j % 10)]
    omega
theorem WrI.full {ms : List Nat} {i : Nat} {U : List UInt8} (hb : ∀ g ∈ ms, g < base) (h : WrI ms i 9 (ms.getD i 0) U) : WrI ms (i + 1) 0 0 U := by
  have hg := getD_base hb i
  refine ⟨h.all, by rw [h.len]; omega, ?_⟩
  rw [h.val, take_mag, Nat.mod_eq_of_lt (show ms.getD i 0 < 10 ^ 9 from hg)]
  simp
theorem WrI.fresh {ms : List Nat} {i g : Nat} {U : List UInt8} (h : WrI ms i 0 0 U) : WrI ms i 0 g U := ⟨h.all, h.len, by rw [h.val]; simp [Nat.mod_one]⟩
set_option maxRecDepth 100000 in
set_option maxHeartbeats 8000000 in
theorem rwrite_any (A : Option Addr) (n c : Nat) (ms : List Nat) (w : World) (hl : rowG.Rds w A n c ms) (hn : n ≤ 1000) (hb : ∀ g ∈ ms, g < base) :
    Calls Tryz.prog 126 #[.agg #[.bool false, .slice A n c]] w (StrPost (txt (magV ms : Int)) w) := by
  have HP := Lib.hid (show ∀ W T, can T = txt (magV ms : Int) → Below w.heap.size w W → StrPost (txt (magV ms : Int)) w (.returned (.string ⟨(can T).toArray⟩)) W from fun W T e h => ⟨by rw [e], h⟩)
  have ll := hl.len
  have B1 := Lib.hid ((Below.refl _ w).alloc (Nat.le_refl _) (.cells #[.bool false, .slice A n c] 164))
  have Y1 := heap_alloc_new w (.cells #[.bool false, .slice A n c] 164)
  have L1 := Lib.hid (hl.below B1.out)
  have LL := Lib.hid ll
  have HB := Lib.hid hb
  generalize StrPost (txt (magV ms : Int)) w = Post at *
  obtain ⟨⟨x0, x1⟩, _⟩ := cells2n Y1
  clear hl Y1 hb ll
  go_enter Tryz.func126, Tryz.ntmps126
  go_upto_region 1 with fail
  generalize w.alloc (.cells #[.bool false, .slice A n c] 164) = w1 at *
  go_wp2_with fail
  go_loop [4, 3, 5, 6] (fun i t _ _ => ∃ (k : Nat) (T : List UInt8), k ≤ n ∧ i = .int .i64 (k : Int) ∧ t = .string ⟨T.toArray⟩ ∧ Hid (WrI ms k 0 0 T)) (fun i _ _ _ => n - (intOf i).toNat)
  case atStart => exact ⟨0, [], by omega, rfl, rfl, Lib.hid ⟨rfl, rfl, by simp [magV, digV]⟩⟩
  case round =>
    obtain ⟨k, T, hk, rfl, rfl, hW⟩ := hrel
    by_cases hlt : k < n
    · obtain ⟨b1, o1, rfl, hb1, _⟩ := L1.out.at_ (by omega)
      have q0 := L1.out.cell rowG_ok 0 k 0 _ hlt rfl
      simp only [Nat.add_zero, Nat.mul_one] at q0
      have hki : (k : Int) < (n : Int) := by omega
      have hk0 : (0 : Int) ≤ (k : Int) := by omega
      have HF := Lib.hid (fun U h => WrI.full (ms := ms) (i := k) (U := U) HB.out h)
      have W0 := Lib.hid (hW.out.fresh (g := ms.getD k 0))
      have hgb := getD_base HB.out k
      generalize ms.getD k 0 = g at *
      have hg9 : g < 1000000000 := hgb
      clear hgb hW
      go_wp2_with fail
      go_loop [6, 3, 5] (fun a t m => ∃ (j : Nat) (U : List UInt8), j ≤ 9 ∧ a = .int .i64 (j : Int) ∧ t = .string ⟨U.toArray⟩ ∧ m = .int .i64 ((g / 10 ^ j : Nat) : Int) ∧ Hid (WrI ms k j g U)) (fun a _ _ => 9 - (intOf a).toNat)
      case atStart => exact ⟨0, T, by omega, rfl, rfl, by simp, W0⟩
      case round =>
        clear W0
        obtain ⟨j, U, hj, rfl, rfl, rfl, hU⟩ := hrel
        by_cases hj9 : j < 9
        · have hji : (j : Int) < 9 := by omega
          have NX := Lib.hid hU.out.step
          have hul := hU.out.len
          have hdd : g / 10 ^ (j + 1) = g / 10 ^ j / 10 := by rw [Nat.pow_succ, Nat.div_div_eq_div_mul]
          have HDD := Lib.hid hdd
          have hN9 : g / 10 ^ j < 1000000000 := Nat.lt_of_le_of_lt (Nat.div_le_self _ _) hg9
          clear hdd hU
          generalize g / 10 ^ j = N at *
          obtain ⟨r, hr⟩ : ∃ r, N % 10 = r := ⟨_, rfl⟩
          obtain ⟨q, hq⟩ : ∃ q, N / 10 = q := ⟨_, rfl⟩
          obtain ⟨cc, hc⟩ : ∃ cc, 48 + N % 10 = cc := ⟨_, rfl⟩
          rw [hc] at NX
          have hr9 : r ≤ 9 := by omega
          have henc := encode_dig (c := cc) (by omega) (by omega)
          have hcat := fun W => cat_run [UInt8.ofNat cc] U (UInt8.ofNat cc :: U) (by simp; omega) rfl W
          have v3 : IntKind.i32.wrap (cc : Int) = (cc : Int) := IntWalk.i32_in _ (by omega)
          have k3 : (N : Int) % 10 = (r : Int) := by omega
          have k4 : (N : Int) / 10 = (q : Int) := by omega
          have k3' : Int.tmod (N : Int) 10 = (r : Int) := by rw [Int.tmod_eq_emod_of_nonneg (by omega)]; exact k3
          have k4' : Int.tdiv (N : Int) 10 = (q : Int) := by rw [Int.tdiv_eq_ediv_of_nonneg (by omega)]; exact k4
          have k5 : 48 + (r : Int) = (cc : Int) := by omega
          have HQ := Lib.hid (show (q : Int) = ((g / 10 ^ (j + 1) : Nat) : Int) by rw [HDD.out, ← hq])
          clear hr hq hc HF hul
          go_wp2_with fail
          go_round
          case rel => exact ⟨j + 1, UInt8.ofNat cc :: U, by omega, by go_num, rfl, by rw [← HQ.out], NX⟩
          case measure => simp [intOf]; omega
        · obtain rfl : j = 9 := by omega
          have hji : ((9 : Nat) : Int) = 9 := rfl
          have NX := Lib.hid (HF.out U hU.out)
          clear HF hU
          generalize g / 10 ^ 9 = N at *
          go_wp2_with fail
          exact ⟨⟨k + 1, U, by omega, by go_num, rfl, NX⟩, by simp [intOf]; omega⟩
    · obtain rfl : k = n := by omega
      have hki : ¬ (k : Int) < (k : Int) := by omega
      have hT := hW.out
      have hval : can T = txt (magV ms : Int) := by
        have hv := hT.val
        rw [List.take_of_length_le (by rw [LL.out]; exact Nat.le_refl _)] at hv
        unfold can
        rw [val_digits hT.all, hv]
        simp
      have HC := Lib.hid (fun W => rcan_any T W (by rw [hT.len]; omega))
      have HV := Lib.hid (HP.out w1 T hval B1.out)
      unfold RetP at HC
      clear hT hval hW
      go_wp2_with fail
      refine (HC.out _).mono ?_
      rintro e w3 ⟨rfl, rfl⟩
      go_wp2_with fail
      exact HV.out
end Go.Proofs.YtejaehmoplohdaaGreatDoor

/- Audit: the contract of the reference's Add for sums that are not negative, of any length. -/
namespace Go.Proofs.YtejaehmoplohdaaGreatDoor
open Go.RowKit Go.Maps Num

theorem neg_of_val {a : List UInt8} (h : 0 ≤ val a) : neg a = false := by
  cases hn : neg a with
  | false => rfl
  | true =>
    have h1 : dgs a ≠ [] := fun e => by unfold neg at hn; rw [e] at hn; simp at hn
    have h2 := digV_pos (dgs_all a) (dgs_head a) h1
    unfold val at h
    rw [if_pos hn] at h
    omega
theorem val_mag {a : List UInt8} (h : 0 ≤ val a) : val a = (magV (grp (dgs a)) : Int) := by
  rw [magV_grp]
  unfold val
  rw [neg_of_val h]
  rfl
set_option maxRecDepth 100000 in
set_option maxHeartbeats 8000000 in
theorem radd_pos (a b : List UInt8) (w : World) (la : a.length ≤ 100) (lb : b.length ≤ 100) (ha : 0 ≤ val a) (hb : 0 ≤ val b) : Calls Tryz.prog 95 #[.string ⟨a.toArray⟩, .string ⟨b.toArray⟩] w (StrPost (txt (val a + val b)) w) := by
  by_cases h17 : (dgs a).length ≤ 17 ∧ (dgs b).length ≤ 17
  · exact (radd_any a b w (by omega) (by omega) h17.1 h17.2).mono fun e w' h => ⟨h.1, h.2 ▸ Below.refl _ _⟩
  have SA := Lib.hid (fun W => short_any a W (by omega))
  have SB := Lib.hid (fun W => short_any b W (by omega))
  have RA := Lib.hid (fun W => rread_any a W (by omega))
  have RB := Lib.hid (fun W => rread_any b W (by omega))
  have hga : (grp (dgs a)).length ≤ 100 := by have := grp_len (dgs a); have := dgs_len a; omega
  have hgb : (grp (dgs b)).length ≤ 100 := by have := grp_len (dgs b); have := dgs_len b; omega
  have hla := grp_lt (dgs a) (dgs_all a)
  have hlb := grp_lt (dgs b) (dgs_all b)
  have HS := Lib.hid (show val a + val b = ((magV (grp (dgs a)) + magV (grp (dgs b)) : Nat) : Int) by rw [val_mag ha, val_mag hb]; omega)
  unfold ShPost at SA SB
  unfold NumP at RA RB
  rw [neg_of_val ha] at RA
  rw [neg_of_val hb] at RB
  have HP := Lib.hid (show ∀ W x, x = magV (grp (dgs a)) + magV (grp (dgs b)) → Below w.heap.size w W → StrPost (txt (val a + val b)) w (.returned (.string ⟨(txt (x : Int)).toArray⟩)) W from fun W x e h => ⟨by rw [HS.out, e], h⟩)
  generalize StrPost (txt (val a + val b)) w = Post at *
  have HT := Lib.hid (And.intro hga (And.intro hgb (And.intro hla hlb)))
  clear hga hgb hla hlb HS ha hb
  generalize grp (dgs a) = ga at *
  generalize grp (dgs b) = gb at *
  generalize (if (dgs a).length ≤ 17 then val a else 0) = va at *
  generalize (if (dgs b).length ≤ 17 then val b else 0) = vb at *
  obtain ⟨da, hda⟩ : ∃ d, decide ((dgs a).length ≤ 17) = d := ⟨_, rfl⟩
  obtain ⟨db, hdb⟩ : ∃ d, decide ((dgs b).length ≤ 17) = d := ⟨_, rfl⟩
  rw [hda] at SA
  rw [hdb] at SB
  have hcase : da = false ∨ (da = true ∧ db = false) := by
    cases da
    · exact .inl rfl
    · cases db
      · exact .inr ⟨rfl, rfl⟩
      · exact absurd ⟨of_decide_eq_true hda, of_decide_eq_true hdb⟩ h17
  clear h17 hda hdb
  rcases hcase with rfl | ⟨rfl, rfl⟩
  all_goals
    go_enter Tryz.func95, Tryz.ntmps95
    go_wp2_with fail
    refine (SA.out _).mono ?_
    rintro e w1 ⟨rfl, rfl⟩
    go_wp2_with fail
    refine (SB.out _).mono ?_
    rintro e w2 ⟨rfl, rfl⟩
    go_wp2_with fail
    refine (RA.out _).mono ?_
    rintro e w3 ⟨A1, n1, c1, rfl, r1, hb1⟩
    have R1 := Lib.hid r1
    have B1 := Lib.hid hb1
    clear r1 hb1
    go_wp2_with fail
    refine (RB.out _).mono ?_
    rintro e w4 ⟨A2, n2, c2, rfl, r2, hb2⟩
    have B2 := Lib.hid (below_next B1.out hb2 ⟨rfl, rfl, rfl, rfl⟩)
    have AD := Lib.hid (raddp_any A1 A2 n1 c1 n2 c2 ga gb w4 (R1.out.below hb2) r2 (by have := R1.out.len; have := HT.out.1; omega) (by have := r2.len; have := HT.out.2.1; omega) HT.out.2.2.1 HT.out.2.2.2)
    unfold PosP at AD
    clear r2 hb2
    go_wp2_with fail
    refine AD.out.mono ?_
    rintro e w5 ⟨A3, n3, c3, os, rfl, hn3, r3, hl3, hv3, hb3⟩
    have B3 := Lib.hid (below_next B2.out hb3 ⟨rfl, rfl, rfl, rfl⟩)
    have WR := Lib.hid (rwrite_any A3 n3 c3 os w5 r3 (by omega) hl3)
    have HV := Lib.hid (fun W (h : Below w.heap.size w W) => HP.out W (magV os) hv3 h)
    unfold StrPost at WR
    clear hn3 r3 hl3 hv3 hb3
    go_wp2_with fail
    refine WR.out.mono ?_
    rintro e w6 ⟨rfl, hb6⟩
    have B6 := Lib.hid (below_next B3.out hb6 ⟨rfl, rfl, rfl, rfl⟩)
    clear hb6
    go_wp2_with fail
    exact HV.out _ B6.out
end Go.Proofs.YtejaehmoplohdaaGreatDoor

/- Audit: contracts of the reference's over (any sums that are not negative), valid, depth. -/
namespace Go.Proofs.YtejaehmoplohdaaGreatDoor
open Go.RowKit Go.Maps Num

set_option maxRecDepth 100000 in
set_option maxHeartbeats 8000000 in
theorem rover2_any (x1 x2 y1 y2 : List UInt8) (w : World) (hx : SmN (x1, x2)) (hy : SmN (y1, y2)) (sx : 0 ≤ val x1) (sy : 0 ≤ val y1) :
    Calls Tryz.prog 61 #[.agg #[.string ⟨x1.toArray⟩, .string ⟨x2.toArray⟩], .agg #[.string ⟨y1.toArray⟩, .string ⟨y2.toArray⟩]] w (NdPost (overN sha (x1, x2) (y1, y2)) w) := by
  obtain ⟨hx1, hx2⟩ := hx
  obtain ⟨hy1, hy2⟩ := hy
  simp only at hx1 hx2 hy1 hy2
  have HP := Lib.hid (show ∀ W, Below w.heap.size w W → NdPost (overN sha (x1, x2) (y1, y2)) w (.returned (.agg #[.string ⟨(txt (val x1 + val y1)).toArray⟩, .string ⟨(sha (overT (x1, x2) (y1, y2))).toArray⟩])) W from fun W h => ⟨rfl, h⟩)
  have HA := Lib.hid (fun W => radd_pos x1 y1 W (by omega) (by omega) sx sy)
  have HPx := Lib.hid (fun W => rPrint_any x1 W (by omega))
  have HPy := Lib.hid (fun W => rPrint_any y1 W (by omega))
  have hpx : (prt x1).length ≤ 102 := by have := prt_len x1; have := can_len x1; omega
  have hpy : (prt y1).length ≤ 102 := by have := prt_len y1; have := can_len y1; omega
  have HS := Lib.hid (fun W => Sha.refSum_any ⟨(overT (x1, x2) (y1, y2)).toArray⟩ W (by show (overT (x1, x2) (y1, y2)).toArray.size ≤ _; rw [List.size_toArray]; unfold overT; simp; omega))
  have e5 := overT_cat x1 x2 y1 y2
  rw [show (⟨(overT (x1, x2) (y1, y2)).toArray⟩ : ByteArray).data.toList = overT (x1, x2) (y1, y2) from rfl] at HS
  unfold StrPost at HA HPx HPy
  generalize prt x1 = px at *
  generalize prt y1 = py at *
  generalize txt (val x1 + val y1) = sm at *
  generalize overT (x1, x2) (y1, y2) = T at *
  generalize hD : Sha.sha T = D at *
  rw [show sha T = D from hD] at HP
  clear hD
  obtain ⟨t1, h1⟩ : ∃ t, ([1] : List UInt8) ++ px = t := ⟨_, rfl⟩
  obtain ⟨t2, h2⟩ : ∃ t, t1 ++ [32] = t := ⟨_, rfl⟩
  obtain ⟨t3, h3⟩ : ∃ t, t2 ++ x2 = t := ⟨_, rfl⟩
  obtain ⟨t4, h4⟩ : ∃ t, t3 ++ py = t := ⟨_, rfl⟩
  obtain ⟨t5, h5⟩ : ∃ t, t4 ++ [32] = t := ⟨_, rfl⟩
  rw [h1, h2, h3, h4, h5] at e5
  have l1 : t1.length ≤ 103 := by rw [← h1]; simp; omega
  have l2 : t2.length ≤ 104 := by rw [← h2]; simp; omega
  have l3 : t3.length ≤ 1104 := by rw [← h3]; simp; omega
  have l4 : t4.length ≤ 1206 := by rw [← h4]; simp; omega
  have l5 : t5.length ≤ 1207 := by rw [← h5]; simp; omega
  have k1 := fun W => cat_run [1] px t1 (by simp; omega) h1 W
  have k2 := fun W => cat_run t1 [32] t2 (by simp; omega) h2 W
  have k3 := fun W => cat_run t2 x2 t3 (by omega) h3 W
  have k4 := fun W => cat_run t3 py t4 (by omega) h4 W
  have k5 := fun W => cat_run t4 [32] t5 (by simp; omega) h5 W
  have k6 := fun W => cat_run t5 y2 T (by omega) e5 W
  clear h1 h2 h3 h4 h5 e5 l1 l2 l3 l4 l5 hx1 hx2 hy1 hy2 hpx hpy sx sy
  have hB0 : Below w.heap.size w (((w.alloc (.cells #[.string ⟨x1.toArray⟩, .string ⟨x2.toArray⟩] 27)).alloc (.cells #[.string ⟨y1.toArray⟩, .string ⟨y2.toArray⟩] 27)).alloc (.cells #[.string ⟨#[]⟩, .string ⟨#[]⟩] 27)) := (((Below.refl _ w).alloc (Nat.le_refl _) _).alloc (by simp) _).alloc (by simp; omega) _
  obtain ⟨y0', y1', y2'⟩ := alloc_three w (.string ⟨x1.toArray⟩) (.string ⟨x2.toArray⟩) (.string ⟨y1.toArray⟩) (.string ⟨y2.toArray⟩) (.string ⟨#[]⟩) (.string ⟨#[]⟩) 27
  have hsz : (((w.alloc (.cells #[.string ⟨x1.toArray⟩, .string ⟨x2.toArray⟩] 27)).alloc (.cells #[.string ⟨y1.toArray⟩, .string ⟨y2.toArray⟩] 27)).alloc (.cells #[.string ⟨#[]⟩, .string ⟨#[]⟩] 27)).heap.size = w.heap.size + 3 := by simp
  have B0 := Lib.hid hB0
  have Y0 := Lib.hid y0'
  have Y1 := Lib.hid y1'
  have Y2 := Lib.hid y2'
  obtain ⟨⟨q0, q1⟩, _⟩ := cells2n y0'
  obtain ⟨⟨r0, r1⟩, _⟩ := cells2n y1'
  obtain ⟨⟨z0, z1⟩, f0, f1⟩ := cells2n y2'
  have SZ := Lib.hid hsz
  clear hB0 y0' y1' y2' hsz
  go_enter Tryz.func61, Tryz.ntmps61
  go_upto_region 1 with fail
  generalize ((w.alloc (.cells #[.string ⟨x1.toArray⟩, .string ⟨x2.toArray⟩] 27)).alloc (.cells #[.string ⟨y1.toArray⟩, .string ⟨y2.toArray⟩] 27)).alloc (.cells #[.string ⟨#[]⟩, .string ⟨#[]⟩] 27) = w1 at *
  have HL := Lib.hid (show w.heap.size < w1.heap.size ∧ w.heap.size + 1 < w1.heap.size ∧ w.heap.size + 1 + 1 < w1.heap.size by have := SZ.out; omega)
  have HNE := Lib.hid (show w.heap.size ≠ w.heap.size + 1 + 1 ∧ w.heap.size + 1 ≠ w.heap.size + 1 + 1 by omega)
  have RB := Lib.hid (show w.heap.size ≤ w.heap.size + 1 + 1 by omega)
  generalize w.heap.size + 1 + 1 = rb at *
  generalize w.heap.size + 1 = yb at *
  have HD := Lib.hid (Below.refl w1.heap.size w1)
  have ARM := Lib.hid (fun W (h : Below w1.heap.size w1 W) => (show Below w.heap.size w W ∧ W.heap[w.heap.size]? = some (.cells #[.string ⟨x1.toArray⟩, .string ⟨x2.toArray⟩] 27) ∧ W.heap[yb]? = some (.cells #[.string ⟨y1.toArray⟩, .string ⟨y2.toArray⟩] 27) ∧ W.heap[rb]? = some (.cells #[.string ⟨#[]⟩, .string ⟨#[]⟩] 27) from
    ⟨below_next B0.out h ⟨rfl, rfl, rfl, rfl⟩, (h.block _ HL.out.1).trans Y0.out, (h.block _ HL.out.2.1).trans Y1.out, (h.block _ HL.out.2.2).trans Y2.out⟩))
  clear B0 Y0 Y1 Y2 SZ
  go_region_held3 (fun w' => w'.cell? ⟨w.heap.size, 0, none⟩ = some (.string ⟨x1.toArray⟩) ∧ w'.cell? ⟨w.heap.size, 1, none⟩ = some (.string ⟨x2.toArray⟩) ∧ w'.cell? ⟨yb, 0, none⟩ = some (.string ⟨y1.toArray⟩) ∧ w'.cell? ⟨yb, 1, none⟩ = some (.string ⟨y2.toArray⟩))
    (first | exact ⟨g0, g1, g2, g3⟩ | exact ⟨q0, q1, r0, r1⟩ | exact ⟨(cell_set2n HNE.out.1 _ _).trans g0, (cell_set2n HNE.out.1 _ _).trans g1, (cell_set2n HNE.out.2 _ _).trans g2, (cell_set2n HNE.out.2 _ _).trans g3⟩ | go_keep)
    (first
      | (go_at_call 72; (first | with_reducible refine (HPx.out _).mono ?_ | with_reducible refine (HPy.out _).mono ?_)
         rintro e w' ⟨rfl, hb⟩; have HD := Lib.hid (below_next HD.out hb ⟨rfl, rfl, rfl, rfl⟩); have HQ := ARM.out _ HD.out; obtain ⟨⟨g0, g1⟩, _⟩ := cells2n HQ.2.1; obtain ⟨⟨g2, g3⟩, _⟩ := cells2n HQ.2.2.1; obtain ⟨⟨h0, h1⟩, h2, h3⟩ := cells2n HQ.2.2.2; clear hb HQ))
  all_goals
    go_wp2_with fail
    refine (HA.out _).mono ?_
    rintro e w' ⟨rfl, hb⟩
    have HD := Lib.hid (below_next HD.out hb ⟨rfl, rfl, rfl, rfl⟩)
    have HQ := ARM.out _ HD.out
    obtain ⟨⟨g0, g1⟩, _⟩ := cells2n HQ.2.1
    obtain ⟨⟨g2, g3⟩, _⟩ := cells2n HQ.2.2.1
    obtain ⟨⟨h0, h1⟩, h2, h3⟩ := cells2n HQ.2.2.2
    clear hb HQ
    go_wp2_with fail
    refine (HS.out _).mono ?_
    rintro e w' ⟨rfl, hb⟩
    have HD := Lib.hid (below_next HD.out hb ⟨rfl, rfl, rfl, rfl⟩)
    have HQ := ARM.out _ HD.out
    obtain ⟨⟨g0, g1⟩, _⟩ := cells2n HQ.2.1
    obtain ⟨⟨g2, g3⟩, _⟩ := cells2n HQ.2.2.1
    obtain ⟨⟨h0, h1⟩, h2, h3⟩ := cells2n HQ.2.2.2
    clear hb HQ
    go_wp2_with fail
    have HQ := ARM.out _ HD.out
    obtain ⟨⟨q0, q1⟩, _⟩ := cells2n (set2n HQ.2.2.2 (.string ⟨sm.toArray⟩) (.string ⟨D.toArray⟩))
    exact bodyPost_ret (v := .agg #[.string ⟨sm.toArray⟩, .string ⟨D.toArray⟩]) (by simp [results, Tryz.results61, go_sem, q0, q1]) rfl (HP.out _ (below_set2n HQ.1 RB.out _ _))
set_option maxRecDepth 100000 in
set_option maxHeartbeats 2000000 in
theorem rvalid_any (x1 x2 : List UInt8) (w : World) (h1 : x1.length ≤ 100) : Calls Tryz.prog 45 #[.agg #[.string ⟨x1.toArray⟩, .string ⟨x2.toArray⟩]] w (BoolPost (validN (x1, x2)) w) := by
  have y0 := heap_alloc_new w (.cells #[.string ⟨x1.toArray⟩, .string ⟨x2.toArray⟩] 27)
  have B0 := Lib.hid ((Below.refl _ w).alloc (Nat.le_refl _) (.cells #[.string ⟨x1.toArray⟩, .string ⟨x2.toArray⟩] 27))
  have HL := Lib.hid (show w.heap.size < (w.alloc (.cells #[.string ⟨x1.toArray⟩, .string ⟨x2.toArray⟩] 27)).heap.size by simp)
  have Y := Lib.hid y0
  obtain ⟨⟨c0, c1⟩, _⟩ := cells2n y0
  have HP := Lib.hid (show ∀ b W, validN (x1, x2) = b → Below w.heap.size w W → BoolPost (validN (x1, x2)) w (.returned (.bool b)) W from fun b W e h => ⟨by rw [e], h⟩)
  have HK : ∀ W, Calls Tryz.prog 69 #[.string ⟨x1.toArray⟩] W (IntPost (chkI x1) W) := fun W => (rchk_any x1 W (by omega)).mono fun e w' h => ⟨h.1, h.2 ▸ Below.refl _ _⟩
  have HM : ∀ W, Calls Tryz.prog 75 #[.string ⟨x1.toArray⟩] W (IntPost (cmpI (val x1) 0) W) := fun W => (rsign_any x1 W (by omega)).mono fun e w' h => ⟨h.1, h.2 ▸ Below.refl _ _⟩
  unfold IntPost at HK HM
  have HV := Lib.hid (show validN (x1, x2) = (decide (can x1 = x1) && decide (0 ≤ val x1) && decide (x2.length = 32)) from rfl)
  generalize BoolPost (validN (x1, x2)) w = Post at *
  by_cases hc : can x1 = x1
  case neg =>
    have e0 : chkI x1 = 1 := by unfold chkI; rw [if_neg hc]
    rw [e0] at HK
    have HK1 := Lib.hid HK
    have hv := Lib.hid (fun W h => HP.out false W (by rw [HV.out, decide_eq_false hc]; rfl) h)
    clear HK HM e0 hc HV HP y0
    go_enter Tryz.func45, Tryz.ntmps45
    go_wp2_with fail
    refine (HK1.out _).mono ?_
    rintro e w2 ⟨rfl, hb⟩
    have B2 := Lib.hid (below_next B0.out hb ⟨rfl, rfl, rfl, rfl⟩)
    clear hb
    go_wp2_with fail
    exact hv.out _ B2.out
  have e0 : chkI x1 = 0 := by unfold chkI; rw [if_pos hc]
  rw [e0] at HK
  have HK1 := Lib.hid HK
  obtain ⟨k, hk⟩ : ∃ k, cmpI (val x1) 0 = k := ⟨_, rfl⟩
  rw [hk] at HM
  have HM1 := Lib.hid HM
  by_cases hz : 0 ≤ val x1
  case neg =>
    have hk0 : ¬ 0 ≤ k := by rw [← hk]; unfold cmpI; rw [if_pos (by omega)]; omega
    have hkd : decide (0 ≤ k) = false := decide_eq_false hk0
    have hv := Lib.hid (fun W h => HP.out false W (by rw [HV.out, decide_eq_false hz, Bool.and_false]; rfl) h)
    clear HK HM e0 hc hz HV HP y0 hk
    go_enter Tryz.func45, Tryz.ntmps45
    go_wp2_with fail
    refine (HK1.out _).mono ?_
    rintro e w2 ⟨rfl, hb⟩
    have B2 := Lib.hid (below_next B0.out hb ⟨rfl, rfl, rfl, rfl⟩)
    obtain ⟨⟨c2, c3⟩, _⟩ := cells2n ((hb.block _ HL.out).trans Y.out)
    clear hb
    go_wp2_with fail
    refine (HM1.out _).mono ?_
    rintro e w3 ⟨rfl, hb⟩
    have B3 := Lib.hid (below_next B2.out hb ⟨rfl, rfl, rfl, rfl⟩)
    clear hb
    go_wp2_with fail
    exact hv.out _ B3.out
  have hk0 : 0 ≤ k := by rw [← hk]; unfold cmpI; rw [if_neg (by omega)]; split <;> omega
  have hkd : decide (0 ≤ k) = true := decide_eq_true hk0
  have hd : decide (x2.length = 32) = ((x2.length : Int) == 32) := by
    by_cases h : x2.length = 32
    · rw [decide_eq_true h, h]; rfl
    · rw [decide_eq_false h]; exact (beq_eq_false_iff_ne.2 (by omega)).symm
  have hv := Lib.hid (fun W h => HP.out ((x2.length : Int) == 32) W (by rw [HV.out, decide_eq_true hc, decide_eq_true hz, hd]; rfl) h)
  clear HK HM e0 hc hz HV HP y0 hk hd
  go_enter Tryz.func45, Tryz.ntmps45
  go_wp2_with fail
  refine (HK1.out _).mono ?_
  rintro e w2 ⟨rfl, hb⟩
  have B2 := Lib.hid (below_next B0.out hb ⟨rfl, rfl, rfl, rfl⟩)
  have Y2 := Lib.hid ((hb.block _ HL.out).trans Y.out)
  have L2 := Lib.hid (Nat.lt_of_lt_of_le HL.out hb.size)
  obtain ⟨⟨c2, c3⟩, _⟩ := cells2n Y2.out
  clear hb
  go_wp2_with fail
  refine (HM1.out _).mono ?_
  rintro e w3 ⟨rfl, hb⟩
  have B3 := Lib.hid (below_next B2.out hb ⟨rfl, rfl, rfl, rfl⟩)
  obtain ⟨⟨c4, c5⟩, _⟩ := cells2n ((hb.block _ L2.out).trans Y2.out)
  clear hb
  go_wp2_with fail
  exact hv.out _ B3.out
set_option maxRecDepth 100000 in
theorem rdepth_any (m : Nat) : ∀ (i n : Nat) (w : World), n ≤ m → n ≤ 100000 → i ≤ 100000 → Calls Tryz.prog 46 #[.int .i64 (i : Int), .int .i64 (n : Int)] w (RetP (.int .i64 ((wayN i n).length : Int)) w) := by
  induction m with
  | zero =>
    intro i n w hm hn hi
    obtain rfl : n = 0 := by omega
    rw [way_small i 0 (by omega)]
    go_enter Tryz.func46, Tryz.ntmps46
    go_wp2_with fail
    go_ret
    exact ⟨rfl, rfl⟩
  | succ m ih =>
    intro i n w hm hn hi
    by_cases h2 : n < 2
    · rw [way_small i n (by omega)]
      have hk : (n : Int) < 2 := by omega
      go_enter Tryz.func46, Tryz.ntmps46
      go_wp2_with fail
      go_ret
      exact ⟨rfl, rfl⟩
    have hk2 : ¬ (n : Int) < 2 := by omega
    have hc1 := cutN_pos n (by omega)
    have hc2 := cutN_lt n (by omega)
    have HC := Lib.hid (fun W => power_any n W (by omega))
    unfold RetP at HC
    by_cases hik : i < cutN n
    · have hd := dep_left i n (by omega) hik
      have IH := Lib.hid (fun W => ih i (cutN n) W (by omega) (by omega) hi)
      unfold RetP at IH
      have hlen := way_len i (cutN n)
      rw [hd]
      generalize (wayN i (cutN n)).length = L at *
      generalize cutN n = k at *
      have hik2 : (i : Int) < (k : Int) := by omega
      have HP := Lib.hid (show ∀ W : World, W = w → RetP (.int .i64 ((1 + L : Nat) : Int)) w (.returned (.int .i64 (1 + (L : Int)))) W from fun W h => ⟨by congr 2, h.symm⟩)
      generalize RetP (.int .i64 ((1 + L : Nat) : Int)) w = Post at *
      clear ih hd hik
      go_enter Tryz.func46, Tryz.ntmps46
      go_wp2_with fail
      refine (HC.out _).mono ?_
      rintro e w1 ⟨rfl, rfl⟩
      go_wp2_with fail
      refine (IH.out _).mono ?_
      rintro e w1 ⟨rfl, rfl⟩
      go_wp2_with fail
      exact HP.out _ rfl
    · have hd := dep_right i n (by omega) hik
      have IH := Lib.hid (fun W => ih (i - cutN n) (n - cutN n) W (by omega) (by omega) (by omega))
      unfold RetP at IH
      have hlen := way_len (i - cutN n) (n - cutN n)
      rw [hd]
      generalize (wayN (i - cutN n) (n - cutN n)).length = L at *
      generalize cutN n = k at *
      obtain ⟨i2, hi2⟩ : ∃ i2, i - k = i2 := ⟨_, rfl⟩
      obtain ⟨n2, hn2⟩ : ∃ n2, n - k = n2 := ⟨_, rfl⟩
      rw [hi2, hn2] at IH
      have hik2 : ¬ (i : Int) < (k : Int) := by omega
      have e1 : IntKind.i64.wrap ((i : Int) - (k : Int)) = (i2 : Int) := by rw [IntWalk.i64_in _ (by omega)]; omega
      have e2 : IntKind.i64.wrap ((n : Int) - (k : Int)) = (n2 : Int) := by rw [IntWalk.i64_in _ (by omega)]; omega
      have e1' : (i : Int) - (k : Int) = (i2 : Int) := by omega
      have e2' : (n : Int) - (k : Int) = (n2 : Int) := by omega
      have HP := Lib.hid (show ∀ W : World, W = w → RetP (.int .i64 ((1 + L : Nat) : Int)) w (.returned (.int .i64 (1 + (L : Int)))) W from fun W h => ⟨by congr 2, h.symm⟩)
      generalize RetP (.int .i64 ((1 + L : Nat) : Int)) w = Post at *
      clear ih hd hik hi2 hn2
      go_enter Tryz.func46, Tryz.ntmps46
      go_wp2_with fail
      refine (HC.out _).mono ?_
      rintro e w1 ⟨rfl, rfl⟩
      go_wp2_with fail
      refine (IH.out _).mono ?_
      rintro e w1 ⟨rfl, rfl⟩
      go_wp2_with fail
      exact HP.out _ rfl
end Go.Proofs.YtejaehmoplohdaaGreatDoor

/- Audit: the contract of the reference's compute. -/
namespace Go.Proofs.YtejaehmoplohdaaGreatDoor
open Go.RowKit Go.Maps Num

/-- nodes that can stand in a proof of the sizes that are looked at -/
def VN (x : Nd) : Prop := validN x = true ∧ x.1.length ≤ 70
theorem climb_sm {own : Nd} {fs : List Bool} {ns : List Nd} (ho : VN own) (hn : ∀ x ∈ ns, VN x) (h : fs.length = ns.length) (hl : ns.length ≤ 1100) : SmN (climbN sha own fs ns) ∧ 0 ≤ val (climbN sha own fs ns).1 :=
  ⟨climb_small own fs ns h ho.2 (fun x hx => (hn x hx).2) (validN_iff.1 ho.1).2.2 hl, (validN_iff.1 (climb_valid sha_len fs ns own ho.1 (fun x hx => (hn x hx).1))).2.1⟩
theorem VN.sm {x : Nd} (h : VN x) : SmN x ∧ 0 ≤ val x.1 := ⟨⟨by have := h.2; omega, by have := (validN_iff.1 h.1).2.2; omega⟩, (validN_iff.1 h.1).2.1⟩
theorem take_snoc (ns : List Nd) (q : Nat) (h : ns.length = q + 1) : ns = ns.take q ++ [ns.getD q nd0] := by
  have hq : q < ns.length := by omega
  rw [← getD_nd ns q hq, ← List.take_succ_eq_append_getElem hq, List.take_of_length_le (by omega)]
set_option maxRecDepth 100000 in
theorem rcompute_end (x1 x2 : List UInt8) (i n : Nat) (A : Option Addr) (kk c : Nat) (ns : List Nd) (w : World) (h : n < 2) :
    Calls Tryz.prog 47 #[.agg #[.string ⟨x1.toArray⟩, .string ⟨x2.toArray⟩], .int .i64 (i : Int), .int .i64 (n : Int), .slice A kk c] w (NdPost (climbN sha (x1, x2) (wayN i n).reverse ns) w) := by
  rw [climb_end sha (x1, x2) i n h ns]
  have B0 := Lib.hid (show Below w.heap.size w ((w.alloc (.cells #[.string ⟨x1.toArray⟩, .string ⟨x2.toArray⟩] 27)).alloc (.cells #[.string ⟨x1.toArray⟩, .string ⟨x2.toArray⟩] 27)) from ((Below.refl _ w).alloc (Nat.le_refl _) _).alloc (by simp) _)
  obtain ⟨y0', y1'⟩ := alloc_two w (.string ⟨x1.toArray⟩) (.string ⟨x2.toArray⟩) (.string ⟨x1.toArray⟩) (.string ⟨x2.toArray⟩) 27
  have HP := Lib.hid (fun W (h : Below w.heap.size w W) => (show NdPost (x1, x2) w (.returned (.agg #[.string ⟨x1.toArray⟩, .string ⟨x2.toArray⟩])) W from ⟨rfl, h⟩))
  have yz := (heap_alloc_new w (.cells #[.string ⟨x1.toArray⟩, .string ⟨x2.toArray⟩] 27))
  obtain ⟨⟨c0, c1⟩, _⟩ := cells2n yz
  obtain ⟨⟨q0, q1⟩, _⟩ := cells2n y1'
  have hn2I : (n : Int) < 2 := by omega
  clear y0' y1' yz
  generalize NdPost (x1, x2) w = Post at *
  go_enter Tryz.func47, Tryz.ntmps47
  go_wp2_with fail
  exact bodyPost_ret (v := .agg #[.string ⟨x1.toArray⟩, .string ⟨x2.toArray⟩]) (by simp [results, Tryz.results47, go_sem, q0, q1]) rfl (HP.out _ B0.out)
set_option maxRecDepth 100000 in
set_option maxHeartbeats 8000000 in
theorem rcompute_any (x1 x2 : List UInt8) (hx : VN (x1, x2)) (m : Nat) : ∀ (i n : Nat) (A : Option Addr) (kk c : Nat) (ns : List Nd) (w : World), n ≤ m → n ≤ 100000 → i ≤ 100000 → kk ≤ 1000 → rowNd.Rds w A kk c ns → (∀ x ∈ ns, VN x) → ns.length = (wayN i n).length →
    Calls Tryz.prog 47 #[.agg #[.string ⟨x1.toArray⟩, .string ⟨x2.toArray⟩], .int .i64 (i : Int), .int .i64 (n : Int), .slice A kk c] w (NdPost (climbN sha (x1, x2) (wayN i n).reverse ns) w) := by
  induction m with
  | zero =>
    intro i n A kk c ns w hm hn hi hkk hA hV hl
    obtain rfl : n = 0 := by omega
    exact rcompute_end x1 x2 i 0 A kk c ns w (by omega)
  | succ m ih =>
    intro i n A kk c ns w hm hn hi hkk hA hV hl
    by_cases h2 : n < 2
    · exact rcompute_end x1 x2 i n A kk c ns w h2
    · have hc1 := cutN_pos n (by omega)
      have hc2 := cutN_lt n (by omega)
      have hkl : 1 ≤ (wayN i n).length := by
        by_cases h : i < cutN n
        · rw [dep_left i n (by omega) h]; omega
        · rw [dep_right i n (by omega) h]; omega
      have hAl := hA.len
      obtain ⟨q, rfl⟩ : ∃ q, kk = q + 1 := ⟨kk - 1, by omega⟩
      have hlen : ns.length = q + 1 := hAl
      have hlt : (ns.take q).length = q := by rw [List.length_take]; omega
      obtain ⟨b, o, rfl, hb, _⟩ := hA.at_ (by omega)
      have hcap := hA.cap
      have HC := Lib.hid (fun W => power_any n W (by omega))
      unfold RetP at HC
      have HBL := Lib.hid hb
      have RT := Lib.hid (hA.take rowNd_ok q (by omega))
      have hVT : ∀ x ∈ ns.take q, VN x := fun x h => hV x (List.mem_of_mem_take h)
      rcases hy : ns.getD q nd0 with ⟨y1, y2⟩
      have hyv := (hV _ (getD_mem nd0 ns q (by omega))).sm
      rw [hy] at hyv
      have CQ := Lib.hid (fun W (h : Below w.heap.size w W) => (show W.cell? ⟨b, o + q * 2, none⟩ = some (.string ⟨y1.toArray⟩) ∧ W.cell? ⟨b, o + q * 2 + 1, none⟩ = some (.string ⟨y2.toArray⟩) from by
        have t0 := (hA.below h).cell rowNd_ok nd0 q 0 _ (by omega) rfl
        have t1 := (hA.below h).cell rowNd_ok nd0 q 1 _ (by omega) rfl
        rw [hy] at t0 t1
        exact ⟨t0, t1⟩))
      have hB0 : Below w.heap.size w ((w.alloc (.cells #[.string ⟨x1.toArray⟩, .string ⟨x2.toArray⟩] 27)).alloc (.cells #[.string ⟨#[]⟩, .string ⟨#[]⟩] 27)) := ((Below.refl _ w).alloc (Nat.le_refl _) _).alloc (by simp) _
      obtain ⟨y0', y1'⟩ := alloc_two w (.string ⟨x1.toArray⟩) (.string ⟨x2.toArray⟩) (.string ⟨#[]⟩) (.string ⟨#[]⟩) 27
      have hsz : ((w.alloc (.cells #[.string ⟨x1.toArray⟩, .string ⟨x2.toArray⟩] 27)).alloc (.cells #[.string ⟨#[]⟩, .string ⟨#[]⟩] 27)).heap.size = w.heap.size + 2 := by simp
      have B0 := Lib.hid hB0
      have Y0 := Lib.hid y0'
      have Y1 := Lib.hid y1'
      obtain ⟨⟨c0, c1⟩, _⟩ := cells2n y0'
      obtain ⟨⟨z0, z1⟩, f0, f1⟩ := cells2n y1'
      have SZ := Lib.hid hsz
      have hn2I : ¬ (n : Int) < 2 := by omega
      obtain ⟨K, hK⟩ : ∃ K, K = q + 1 := ⟨_, rfl⟩
      have hKw : IntKind.i64.wrap ((K : Int) - 1) = (q : Int) := by rw [IntWalk.i64_in _ (by omega)]; omega
      have hKw' : (K : Int) - 1 = (q : Int) := by omega
      have hq0 : (0 : Int) ≤ (q : Int) := by omega
      have hqK : (q : Int) < (K : Int) := by omega
      have hqc : (q : Int) ≤ (c : Int) := by omega
      have hqc2 : c ≠ 0 := by omega
      rw [← hK]
      clear hK hB0 y0' y1' hsz hA hb hAl hkl hcap
      by_cases hik : i < cutN n
      · have hsn := take_snoc ns q hlen
        have hcl := climb_left sha (x1, x2) i n (ns.take q) (ns.getD q nd0) (by omega) hik (by rw [hlt]; omega)
        rw [← hsn] at hcl
        have IH := Lib.hid (fun W (h : Below w.heap.size w W) => ih i (cutN n) (some ⟨b, o, none⟩) q c (ns.take q) W (by omega) (by omega) hi (by omega) (RT.out.below h) hVT hcl.1)
        have hcs := climb_sm hx hVT (fs := (wayN i (cutN n)).reverse) (by rw [List.length_reverse]; exact hcl.1.symm) (by omega)
        rcases hu : climbN sha (x1, x2) (wayN i (cutN n)).reverse (ns.take q) with ⟨u1, u2⟩
        rw [hu] at hcs IH
        have hce := hcl.2
        rw [hu, hy] at hce
        have OV := Lib.hid (fun W => rover2_any u1 u2 y1 y2 W hcs.1 hyv.1 hcs.2 hyv.2)
        unfold NdPost ndV at IH OV
        simp only at IH
        have HP := Lib.hid (show ∀ v1 v2 W, overN sha (u1, u2) (y1, y2) = (v1, v2) → Below w.heap.size w W → NdPost (climbN sha (x1, x2) (wayN i n).reverse ns) w (.returned (.agg #[.string ⟨v1.toArray⟩, .string ⟨v2.toArray⟩])) W from fun v1 v2 W e h => ⟨by rw [hce, e]; rfl, h⟩)
        generalize NdPost (climbN sha (x1, x2) (wayN i n).reverse ns) w = Post at *
        rcases hov : overN sha (u1, u2) (y1, y2) with ⟨v1, v2⟩
        rw [hov] at OV
        simp only at OV
        have HV := Lib.hid (fun W h => HP.out v1 v2 W hov h)
        generalize cutN n = k at *
        have hikI : (i : Int) < (k : Int) := by omega
        clear hl hce hcl hu hov hsn hcs hyv hVT ih hV hx hlen hlt hik HP hy
        go_enter Tryz.func47, Tryz.ntmps47
        go_wp2_with fail
        refine (HC.out _).mono ?_
        rintro e w1' ⟨rfl, rfl⟩
        go_upto_region 5 with fail
        generalize (w.alloc (.cells #[.string ⟨x1.toArray⟩, .string ⟨x2.toArray⟩] 27)).alloc (.cells #[.string ⟨#[]⟩, .string ⟨#[]⟩] 27) = w1 at *
        have HL := Lib.hid (show w.heap.size < w1.heap.size ∧ w.heap.size + 1 < w1.heap.size by have := SZ.out; omega)
        have HNE := Lib.hid (show w.heap.size ≠ w.heap.size + 1 ∧ b ≠ w.heap.size + 1 by have := HBL.out; omega)
        have RB := Lib.hid (show w.heap.size ≤ w.heap.size + 1 by omega)
        generalize w.heap.size + 1 = rb at *
        have HD := Lib.hid (Below.refl w1.heap.size w1)
        have ARM := Lib.hid (fun W (h : Below w1.heap.size w1 W) => (show Below w.heap.size w W ∧ W.heap[w.heap.size]? = some (.cells #[.string ⟨x1.toArray⟩, .string ⟨x2.toArray⟩] 27) ∧ W.heap[rb]? = some (.cells #[.string ⟨#[]⟩, .string ⟨#[]⟩] 27) ∧ W.cell? ⟨b, o + q * 2, none⟩ = some (.string ⟨y1.toArray⟩) ∧ W.cell? ⟨b, o + q * 2 + 1, none⟩ = some (.string ⟨y2.toArray⟩) from by
          have h0 := below_next B0.out h ⟨rfl, rfl, rfl, rfl⟩
          exact ⟨h0, (h.block _ HL.out.1).trans Y0.out, (h.block _ HL.out.2).trans Y1.out, CQ.out W h0⟩))
        obtain ⟨s0, s1⟩ := (ARM.out w1 HD.out).2.2.2
        clear B0 Y0 Y1 SZ
        go_region_held3 (fun w' => w'.cell? ⟨w.heap.size, 0, none⟩ = some (.string ⟨x1.toArray⟩) ∧ w'.cell? ⟨w.heap.size, 1, none⟩ = some (.string ⟨x2.toArray⟩) ∧ w'.cell? ⟨b, o + q * 2, none⟩ = some (.string ⟨y1.toArray⟩) ∧ w'.cell? ⟨b, o + q * 2 + 1, none⟩ = some (.string ⟨y2.toArray⟩))
          (first | exact ⟨g0, g1, g2, g3⟩ | exact ⟨c0, c1, s0, s1⟩ | exact ⟨(cell_set2n HNE.out.1 _ _).trans g0, (cell_set2n HNE.out.1 _ _).trans g1, (cell_set2n HNE.out.2 _ _).trans g2, (cell_set2n HNE.out.2 _ _).trans g3⟩ | go_keep)
          (first
            | (go_at_call 47; with_reducible refine (IH.out _ (ARM.out _ ?_).1).mono ?_; · (first | exact HD.out | exact Below.drew HD.out)
               rintro e w' ⟨rfl, hb⟩; have HD := Lib.hid (below_next HD.out hb ⟨rfl, rfl, rfl, rfl⟩); have HQ := ARM.out _ HD.out; obtain ⟨⟨g0, g1⟩, _⟩ := cells2n HQ.2.1; obtain ⟨g2, g3⟩ := HQ.2.2.2; obtain ⟨⟨h0, h1⟩, h2, h3⟩ := cells2n HQ.2.2.1; clear hb HQ)
            | (go_at_call 61; with_reducible refine (OV.out _).mono ?_
               rintro e w' ⟨rfl, hb⟩; have HD := Lib.hid (below_next HD.out hb ⟨rfl, rfl, rfl, rfl⟩); have HQ := ARM.out _ HD.out; obtain ⟨⟨g0, g1⟩, _⟩ := cells2n HQ.2.1; obtain ⟨g2, g3⟩ := HQ.2.2.2; obtain ⟨⟨h0, h1⟩, h2, h3⟩ := cells2n HQ.2.2.1; clear hb HQ))
        all_goals
          go_wp2_with fail
          have HQ := ARM.out _ HD.out
          obtain ⟨⟨q0, q1⟩, _⟩ := cells2n (set2n HQ.2.2.1 (.string ⟨v1.toArray⟩) (.string ⟨v2.toArray⟩))
          exact bodyPost_ret (v := .agg #[.string ⟨v1.toArray⟩, .string ⟨v2.toArray⟩]) (by simp [results, Tryz.results47, go_sem, q0, q1]) rfl (HV.out _ (below_set2n HQ.1 RB.out _ _))
      · have hsn := take_snoc ns q hlen
        have hcl := climb_right sha (x1, x2) i n (ns.take q) (ns.getD q nd0) (by omega) hik (by rw [hlt]; omega)
        rw [← hsn] at hcl
        have IH := Lib.hid (fun W (h : Below w.heap.size w W) => ih (i - cutN n) (n - cutN n) (some ⟨b, o, none⟩) q c (ns.take q) W (by omega) (by omega) (by omega) (by omega) (RT.out.below h) hVT hcl.1)
        have hcs := climb_sm hx hVT (fs := (wayN (i - cutN n) (n - cutN n)).reverse) (by rw [List.length_reverse]; exact hcl.1.symm) (by omega)
        rcases hu : climbN sha (x1, x2) (wayN (i - cutN n) (n - cutN n)).reverse (ns.take q) with ⟨u1, u2⟩
        rw [hu] at hcs IH
        have hce := hcl.2
        rw [hu, hy] at hce
        have OV := Lib.hid (fun W => rover2_any y1 y2 u1 u2 W hyv.1 hcs.1 hyv.2 hcs.2)
        unfold NdPost ndV at IH OV
        simp only at IH
        have HP := Lib.hid (show ∀ v1 v2 W, overN sha (y1, y2) (u1, u2) = (v1, v2) → Below w.heap.size w W → NdPost (climbN sha (x1, x2) (wayN i n).reverse ns) w (.returned (.agg #[.string ⟨v1.toArray⟩, .string ⟨v2.toArray⟩])) W from fun v1 v2 W e h => ⟨by rw [hce, e]; rfl, h⟩)
        generalize NdPost (climbN sha (x1, x2) (wayN i n).reverse ns) w = Post at *
        rcases hov : overN sha (y1, y2) (u1, u2) with ⟨v1, v2⟩
        rw [hov] at OV
        simp only at OV
        have HV := Lib.hid (fun W h => HP.out v1 v2 W hov h)
        generalize cutN n = k at *
        obtain ⟨i2, hi2⟩ : ∃ i2, i - k = i2 := ⟨_, rfl⟩
        obtain ⟨n2, hn2⟩ : ∃ n2, n - k = n2 := ⟨_, rfl⟩
        rw [hi2, hn2] at IH
        have hikI : ¬ (i : Int) < (k : Int) := by omega
        have d1 : IntKind.i64.wrap ((i : Int) - (k : Int)) = (i2 : Int) := by rw [IntWalk.i64_in _ (by omega)]; omega
        have d2 : IntKind.i64.wrap ((n : Int) - (k : Int)) = (n2 : Int) := by rw [IntWalk.i64_in _ (by omega)]; omega
        clear hl hce hcl hu hov hsn hcs hyv hVT ih hV hx hlen hlt hik hi2 hn2 HP hy
        go_enter Tryz.func47, Tryz.ntmps47
        go_wp2_with fail
        refine (HC.out _).mono ?_
        rintro e w1' ⟨rfl, rfl⟩
        go_upto_region 6 with fail
        generalize (w.alloc (.cells #[.string ⟨x1.toArray⟩, .string ⟨x2.toArray⟩] 27)).alloc (.cells #[.string ⟨#[]⟩, .string ⟨#[]⟩] 27) = w1 at *
        have HL := Lib.hid (show w.heap.size < w1.heap.size ∧ w.heap.size + 1 < w1.heap.size by have := SZ.out; omega)
        have HNE := Lib.hid (show w.heap.size ≠ w.heap.size + 1 ∧ b ≠ w.heap.size + 1 by have := HBL.out; omega)
        have RB := Lib.hid (show w.heap.size ≤ w.heap.size + 1 by omega)
        generalize w.heap.size + 1 = rb at *
        have HD := Lib.hid (Below.refl w1.heap.size w1)
        have ARM := Lib.hid (fun W (h : Below w1.heap.size w1 W) => (show Below w.heap.size w W ∧ W.heap[w.heap.size]? = some (.cells #[.string ⟨x1.toArray⟩, .string ⟨x2.toArray⟩] 27) ∧ W.heap[rb]? = some (.cells #[.string ⟨#[]⟩, .string ⟨#[]⟩] 27) ∧ W.cell? ⟨b, o + q * 2, none⟩ = some (.string ⟨y1.toArray⟩) ∧ W.cell? ⟨b, o + q * 2 + 1, none⟩ = some (.string ⟨y2.toArray⟩) from by
          have h0 := below_next B0.out h ⟨rfl, rfl, rfl, rfl⟩
          exact ⟨h0, (h.block _ HL.out.1).trans Y0.out, (h.block _ HL.out.2).trans Y1.out, CQ.out W h0⟩))
        obtain ⟨s0, s1⟩ := (ARM.out w1 HD.out).2.2.2
        clear B0 Y0 Y1 SZ
        go_region_held3 (fun w' => w'.cell? ⟨w.heap.size, 0, none⟩ = some (.string ⟨x1.toArray⟩) ∧ w'.cell? ⟨w.heap.size, 1, none⟩ = some (.string ⟨x2.toArray⟩) ∧ w'.cell? ⟨b, o + q * 2, none⟩ = some (.string ⟨y1.toArray⟩) ∧ w'.cell? ⟨b, o + q * 2 + 1, none⟩ = some (.string ⟨y2.toArray⟩))
          (first | exact ⟨g0, g1, g2, g3⟩ | exact ⟨c0, c1, s0, s1⟩ | exact ⟨(cell_set2n HNE.out.1 _ _).trans g0, (cell_set2n HNE.out.1 _ _).trans g1, (cell_set2n HNE.out.2 _ _).trans g2, (cell_set2n HNE.out.2 _ _).trans g3⟩ | go_keep)
          (first
            | (go_at_call 47; with_reducible refine (IH.out _ (ARM.out _ ?_).1).mono ?_; · (first | exact HD.out | exact Below.drew HD.out)
               rintro e w' ⟨rfl, hb⟩; have HD := Lib.hid (below_next HD.out hb ⟨rfl, rfl, rfl, rfl⟩); have HQ := ARM.out _ HD.out; obtain ⟨⟨g0, g1⟩, _⟩ := cells2n HQ.2.1; obtain ⟨g2, g3⟩ := HQ.2.2.2; obtain ⟨⟨h0, h1⟩, h2, h3⟩ := cells2n HQ.2.2.1; clear hb HQ)
            | (go_at_call 61; with_reducible refine (OV.out _).mono ?_
               rintro e w' ⟨rfl, hb⟩; have HD := Lib.hid (below_next HD.out hb ⟨rfl, rfl, rfl, rfl⟩); have HQ := ARM.out _ HD.out; obtain ⟨⟨g0, g1⟩, _⟩ := cells2n HQ.2.1; obtain ⟨g2, g3⟩ := HQ.2.2.2; obtain ⟨⟨h0, h1⟩, h2, h3⟩ := cells2n HQ.2.2.1; clear hb HQ))
        all_goals
          go_wp2_with fail
          have HQ := ARM.out _ HD.out
          obtain ⟨⟨q0, q1⟩, _⟩ := cells2n (set2n HQ.2.2.1 (.string ⟨v1.toArray⟩) (.string ⟨v2.toArray⟩))
          exact bodyPost_ret (v := .agg #[.string ⟨v1.toArray⟩, .string ⟨v2.toArray⟩]) (by simp [results, Tryz.results47, go_sem, q0, q1]) rfl (HV.out _ (below_set2n HQ.1 RB.out _ _))
end Go.Proofs.YtejaehmoplohdaaGreatDoor

/- Audit: the contract of the reference's Verify. -/
namespace Go.Proofs.YtejaehmoplohdaaGreatDoor
open Go.RowKit Go.Maps Num

theorem all_take (ns : List Nd) (j : Nat) (h : j < ns.length) : (ns.take (j + 1)).all validN = ((ns.take j).all validN && validN (ns.getD j nd0)) := by
  rw [List.take_succ_eq_append_getElem h, List.all_append, getD_nd ns j h]
  simp
theorem all_not {ns : List Nd} {j : Nat} (h : j < ns.length) (hv : validN (ns.getD j nd0) = false) : ns.all validN = false := by
  rw [List.all_eq_false]
  exact ⟨_, getD_mem nd0 ns j h, by rw [hv]; decide⟩
theorem rdepthI (i n : Nat) (w : World) (hn : n ≤ 100000) (hi : i ≤ 100000) : Calls Tryz.prog 46 #[.int .i64 (i : Int), .int .i64 (n : Int)] w (IntPost ((wayN i n).length : Int) w) :=
  (rdepth_any n i n w (Nat.le_refl _) hn hi).mono fun _ _ h => ⟨h.1, h.2 ▸ Below.refl _ _⟩
set_option maxRecDepth 100000 in
set_option maxHeartbeats 16000000 in
theorem rVerify_any (r1 r2 a cu m : List UInt8) (i n : Int) (A : Option Addr) (k c : Nat) (ns : List Nd) (w : World) (hr : r1.length ≤ 100) (hs : SmB (a, cu, m)) (hA : rowNd.Rds w A k c ns) (hn : ∀ x ∈ ns, x.1.length ≤ 70) (hk : k ≤ 1000) :
    Calls Tryz.prog 21 #[.agg #[.string ⟨r1.toArray⟩, .string ⟨r2.toArray⟩], .agg #[.string ⟨a.toArray⟩, .string ⟨cu.toArray⟩, .string ⟨m.toArray⟩], .agg #[.int .i64 i, .int .i64 n, .slice A k c]] w (IntPost (verI sha (r1, r2) (a, cu, m) i n ns) w) := by
  have ll := hA.len
  have HP := Lib.hid (show ∀ v W, verI sha (r1, r2) (a, cu, m) i n ns = v → Below w.heap.size w W → IntPost (verI sha (r1, r2) (a, cu, m) i n ns) w (.returned (.int .i64 v)) W from fun v W e h => ⟨by rw [e], h⟩)
  have HVd := Lib.hid (show verI sha (r1, r2) (a, cu, m) i n ns = if (listB [(a, cu, m)] && validN (r1, r2) && ns.all validN) = false then 1 else if 1024 < n then 4 else if i < 0 ∨ n ≤ i then 2 else if (wayN i.toNat n.toNat).length ≠ ns.length then 9 else if climbN sha (leafN sha (a, cu, m)) (wayN i.toNat n.toNat).reverse ns ≠ (r1, r2) then 20 else 0 from rfl)
  generalize verI sha (r1, r2) (a, cu, m) i n ns = vr at *
  generalize IntPost vr w = Post at *
  have hB0 : Below w.heap.size w (((w.alloc (.cells #[.string ⟨r1.toArray⟩, .string ⟨r2.toArray⟩] 27)).alloc (.cells #[.string ⟨a.toArray⟩, .string ⟨cu.toArray⟩, .string ⟨m.toArray⟩] 38)).alloc (.cells #[.int .i64 i, .int .i64 n, .slice A k c] 33)) := (((Below.refl _ w).alloc (Nat.le_refl _) _).alloc (by simp) _).alloc (by simp; omega) _
  have y0' := balloc (balloc (heap_alloc_new w (.cells #[.string ⟨r1.toArray⟩, .string ⟨r2.toArray⟩] 27)) (.cells #[.string ⟨a.toArray⟩, .string ⟨cu.toArray⟩, .string ⟨m.toArray⟩] 38)) (.cells #[.int .i64 i, .int .i64 n, .slice A k c] 33)
  have y1' := balloc (heap_alloc_new (w.alloc (.cells #[.string ⟨r1.toArray⟩, .string ⟨r2.toArray⟩] 27)) (.cells #[.string ⟨a.toArray⟩, .string ⟨cu.toArray⟩, .string ⟨m.toArray⟩] 38)) (.cells #[.int .i64 i, .int .i64 n, .slice A k c] 33)
  have y2' := heap_alloc_new ((w.alloc (.cells #[.string ⟨r1.toArray⟩, .string ⟨r2.toArray⟩] 27)).alloc (.cells #[.string ⟨a.toArray⟩, .string ⟨cu.toArray⟩, .string ⟨m.toArray⟩] 38)) (.cells #[.int .i64 i, .int .i64 n, .slice A k c] 33)
  rw [show (w.alloc (.cells #[.string ⟨r1.toArray⟩, .string ⟨r2.toArray⟩] 27)).heap.size = w.heap.size + 1 by simp] at y1'
  rw [show ((w.alloc (.cells #[.string ⟨r1.toArray⟩, .string ⟨r2.toArray⟩] 27)).alloc (.cells #[.string ⟨a.toArray⟩, .string ⟨cu.toArray⟩, .string ⟨m.toArray⟩] 38)).heap.size = w.heap.size + 1 + 1 by simp] at y2'
  have hsz : (((w.alloc (.cells #[.string ⟨r1.toArray⟩, .string ⟨r2.toArray⟩] 27)).alloc (.cells #[.string ⟨a.toArray⟩, .string ⟨cu.toArray⟩, .string ⟨m.toArray⟩] 38)).alloc (.cells #[.int .i64 i, .int .i64 n, .slice A k c] 33)).heap.size = w.heap.size + 3 := by simp
  have B0 := Lib.hid hB0
  have Y0 := Lib.hid y0'
  have Y1 := Lib.hid y1'
  have Y2 := Lib.hid y2'
  have SZ := Lib.hid hsz
  have RV := Lib.hid (fun W => rvalid_any r1 r2 W hr)
  have VNs := Lib.hid (fun j (hj : j < ns.length) x1 x2 (e : ns.getD j nd0 = (x1, x2)) W => rvalid_any x1 x2 W (by have := hn _ (getD_mem nd0 ns j hj); rw [e] at this; have h : x1.length ≤ 70 := this; omega))
  have CK := Lib.hid (fun (W : World) => rCheckB_any (some ⟨W.heap.size, 0, none⟩) 1 1 [(a, cu, m)] (W.alloc (.cells #[.string ⟨a.toArray⟩, .string ⟨cu.toArray⟩, .string ⟨m.toArray⟩] 38)) (Row.rds_one rowB_ok W (a, cu, m) 38) (fun x hx => by rw [List.mem_singleton.1 hx]; have := hs; unfold SmB at this; simp only at this ⊢; omega) (by omega))
  have HDp := Lib.hid (fun (i n : Nat) (h1 : i ≤ 100000) (h2 : n ≤ 100000) W => rdepthI i n W h2 h1)
  have HLf := Lib.hid (fun W => rleaf_any a cu m W (by have := hs.1; simp only at this; omega) (by have := hs.2.1; simp only at this; omega) (by have := hs.2.2; simp only at this; omega))
  have HC := Lib.hid (fun (hva : ns.all validN = true) (u1 u2 : List UInt8) (e : leafN sha (a, cu, m) = (u1, u2)) (i n : Nat) (h1 : i ≤ 100000) (h2 : n ≤ 100000) (hl : ns.length = (wayN i n).length) W (h : rowNd.Rds W A k c ns) => rcompute_any u1 u2 (by
    rw [← e]
    exact ⟨leaf_valid sha_len _, by have h1 : (absT m).length ≤ m.length + 1 := (by rw [abs_dgs]; have := dgs_len m; omega); have h2 := hs.2.2; simp only at h2; show (absT m).length ≤ 70; omega⟩) n i n A k c ns W (Nat.le_refl _) h2 h1 hk h (fun x hx => ⟨List.all_eq_true.1 hva x hx, hn x hx⟩) hl)
  have L1 := Lib.hid hA
  have LL := Lib.hid ll
  obtain ⟨⟨q0, q1⟩, _⟩ := cells2n y0'
  obtain ⟨⟨c0, c1, c2⟩, _⟩ := cells3 y1'
  unfold BoolPost at RV VNs CK
  unfold NdPost ndV at HLf HC
  clear hB0 y0' y1' y2' hsz hr hs hA hn ll
  unfold IntPost at HDp
  go_enter Tryz.func21, Tryz.ntmps21
  go_upto_region 1 with fail
  generalize ((w.alloc (.cells #[.string ⟨r1.toArray⟩, .string ⟨r2.toArray⟩] 27)).alloc (.cells #[.string ⟨a.toArray⟩, .string ⟨cu.toArray⟩, .string ⟨m.toArray⟩] 38)).alloc (.cells #[.int .i64 i, .int .i64 n, .slice A k c] 33) = w1 at *
  have HL := Lib.hid (show w.heap.size < w1.heap.size ∧ w.heap.size + 1 < w1.heap.size ∧ w.heap.size + 1 + 1 < w1.heap.size by have := SZ.out; omega)
  generalize w.heap.size + 1 + 1 = pb at *
  generalize w.heap.size + 1 = cb at *
  have ARM := Lib.hid (fun W (h : Below w1.heap.size w1 W) => (show Below w.heap.size w W ∧ W.heap[w.heap.size]? = some (.cells #[.string ⟨r1.toArray⟩, .string ⟨r2.toArray⟩] 27) ∧ W.heap[cb]? = some (.cells #[.string ⟨a.toArray⟩, .string ⟨cu.toArray⟩, .string ⟨m.toArray⟩] 38) ∧ W.heap[pb]? = some (.cells #[.int .i64 i, .int .i64 n, .slice A k c] 33) ∧ rowNd.Rds W A k c ns from
    ⟨below_next B0.out h ⟨rfl, rfl, rfl, rfl⟩, (h.block _ HL.out.1).trans Y0.out, (h.block _ HL.out.2.1).trans Y1.out, (h.block _ HL.out.2.2).trans Y2.out, L1.out.below (below_next B0.out h ⟨rfl, rfl, rfl, rfl⟩)⟩))
  clear B0 Y0 Y1 Y2 SZ
  cases hvr : validN (r1, r2)
  · have hv := Lib.hid (fun W h => HP.out 1 W (by rw [HVd.out, hvr, Bool.and_false, Bool.false_and, if_pos rfl]) h)
    rw [hvr] at RV
    clear HVd HP HC HLf HDp CK VNs hvr
    go_wp2_with fail
    refine (RV.out _).mono ?_
    rintro e w2 ⟨rfl, hb⟩
    have HD := Lib.hid hb
    clear hb
    go_wp2_with fail
    exact hv.out _ (ARM.out _ HD.out).1
  rw [hvr] at RV
  cases hlb : listB [(a, cu, m)]
  · have hv := Lib.hid (fun W h => HP.out 1 W (by rw [HVd.out, hlb, Bool.false_and, Bool.false_and, if_pos rfl]) h)
    rw [hlb] at CK
    clear HVd HP HC HLf HDp VNs hvr hlb
    go_wp2_with fail
    refine (RV.out _).mono ?_
    rintro e w2 ⟨rfl, hb⟩
    have HD := Lib.hid hb
    obtain ⟨⟨d0, d1, d2⟩, _⟩ := cells3 (ARM.out _ HD.out).2.2.1
    clear hb
    go_wp2_with fail
    refine (CK.out _).mono ?_
    rintro e w3 ⟨rfl, hb⟩
    have HD2 := Lib.hid (below_next (HD.out.alloc HD.out.size (.cells #[.string ⟨a.toArray⟩, .string ⟨cu.toArray⟩, .string ⟨m.toArray⟩] 38)) hb ⟨rfl, rfl, rfl, rfl⟩)
    clear hb
    go_wp2_with fail
    exact hv.out _ (ARM.out _ HD2.out).1
  rw [hlb] at CK
  rw [hvr, hlb, Bool.true_and, Bool.true_and] at HVd
  clear hvr hlb
  go_wp2_with fail
  refine (RV.out _).mono ?_
  rintro e w2 ⟨rfl, hb⟩
  have HD := Lib.hid hb
  obtain ⟨⟨d0, d1, d2⟩, _⟩ := cells3 (ARM.out _ HD.out).2.2.1
  clear hb
  go_wp2_with fail
  refine (CK.out _).mono ?_
  rintro e w3 ⟨rfl, hb⟩
  have HD2 := Lib.hid (below_next (HD.out.alloc HD.out.size (.cells #[.string ⟨a.toArray⟩, .string ⟨cu.toArray⟩, .string ⟨m.toArray⟩] 38)) hb ⟨rfl, rfl, rfl, rfl⟩)
  clear hb HD d0 d1 d2 q0 q1 c0 c1 c2 CK RV
  have R0 := Lib.hid (show (ns.take 0).all validN = true ∧ Below w1.heap.size w1 w3 from ⟨rfl, HD2.out⟩)
  clear HD2
  go_wp2_with fail
  go_loopw [7] (fun t wr => ∃ j : Nat, j ≤ k ∧ t = .int .i64 (j : Int) ∧ Hid ((ns.take j).all validN = true ∧ Below w1.heap.size w1 wr)) (fun t _ => k - (intOf t).toNat)
  case atStart => exact ⟨0, by omega, rfl, R0⟩
  case round =>
    clear R0
    obtain ⟨j, hj, rfl, hR⟩ := hrel
    have HB := Lib.hid hR.out.2
    obtain ⟨⟨p0, p1, p2⟩, _⟩ := cells3 (ARM.out _ HB.out).2.2.2.1
    by_cases hlt : j < k
    · obtain ⟨b, o, rfl, hb1, _⟩ := L1.out.at_ (by omega)
      have t0 := (ARM.out _ HB.out).2.2.2.2.cell rowNd_ok nd0 j 0 _ hlt rfl
      have t1 := (ARM.out _ HB.out).2.2.2.2.cell rowNd_ok nd0 j 1 _ hlt rfl
      have hjn : j < ns.length := by rw [LL.out]; exact hlt
      have HT := Lib.hid (all_take ns j hjn)
      have HN := Lib.hid (fun h => all_not hjn h)
      have TA := Lib.hid hR.out.1
      clear hR
      rcases hx : ns.getD j nd0 with ⟨x1, x2⟩
      have VJ := Lib.hid (VNs.out j hjn x1 x2 hx)
      rw [hx] at t0 t1 HT HN
      simp only [Nat.add_zero] at t0 t1
      have hjk : (j : Int) < (k : Int) := by omega
      have hj0 : (0 : Int) ≤ (j : Int) := by omega
      clear hx
      cases hvx : validN (x1, x2)
      · have hv := Lib.hid (fun W h => HP.out 1 W (by rw [HVd.out, HN.out hvx, if_pos rfl]) h)
        rw [hvx] at VJ
        clear HVd HP HC HLf HDp VNs HT HN TA hvx
        go_wp2_with fail
        refine (VJ.out _).mono ?_
        rintro e w4 ⟨rfl, hb⟩
        have HD := Lib.hid (below_next HB.out hb ⟨rfl, rfl, rfl, rfl⟩)
        clear hb
        go_wp2_with fail
        exact hv.out _ (ARM.out _ HD.out).1
      · rw [hvx] at VJ
        have TB := Lib.hid (show (ns.take (j + 1)).all validN = true by rw [HT.out, TA.out, hvx]; rfl)
        clear HVd HP HC HLf HDp VNs HT HN TA hvx
        go_wp2_with fail
        refine (VJ.out _).mono ?_
        rintro e w4 ⟨rfl, hb⟩
        have HD := Lib.hid (below_next HB.out hb ⟨rfl, rfl, rfl, rfl⟩)
        clear hb
        go_wp2_with fail
        exact ⟨⟨j + 1, by omega, by go_num, Lib.hid ⟨TB.out, HD.out⟩⟩, by simp [intOf]; omega⟩
    · obtain rfl : j = k := by omega
      have hjk : ¬ (j : Int) < (j : Int) := by omega
      have hall := hR.out.1
      rw [List.take_of_length_le (by rw [LL.out]; exact Nat.le_refl _)] at hall
      have hvd := HVd.out
      rw [hall, if_neg (by decide)] at hvd
      have HAL := Lib.hid hall
      clear hR hall VNs HVd
      by_cases h1024 : 1024 < n
      · have hv := Lib.hid (fun W h => HP.out 4 W (by rw [hvd, if_pos h1024]) h)
        clear HP HC HLf HDp hvd
        go_wp2_with fail
        exact hv.out _ (ARM.out _ HB.out).1
      rw [if_neg h1024] at hvd
      by_cases hi0 : i < 0
      · have hv := Lib.hid (fun W h => HP.out 2 W (by rw [hvd, if_pos (.inl hi0)]) h)
        clear HP HC HLf HDp hvd
        go_wp2_with fail
        exact hv.out _ (ARM.out _ HB.out).1
      by_cases hin : n ≤ i
      · have hv := Lib.hid (fun W h => HP.out 2 W (by rw [hvd, if_pos (.inr hin)]) h)
        clear HP HC HLf HDp hvd
        go_wp2_with fail
        exact hv.out _ (ARM.out _ HB.out).1
      rw [if_neg (by omega)] at hvd
      obtain ⟨i2, rfl⟩ : ∃ i2 : Nat, i = (i2 : Int) := ⟨i.toNat, by omega⟩
      obtain ⟨n2, rfl⟩ : ∃ n2 : Nat, n = (n2 : Int) := ⟨n.toNat, by omega⟩
      rw [Int.toNat_natCast, Int.toNat_natCast, LL.out] at hvd
      have hin2 : i2 < n2 := by omega
      have DP := Lib.hid (HDp.out i2 n2 (by omega) (by omega))
      clear HDp
      have hll := way_len i2 n2
      by_cases hdep : (wayN i2 n2).length = j
      case neg =>
        have hv := Lib.hid (fun W h => HP.out 9 W (by rw [hvd, if_pos hdep]) h)
        generalize (wayN i2 n2).length = L at *
        have e1 : ((j : Int) == (L : Int)) = false := beq_eq_false_iff_ne.2 (by omega)
        clear HP HC HLf hvd hdep
        go_upto_region 12 with fail
        have BPf := Lib.hid (fun p : Bel wr => ARM.out p.W (below_next HB.out p.h ⟨rfl, rfl, rfl, rfl⟩))
        have DPp := Lib.hid (fun p : Bel wr => DP.out p.W)
        have hp0 := fun p : Bel wr => (cells3 (BPf.out p).2.2.2.1).1.1
        have hp1 := fun p : Bel wr => (cells3 (BPf.out p).2.2.2.1).1.2.1
        have hp2 := fun p : Bel wr => (cells3 (BPf.out p).2.2.2.1).1.2.2
        clear p0 p1 p2
        refine wp_region_quiet_bel (by kernel_rfl) (by kernel_rfl) ?_
        repeat (quiet_step (first
          | (go_at_call 46; with_reducible refine Calls.bel_of (DPp.out _))))
        refine wpQuiet_nil ?_
        intro wq' hw'
        obtain ⟨⟨wq, hq9⟩, hw2⟩ := hw'
        have hw3 : wq' = wq := hw2
        subst hw3
        have BZ := Lib.hid (BPf.out ⟨wq', hq9⟩).1
        clear hp0 hp1 hp2 hw2
        go_wp2_with fail
        exact hv.out _ BZ.out
      rw [if_neg (by rw [hdep]; simp)] at hvd
      rw [hdep] at DP
      rcases hlf : leafN sha (a, cu, m) with ⟨u1, u2⟩
      rw [hlf] at hvd HLf
      have HC1 := Lib.hid (HC.out HAL.out u1 u2 hlf i2 n2 (by omega) (by omega) (by rw [LL.out, hdep]))
      rcases hcm : climbN sha (u1, u2) (wayN i2 n2).reverse ns with ⟨v1, v2⟩
      rw [hcm] at hvd HC1
      have HC2 := Lib.hid HC1.out
      simp only at HLf HC2
      clear HC HC1 hlf hcm hdep
      go_upto_region 12 with fail
      have BPf := Lib.hid (fun p : Bel wr => ARM.out p.W (below_next HB.out p.h ⟨rfl, rfl, rfl, rfl⟩))
      have DPp := Lib.hid (fun p : Bel wr => DP.out p.W)
      have hp0 := fun p : Bel wr => (cells3 (BPf.out p).2.2.2.1).1.1
      have hp1 := fun p : Bel wr => (cells3 (BPf.out p).2.2.2.1).1.2.1
      have hp2 := fun p : Bel wr => (cells3 (BPf.out p).2.2.2.1).1.2.2
      clear p0 p1 p2
      refine wp_region_quiet_bel (by kernel_rfl) (by kernel_rfl) ?_
      repeat (quiet_step (first
        | (go_at_call 46; with_reducible refine Calls.bel_of (DPp.out _))))
      refine wpQuiet_nil ?_
      intro wq' hw'
      obtain ⟨⟨wq, hq9⟩, hw2⟩ := hw'
      have hw3 : wq' = wq := hw2
      subst hw3
      have HB2 := Lib.hid (below_next HB.out hq9 ⟨rfl, rfl, rfl, rfl⟩)
      clear hp0 hp1 hp2 hw2 BPf DPp DP HB hq9
      by_cases hu1 : v1 = r1
      case neg =>
        have hv := Lib.hid (fun W h => HP.out 20 W (by rw [hvd, if_pos (fun e => hu1 (congrArg Prod.fst e))]) h)
        have e1 : (v1 == r1) = false := beq_eq_false_iff_ne.2 hu1
        clear hvd HP
        go_upto_region 14 with fail
        have BPg := Lib.hid (fun p : Bel wq' => ARM.out p.W (below_next HB2.out p.h ⟨rfl, rfl, rfl, rfl⟩))
        have LFp := Lib.hid (fun p : Bel wq' => HLf.out p.W)
        have CMp := Lib.hid (fun p : Bel wq' => HC2.out p.W (BPg.out p).2.2.2.2)
        have hp0 := fun p : Bel wq' => (cells3 (BPg.out p).2.2.2.1).1.1
        have hp1 := fun p : Bel wq' => (cells3 (BPg.out p).2.2.2.1).1.2.1
        have hp2 := fun p : Bel wq' => (cells3 (BPg.out p).2.2.2.1).1.2.2
        have hc0 := fun p : Bel wq' => (cells3 (BPg.out p).2.2.1).1.1
        have hc1 := fun p : Bel wq' => (cells3 (BPg.out p).2.2.1).1.2.1
        have hc2 := fun p : Bel wq' => (cells3 (BPg.out p).2.2.1).1.2.2
        have hr0 := fun p : Bel wq' => (cells2n (BPg.out p).2.1).1.1
        have hr1 := fun p : Bel wq' => (cells2n (BPg.out p).2.1).1.2
        clear HLf HC2
        refine wp_region_quiet_bel (by kernel_rfl) (by kernel_rfl) ?_
        repeat (quiet_step (first
          | (go_at_call 40; with_reducible refine Calls.bel_of (LFp.out _))
          | (go_at_call 47; with_reducible refine Calls.bel_of (CMp.out _))))
        refine wpQuiet_nil ?_
        intro wz' hz'
        obtain ⟨⟨wz, hz9⟩, hz2⟩ := hz'
        have hz3 : wz' = wz := hz2
        subst hz3
        have BZ := Lib.hid (BPg.out ⟨wz', hz9⟩).1
        clear hp0 hp1 hp2 hc0 hc1 hc2 hr0 hr1 hz2
        go_wp2_with fail
        exact hv.out _ BZ.out
      subst hu1
      by_cases hu2 : v2 = r2
      case neg =>
        have hv := Lib.hid (fun W h => HP.out 20 W (by rw [hvd, if_pos (fun e => hu2 (congrArg Prod.snd e))]) h)
        have e1 : (v2 == r2) = false := beq_eq_false_iff_ne.2 hu2
        clear hvd HP
        go_upto_region 14 with fail
        have BPg := Lib.hid (fun p : Bel wq' => ARM.out p.W (below_next HB2.out p.h ⟨rfl, rfl, rfl, rfl⟩))
        have LFp := Lib.hid (fun p : Bel wq' => HLf.out p.W)
        have CMp := Lib.hid (fun p : Bel wq' => HC2.out p.W (BPg.out p).2.2.2.2)
        have hp0 := fun p : Bel wq' => (cells3 (BPg.out p).2.2.2.1).1.1
        have hp1 := fun p : Bel wq' => (cells3 (BPg.out p).2.2.2.1).1.2.1
        have hp2 := fun p : Bel wq' => (cells3 (BPg.out p).2.2.2.1).1.2.2
        have hc0 := fun p : Bel wq' => (cells3 (BPg.out p).2.2.1).1.1
        have hc1 := fun p : Bel wq' => (cells3 (BPg.out p).2.2.1).1.2.1
        have hc2 := fun p : Bel wq' => (cells3 (BPg.out p).2.2.1).1.2.2
        have hr0 := fun p : Bel wq' => (cells2n (BPg.out p).2.1).1.1
        have hr1 := fun p : Bel wq' => (cells2n (BPg.out p).2.1).1.2
        clear HLf HC2
        refine wp_region_quiet_bel (by kernel_rfl) (by kernel_rfl) ?_
        repeat (quiet_step (first
          | (go_at_call 40; with_reducible refine Calls.bel_of (LFp.out _))
          | (go_at_call 47; with_reducible refine Calls.bel_of (CMp.out _))))
        refine wpQuiet_nil ?_
        intro wz' hz'
        obtain ⟨⟨wz, hz9⟩, hz2⟩ := hz'
        have hz3 : wz' = wz := hz2
        subst hz3
        have BZ := Lib.hid (BPg.out ⟨wz', hz9⟩).1
        clear hp0 hp1 hp2 hc0 hc1 hc2 hr0 hr1 hz2
        go_wp2_with fail
        exact hv.out _ BZ.out
      subst hu2
      have hv := Lib.hid (fun W h => HP.out 0 W (by rw [hvd, if_neg (by simp)]) h)
      clear hvd HP
      go_upto_region 14 with fail
      have BPg := Lib.hid (fun p : Bel wq' => ARM.out p.W (below_next HB2.out p.h ⟨rfl, rfl, rfl, rfl⟩))
      have LFp := Lib.hid (fun p : Bel wq' => HLf.out p.W)
      have CMp := Lib.hid (fun p : Bel wq' => HC2.out p.W (BPg.out p).2.2.2.2)
      have hp0 := fun p : Bel wq' => (cells3 (BPg.out p).2.2.2.1).1.1
      have hp1 := fun p : Bel wq' => (cells3 (BPg.out p).2.2.2.1).1.2.1
      have hp2 := fun p : Bel wq' => (cells3 (BPg.out p).2.2.2.1).1.2.2
      have hc0 := fun p : Bel wq' => (cells3 (BPg.out p).2.2.1).1.1
      have hc1 := fun p : Bel wq' => (cells3 (BPg.out p).2.2.1).1.2.1
      have hc2 := fun p : Bel wq' => (cells3 (BPg.out p).2.2.1).1.2.2
      have hr0 := fun p : Bel wq' => (cells2n (BPg.out p).2.1).1.1
      have hr1 := fun p : Bel wq' => (cells2n (BPg.out p).2.1).1.2
      clear HLf HC2
      refine wp_region_quiet_bel (by kernel_rfl) (by kernel_rfl) ?_
      repeat (quiet_step (first
        | (go_at_call 40; with_reducible refine Calls.bel_of (LFp.out _))
        | (go_at_call 47; with_reducible refine Calls.bel_of (CMp.out _))))
      refine wpQuiet_nil ?_
      intro wz' hz'
      obtain ⟨⟨wz, hz9⟩, hz2⟩ := hz'
      have hz3 : wz' = wz := hz2
      subst hz3
      have BZ := Lib.hid (BPg.out ⟨wz', hz9⟩).1
      clear hp0 hp1 hp2 hc0 hc1 hc2 hr0 hr1 hz2
      go_wp2_with fail
      exact hv.out _ BZ.out
end Go.Proofs.YtejaehmoplohdaaGreatDoor

/- Audit: contracts of the reference's Great at one string, GreatProof. -/
namespace Go.Proofs.YtejaehmoplohdaaGreatDoor
open Go.RowKit Go.Maps Num

set_option maxRecDepth 100000 in
theorem great1_any (l : List UInt8) (w : World) : Calls Tryz.prog 19 #[.string ⟨l.toArray⟩] w (RetP (.bool (decide (60 < l.length))) w) := by
  have h : decide (60 < l.length) = decide ((60 : Int) < (l.length : Int)) := by
    rw [Bool.eq_iff_iff, decide_eq_true_iff, decide_eq_true_iff]; omega
  rw [h]
  go_enter Tryz.func19, Tryz.ntmps19
  go_wp2_with fail
  go_ret
  exact ⟨rfl, rfl⟩
/-- larger than the statements examine -/
def ndG (x : Nd) : Bool := decide (60 < x.1.length) || decide (60 < x.2.length)
def grPB (ns : List Nd) : Bool := ns.any ndG || decide (12 < ns.length)
theorem any_at {ns : List Nd} {j : Nat} (h : j < ns.length) (hv : ndG (ns.getD j nd0) = true) : ns.any ndG = true := List.any_eq_true.2 ⟨_, getD_mem nd0 ns j h, hv⟩
theorem any_step {ns : List Nd} {j : Nat} (h : j < ns.length) (h0 : (ns.take j).any ndG = false) (hv : ndG (ns.getD j nd0) = false) : (ns.take (j + 1)).any ndG = false := by
  rw [List.take_succ_eq_append_getElem h, List.any_append, h0, getD_nd ns j h, List.any_cons, hv, List.any_nil]
  rfl
set_option maxRecDepth 100000 in
set_option maxHeartbeats 4000000 in
theorem greatP_any (i n : Int) (A : Option Addr) (k c : Nat) (ns : List Nd) (w : World) (hA : rowNd.Rds w A k c ns) : Calls Tryz.prog 18 #[.agg #[.int .i64 i, .int .i64 n, .slice A k c]] w (BoolPost (grPB ns) w) := by
  have LL := Lib.hid hA.len
  have htop : k ≤ maxLen := Nat.le_trans hA.cap hA.top
  unfold maxLen at htop
  have HP := Lib.hid (fun W b (h : grPB ns = b) (hb : Below w.heap.size w W) => (show BoolPost (grPB ns) w (.returned (.bool b)) W from ⟨by rw [h], hb⟩))
  have HG := Lib.hid (show grPB ns = (ns.any ndG || decide (12 < k)) by rw [← hA.len]; rfl)
  have B1 := Lib.hid ((Below.refl _ w).alloc (Nat.le_refl _) (.cells #[.int .i64 i, .int .i64 n, .slice A k c] 33))
  have y1 := heap_alloc_new w (.cells #[.int .i64 i, .int .i64 n, .slice A k c] 33)
  have L1 := Lib.hid (hA.below B1.out)
  obtain ⟨⟨p0, p1, p2⟩, _⟩ := cells3 y1
  generalize BoolPost (grPB ns) w = Post at *
  generalize grPB ns = gr at *
  clear hA y1
  go_enter Tryz.func18, Tryz.ntmps18
  go_upto_region 1 with fail
  generalize w.alloc (.cells #[.int .i64 i, .int .i64 n, .slice A k c] 33) = w1 at *
  go_wp2_with fail
  go_loop [3] (fun t => ∃ j : Nat, j ≤ k ∧ t = .int .i64 (j : Int) ∧ Hid ((ns.take j).any ndG = false)) (fun t => k - (intOf t).toNat)
  case atStart => exact ⟨0, by omega, rfl, Lib.hid rfl⟩
  case round =>
    obtain ⟨j, hj, rfl, hE⟩ := hrel
    by_cases hlt : j < k
    · obtain ⟨b, o, rfl, hb1, _⟩ := L1.out.at_ (by omega)
      have t0 := L1.out.cell rowNd_ok nd0 j 0 _ hlt rfl
      have t1 := L1.out.cell rowNd_ok nd0 j 1 _ hlt rfl
      have hjn : j < ns.length := by rw [LL.out]; exact hlt
      have HT := Lib.hid (fun h => any_at hjn h)
      have HS := Lib.hid (fun h => any_step hjn hE.out h)
      rcases hx : ns.getD j nd0 with ⟨x1, x2⟩
      rw [hx] at t0 t1 HT HS
      simp only [Nat.add_zero] at t0 t1
      have hjk : (j : Int) < (k : Int) := by omega
      have hj0 : (0 : Int) ≤ (j : Int) := by omega
      have HY := Lib.hid (show ndG (x1, x2) = (decide (60 < x1.length) || decide (60 < x2.length)) from rfl)
      have GR := Lib.hid (fun W => great1_any x1 W)
      unfold RetP at GR
      clear hx hE
      by_cases g1 : 60 < x1.length
      · have hv := Lib.hid (HP.out w1 true (by rw [HG.out, HT.out (by rw [HY.out, decide_eq_true g1]; rfl)]; rfl) B1.out)
        rw [decide_eq_true g1] at GR
        clear HT HS HY HP g1
        go_wp2_with fail
        refine (GR.out _).mono ?_
        rintro e w2 ⟨rfl, rfl⟩
        go_wp2_with fail
        exact hv.out
      rw [decide_eq_false g1] at GR HY
      by_cases g2 : 60 < x2.length
      · have hv := Lib.hid (HP.out w1 true (by rw [HG.out, HT.out (by rw [HY.out, decide_eq_true g2]; rfl)]; rfl) B1.out)
        have u2 : decide ((60 : Int) < (x2.length : Int)) = true := by rw [decide_eq_true_iff]; omega
        have u3 : (60 : Int) < (x2.length : Int) := by omega
        clear HT HS HY HP g1 g2
        go_wp2_with fail
        refine (GR.out _).mono ?_
        rintro e w2 ⟨rfl, rfl⟩
        go_wp2_with fail
        exact hv.out
      have NX := Lib.hid (HS.out (by rw [HY.out, decide_eq_false g2]; rfl))
      have u2 : decide ((60 : Int) < (x2.length : Int)) = false := by rw [decide_eq_false_iff_not]; omega
      have u3 : ¬ (60 : Int) < (x2.length : Int) := by omega
      clear HT HS HY HP g1 g2
      go_wp2_with fail
      refine (GR.out _).mono ?_
      rintro e w2 ⟨rfl, rfl⟩
      go_wp2_with fail
      go_round
      case rel => exact ⟨j + 1, by omega, by go_num, NX⟩
      case measure => simp [intOf]; omega
    · obtain rfl : j = k := by omega
      have hjk : ¬ (j : Int) < (j : Int) := by omega
      have hE2 := hE.out
      rw [List.take_of_length_le (by rw [LL.out]; exact Nat.le_refl _)] at hE2
      have h : decide (12 < j) = decide ((12 : Int) < (j : Int)) := by
        rw [Bool.eq_iff_iff, decide_eq_true_iff, decide_eq_true_iff]; omega
      have hv := Lib.hid (HP.out w1 (decide ((12 : Int) < (j : Int))) (by rw [HG.out, hE2, Bool.false_or, h]) B1.out)
      clear hE hE2 h HP
      go_wp2_with fail
      exact hv.out
end Go.Proofs.YtejaehmoplohdaaGreatDoor

/- Arguments that are nodes, proofs, opened. -/
namespace Go.Proofs.YtejaehmoplohdaaGreatDoor
open Go.RowKit Go.Maps Go.WideShapes Go.ChangeShapes Go.ChangeAt Go.Deep Num

section
variable {H : Type} {enc : TypeId × Value → H} {W : World} {sp : Nat → Bool} {held : Bool}
set_option maxRecDepth 100000 in
theorem arg_node {r : Reach} {b0 : Nat} {v : Value} {d : DataW H} {p : List MemPlace} (hok : Value.okWide Tryz.prog W r b0 27 v) (h : DataW.Trod enc Tryz.prog W 0 sp held 27 v d p) :
    ∃ x y : List UInt8, v = .agg #[.string ⟨x.toArray⟩, .string ⟨y.toArray⟩] := by
  obtain ⟨v0, v1, y0, y1, n, rfl, _, _, t0, t1⟩ := Joins.open_agg2 Tryz.underlying27 (by kernel_rfl) cNode hok h
  obtain ⟨s0, e0, _⟩ := DataW.trod_string Tryz.underlying25 t0
  obtain ⟨s1, e1, _⟩ := DataW.trod_string Tryz.underlying9 t1
  simp only [List.cons.injEq, and_true] at e0 e1
  exact ⟨s0.data.toList, s1.data.toList, by rw [e0, e1]⟩
theorem trod_nodes {fuel : Nat} {v : Value} {x : DataW H × List MemPlace} (h : DataW.trod enc Tryz.prog W 0 sp held fuel 31 [v] = some x) : ∃ A n c l, v = .slice A n c ∧ rowNd.Rds W A n c l :=
  trod_rowsK rowNd_ok nd0 Tryz.underlying31 cNode (fun fuel vs y hl hy => by
    match vs, hl with
    | [v0, v1], _ =>
      obtain ⟨y0, y1, k', _, _, t0, t1⟩ := trod_struct2 Tryz.underlying27 hy
      obtain ⟨s0, e0, _⟩ := DataW.trod_string Tryz.underlying25 t0
      obtain ⟨s1, e1, _⟩ := DataW.trod_string Tryz.underlying9 t1
      simp [c9, cInt] at e0 e1
      subst e0 e1
      exact ⟨(s0.data.toList, s1.data.toList), rfl⟩) h
set_option maxRecDepth 100000 in
theorem arg_proof {r : Reach} {b0 : Nat} {v : Value} {d : DataW H} {p : List MemPlace} (hok : Value.okWide Tryz.prog W r b0 33 v) (h : DataW.Trod enc Tryz.prog W 0 sp held 33 v d p) :
    ∃ i n A k c l, v = .agg #[.int .i64 i, .int .i64 n, .slice A k c] ∧ ((Lit.int .i64 i).wf = true ∧ (Lit.int .i64 n).wf = true) ∧ rowNd.Rds W A k c l := by
  obtain ⟨v0, v1, v2, y0, y1, y2, n, rfl, _, _, t0, t1, t2⟩ := Joins.open_agg3 Tryz.underlying33 (by kernel_rfl) cProof hok h
  obtain ⟨i, e0, _, w0⟩ := DataW.trod_int Tryz.underlying3 t0
  obtain ⟨j, e1, _, w1⟩ := DataW.trod_int Tryz.underlying3 t1
  obtain ⟨A, k, c, l, e2, hl⟩ := trod_nodes t2
  simp only [List.cons.injEq, and_true] at e0 e1
  exact ⟨i, j, A, k, c, l, by rw [e0, e1, e2], ⟨w0, w1⟩, hl⟩
end
end Go.Proofs.YtejaehmoplohdaaGreatDoor
