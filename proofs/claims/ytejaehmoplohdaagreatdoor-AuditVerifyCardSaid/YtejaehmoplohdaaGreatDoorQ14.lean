/- Audit: contract of the laws' way. -/
import Derived.Test.YtejaehmoplohdaaGreatDoorQ10
import Derived.Test.YtejaehmoplohdaaGreatDoorQ4
import Derived.Test.YtejaehmoplohdaaGreatDoorQ8
import Derived.Test.YtejaehmoplohdaaGreatDoorQ11
import Derived.Deep.DeepCutAuto
namespace Go.Proofs.YtejaehmoplohdaaGreatDoor
open Go.RowKit Go.Maps Num

/-- truth values are returned, in a slice of the call's own -/
def BlP (l : List Bool) (w : World) (e : Ending) (w' : World) : Prop := ∃ v, e = .returned v ∧ rowT.Own w.heap.size w' v l ∧ Below w.heap.size w w'
structure WyR (w : World) (pre : List Bool) (v : Value) (W : World) : Prop where
  own : rowT.Own w.heap.size W v pre
  bel : Below w.heap.size w W
set_option maxRecDepth 100000 in
set_option maxHeartbeats 8000000 in
theorem way_any (i n : Nat) (w : World) (hn : n ≤ 100000) (hi : i ≤ 100000) : Calls Tryz.prog 28 #[.int .i64 (i : Int), .int .i64 (n : Int)] w (BlP (wayN i n).reverse w) := by
  have HP := Lib.hid (show ∀ v W, rowT.Own w.heap.size W v (wayN i n).reverse → Below w.heap.size w W → BlP (wayN i n).reverse w (.returned v) W from fun v W h1 h2 => ⟨v, rfl, h1, h2⟩)
  have HL := Lib.hid (way_len i n)
  have HE := Lib.hid (show wayF n i n = wayN i n from rfl)
  generalize BlP (wayN i n).reverse w = Post at *
  obtain ⟨N0, hN0⟩ : ∃ N0, N0 = n := ⟨_, rfl⟩
  obtain ⟨Y, hY⟩ : ∃ Y, wayN i n = Y := ⟨_, rfl⟩
  rw [hY] at HP HL HE
  have R0 := Lib.hid (show WyR w [] (.slice none 0 0) w from ⟨Row.Own.nil _ _, Below.refl _ _⟩)
  have HN := Lib.hid (show n ≤ N0 by omega)
  have hN9 : N0 ≤ 100000 := by omega
  rw [← hN0] at HL
  clear hY hN0
  go_enter Tryz.func28, Tryz.ntmps28
  go_wp2_with fail
  go_loopw [5, 0, 1, 6] (fun v a b _ wr => ∃ (f iN nN : Nat) (pre : List Bool), a = .int .i64 (iN : Int) ∧ b = .int .i64 (nN : Int) ∧ nN ≤ f ∧ nN ≤ N0 ∧ iN ≤ 100000 ∧ Hid (pre ++ wayF f iN nN = Y) ∧ Hid (WyR w pre v wr)) (fun _ _ b _ _ => (intOf b).toNat)
  case atStart => exact ⟨n, i, n, [], rfl, rfl, by omega, HN.out, hi, Lib.hid (by rw [List.nil_append]; exact HE.out), R0⟩
  case round =>
    clear R0 HE HN
    obtain ⟨f, iN, nN, pre, rfl, rfl, hf, hnn, hi9, hp, hR⟩ := hrel
    have HO := Lib.hid hR.out.own
    have HB := Lib.hid hR.out.bel
    have hpl : pre.length ≤ N0 := by
      have := congrArg List.length hp.out
      rw [List.length_append] at this
      have := HL.out
      omega
    have HPL := Lib.hid hpl
    clear hR hpl
    by_cases h2 : 2 ≤ nN
    · have hn1 : (1 : Int) < (nN : Int) := by omega
      have hk1 := cutN_pos nN h2
      have hk2 := cutN_lt nN h2
      obtain ⟨f, rfl⟩ : ∃ f', f = f' + 1 := ⟨f - 1, by omega⟩
      have hp2 := hp.out
      rw [wayF, if_neg (by omega)] at hp2
      obtain ⟨kk, hkk⟩ : ∃ kk, kk = cutN nN := ⟨_, rfl⟩
      rw [← hkk] at hp2 hk1 hk2
      have HK := Lib.hid hkk
      have HP2 := Lib.hid hp2
      clear hp hp2 hkk
      go_wp2_with fail
      go_loopw [6] (fun q wq => ∃ g k : Nat, nN ≤ g + k ∧ 1 ≤ k ∧ k ≤ nN + 1 ∧ Hid (cutLoop g k nN = cutN nN) ∧ q = .int .i64 (k : Int) ∧ Hid (wq = wr)) (fun q _ => nN + 1 - (intOf q).toNat)
      case atStart => exact ⟨nN, 1, by omega, by omega, by omega, Lib.hid rfl, rfl, Lib.hid rfl⟩
      case round =>
        obtain ⟨g, k, h1, h2', h3, hc, rfl, hw⟩ := hrel
        obtain rfl := hw.out
        by_cases hlt : 2 * k < nN
        · have hc2 := hc.out
          rw [show g = (g - 1) + 1 by omega, cutLoop, if_pos hlt] at hc2
          have HC2 := Lib.hid hc2
          have hlt2 : 2 * (k : Int) < (nN : Int) := by omega
          clear hc hc2
          go_wp2_with fail
          go_roundw
          case rel => exact ⟨g - 1, 2 * k, by omega, by omega, by omega, HC2, by go_num, by first | exact Lib.hid rfl | exact Lib.hid trivial⟩
          case measure => simp [intOf]; omega
        · have hkk : k = kk := by
            have := hc.out
            rw [cutLoop_stop _ _ _ hlt] at this
            rw [HK.out]; exact this
          subst hkk
          have hlt2 : ¬ 2 * (k : Int) < (nN : Int) := by omega
          clear hc HK
          by_cases hik : iN < k
          · have hd : decide ((iN : Int) < (k : Int)) = true := decide_eq_true (by omega)
            have hik2 : (iN : Int) < (k : Int) := by omega
            have hp3 := HP2.out
            rw [if_pos hik] at hp3
            have HP3 := Lib.hid (show (pre ++ [true]) ++ wayF f iN k = Y by rw [List.append_assoc]; exact hp3)
            clear HP2 hp3
            go_wp2_with (first
              | (at_builtin; refine Row.wp_append1 rowT_ok rfl (.tmp 15) (.tmp 19) rfl w.heap.size _ pre _ true _ _ rfl rfl rfl HO.out rfl HB.out.size (by have := HPL.out; omega) ?_; intro v8 w9 ho8 hg8 _; have RR := Lib.hid (show WyR w (pre ++ [true]) v8 w9 from ⟨ho8, below_own HB.out (Nat.le_refl _) hg8 (fun q e => (HO.out.own q e).1)⟩); clear ho8 hg8)
              | fail)
            exact ⟨⟨f, iN, k, pre ++ [true], rfl, rfl, by omega, by omega, by omega, HP3, RR⟩, by simp [intOf]; omega⟩
          · have hd : decide ((iN : Int) < (k : Int)) = false := decide_eq_false (by omega)
            have hik2 : ¬ (iN : Int) < (k : Int) := by omega
            have hp3 := HP2.out
            rw [if_neg hik] at hp3
            have HP3 := Lib.hid (show (pre ++ [false]) ++ wayF f (iN - k) (nN - k) = Y by rw [List.append_assoc]; exact hp3)
            clear HP2 hp3
            have hw1 : IntKind.i64.wrap ((iN : Int) - (k : Int)) = ((iN - k : Nat) : Int) := by rw [IntWalk.i64_in _ (by omega)]; omega
            have hw2 : IntKind.i64.wrap ((nN : Int) - (k : Int)) = ((nN - k : Nat) : Int) := by rw [IntWalk.i64_in _ (by omega)]; omega
            obtain ⟨i2, hi2⟩ : ∃ i2, iN - k = i2 := ⟨_, rfl⟩
            obtain ⟨n2, hn2⟩ : ∃ n2, nN - k = n2 := ⟨_, rfl⟩
            rw [hi2] at hw1 HP3
            rw [hn2] at hw2 HP3
            have hi3 : i2 ≤ 100000 := by omega
            have hn3 : n2 ≤ f ∧ n2 ≤ N0 ∧ n2 < nN := by omega
            clear hi2 hn2
            go_wp2_with (first
              | (at_builtin; refine Row.wp_append1 rowT_ok rfl (.tmp 15) (.tmp 19) rfl w.heap.size _ pre _ false _ _ rfl rfl rfl HO.out rfl HB.out.size (by have := HPL.out; omega) ?_; intro v8 w9 ho8 hg8 _; have RR := Lib.hid (show WyR w (pre ++ [false]) v8 w9 from ⟨ho8, below_own HB.out (Nat.le_refl _) hg8 (fun q e => (HO.out.own q e).1)⟩); clear ho8 hg8)
              | fail)
            exact ⟨⟨f, i2, n2, pre ++ [false], rfl, rfl, hn3.1, hn3.2.1, hi3, HP3, RR⟩, by simp [intOf]; omega⟩
    · have hn1 : ¬ (1 : Int) < (nN : Int) := by omega
      have e : wayF f iN nN = [] := by
        cases f with
        | zero => rfl
        | succ f => rw [wayF, if_pos (by omega)]
      have hp2 := hp.out
      rw [e, List.append_nil] at hp2
      subst hp2
      clear hp e
      go_wp2_with fail
      refine (revB_any w.heap.size _ pre _ HO.out (by have := HPL.out; omega)).mono ?_
      rintro e w9 ⟨rfl, ho, hb⟩
      have H := Lib.hid (HP.out _ w9 ho (HB.out.trans hb))
      clear ho hb
      go_wp2_with fail
      first | exact H.out | (go_ret; exact H.out)
end Go.Proofs.YtejaehmoplohdaaGreatDoor

/- Audit, plain and rows: levels, one more at a time. -/
namespace Go.Proofs.YtejaehmoplohdaaGreatDoor
open Go.RowKit Go.Maps Num

abbrev Lv := List UInt8 × Nd
def encV (x : Lv) : List Value := [.string ⟨x.1.toArray⟩, .string ⟨x.2.1.toArray⟩, .string ⟨x.2.2.toArray⟩]
/-- rows of levels -/
abbrev rowV : Row Lv := ⟨76, 117, .agg #[.string ⟨#[]⟩, .string ⟨#[]⟩, .string ⟨#[]⟩], 3, 48, encV⟩
theorem rowV_ok : rowV.Ok where
  hS := Tryz.underlying76
  info := by kernel_rfl
  zc := rfl
  k0 := by decide
  b1 := by decide
  hk _ := rfl
  h1 x v hv := by
    simp only [encV, List.mem_cons, List.not_mem_nil, or_false] at hv
    rcases hv with rfl | rfl | rfl <;> rfl
def lv0 : Lv := ([], [], [])
theorem lvl_snoc (own : Nd) (z : List (Bool × Nd)) (x : Bool × Nd) : lvlN sha own (z ++ [x]) = lvlN sha own z ++ [(stepT (z.foldl (stepN sha) own) x, stepN sha (z.foldl (stepN sha) own) x)] := by
  induction z generalizing own with
  | nil => rfl
  | cons y r ih => rw [List.cons_append, lvlN, lvlN, ih, List.cons_append, List.foldl_cons]
theorem twin_snoc (own : Nd) (z : List (Bool × Nd)) (x : Bool × Nd) : twinN sha own (z ++ [x]) = (twinN sha own z || decide (z.foldl (stepN sha) own = x.2)) := by
  induction z generalizing own with
  | nil => simp only [List.nil_append, twinN, List.foldl_nil, Bool.or_false, Bool.false_or]; exact decide_eq_decide.2 Iff.rfl
  | cons y r ih => rw [List.cons_append, twinN, twinN, ih, List.foldl_cons, Bool.or_assoc]
theorem levels_snoc (b : Ln) (z : List (Bool × Nd)) (x : Bool × Nd) : levels sha b (z ++ [x]) = levels sha b z ++ [(stepT (z.foldl (stepN sha) (leafN sha b)) x, stepN sha (z.foldl (stepN sha) (leafN sha b)) x)] := by
  unfold levels
  rw [lvl_snoc, List.cons_append]
theorem levels_len (b : Ln) (z : List (Bool × Nd)) : (levels sha b z).length = z.length + 1 := by
  unfold levels
  have : ∀ (z : List (Bool × Nd)) (o : Nd), (lvlN sha o z).length = z.length := by
    intro z
    induction z with
    | nil => intro o; rfl
    | cons y r ih => intro o; rw [lvlN, List.length_cons, List.length_cons, ih]
  rw [List.length_cons, this]
/-- the last level is the node that was reached -/
theorem levels_last (b : Ln) (z : List (Bool × Nd)) : ((levels sha b z).getD z.length lv0).2 = z.foldl (stepN sha) (leafN sha b) := by
  have key : ∀ (z : List (Bool × Nd)) (o : Nd) (t : List UInt8), (((t, o) :: lvlN sha o z).getD z.length lv0).2 = z.foldl (stepN sha) o := by
    intro z
    induction z with
    | nil => intro o t; rfl
    | cons y r ih =>
      intro o t
      rw [lvlN, List.length_cons, List.getD_cons_succ, ih, List.foldl_cons]
  exact key z _ _
theorem take_bn (z : List (Bool × Nd)) (k : Nat) (h : k < z.length) : z.take (k + 1) = z.take k ++ [z.getD k (false, nd0)] := by
  rw [List.take_succ_eq_append_getElem h, List.getD_eq_getElem?_getD, List.getElem?_eq_getElem h]; rfl
theorem zip_at (fs : List Bool) (ns : List Nd) (k : Nat) (h1 : k < fs.length) (h2 : k < ns.length) : (fs.zip ns).getD k (false, nd0) = (fs.getD k false, ns.getD k nd0) := by
  rw [List.getD_eq_getElem?_getD, List.getD_eq_getElem?_getD, List.getD_eq_getElem?_getD, List.getElem?_eq_getElem h1, List.getElem?_eq_getElem h2, List.getElem?_eq_getElem (by rw [List.length_zip]; omega), List.getElem_zip]
  rfl
theorem take_zip2 {α β : Type} : ∀ (k : Nat) (fs : List α) (ns : List β), (fs.zip ns).take k = (fs.take k).zip (ns.take k)
  | 0, fs, ns => by simp
  | k + 1, [], ns => by simp
  | k + 1, f :: fs, [] => by simp
  | k + 1, f :: fs, n :: ns => by rw [List.zip_cons_cons, List.take_succ_cons, List.take_succ_cons, List.take_succ_cons, List.zip_cons_cons, take_zip2 k fs ns]
theorem foldl_climb (own : Nd) (fs : List Bool) (ns : List Nd) (k : Nat) : ((fs.zip ns).take k).foldl (stepN sha) own = climbN sha own (fs.take k) (ns.take k) := by
  unfold climbN
  rw [take_zip2]
theorem stepT_cat (x y : Nd) : (((((([1] : List UInt8) ++ prt x.1) ++ [32]) ++ x.2) ++ prt y.1) ++ [32]) ++ y.2 = overT x y := by unfold overT; simp
end Go.Proofs.YtejaehmoplohdaaGreatDoor

/- Audit: contract of the laws' climb. -/
namespace Go.Proofs.YtejaehmoplohdaaGreatDoor
open Go.RowKit Go.Maps Num

theorem own_oneV (B : Nat) (w : World) (hB : B ≤ w.heap.size) (x : Lv) : rowV.Own B (w.alloc (.cells #[.string ⟨x.1.toArray⟩, .string ⟨x.2.1.toArray⟩, .string ⟨x.2.2.toArray⟩] 117)) (.slice (some ⟨w.heap.size, 0, none⟩) 1 1) [x] :=
  ⟨rfl, .inr ⟨w.heap.size, 1, _, rfl, hB, heap_alloc_new w _, Nat.le_refl _, by unfold maxLen; omega, rfl, rfl⟩⟩
/-- levels and whether there are twins are returned -/
def ClP (b : Ln) (z : List (Bool × Nd)) (w : World) (e : Ending) (w' : World) : Prop := ∃ v, e = .returned (.tuple #[v, .bool (twinN sha (leafN sha b) z)]) ∧ rowV.Own w.heap.size w' v (levels sha b z) ∧ Below w.heap.size w w'
/-- the loop's state -/
structure ClR (w : World) (pv : Value) (pi pn : Int) (vW : Value) (fs : List Bool) (ls : List Lv) (v : Value) (W : World) : Prop where
  out : rowV.Own (w.heap.size + 2) W v ls
  way : rowT.Own (w.heap.size + 2) W vW fs
  sep : ∀ g, vW.ownBlock = some g → v.ownBlock ≠ some g
  pr : W.heap[w.heap.size + 1]? = some (.cells #[.int .i64 pi, .int .i64 pn, pv] 33)
  bel : Below w.heap.size w W
  sz : w.heap.size + 2 ≤ W.heap.size
theorem ClR.below {w : World} {pv : Value} {pi pn : Int} {vW : Value} {fs : List Bool} {ls : List Lv} {v : Value} {W W' : World} (h : ClR w pv pi pn vW fs ls v W) (hb : Below W.heap.size W W') : ClR w pv pi pn vW fs ls v W' :=
  ⟨h.out.below hb, h.way.below hb, h.sep, bkeep h.pr hb, below_next h.bel hb ⟨rfl, rfl, rfl, rfl⟩, Nat.le_trans h.sz hb.size⟩
theorem ClR.step {w : World} {pv : Value} {pi pn : Int} {vW : Value} {fs : List Bool} {ls : List Lv} {v v' : Value} {x : Lv} {W W' : World} (h : ClR w pv pi pn vW fs ls v W) (ho : rowV.Own (w.heap.size + 2) W' v' (ls ++ [x])) (hg : W.grownBy W' v.ownBlock) (hat : v'.ownBlock = v.ownBlock ∨ ∃ g, v'.ownBlock = some g ∧ W.heap.size ≤ g) : ClR w pv pi pn vW fs (ls ++ [x]) v' W' := by
  have hlo : ∀ g, v.ownBlock = some g → w.heap.size + 2 ≤ g := fun g e => (h.out.own g e).1
  refine ⟨ho, h.way.kept' hg ?_, fun g e => ?_, (hg.block _ (Array.getElem?_eq_some_iff.1 h.pr).1 (fun e => by have := hlo _ e.symm; omega)).trans h.pr, below_own h.bel (Nat.le_refl _) hg (fun g e => by have := hlo g e; omega), Nat.le_trans h.sz hg.size⟩
  · cases hk : vW.ownBlock with
    | none => exact .inl rfl
    | some g => exact .inr fun e => h.sep g hk e.symm
  · rcases hat with e2 | ⟨g2, e2, hg2⟩
    · rw [e2]; exact h.sep g e
    · rw [e2]
      intro e3
      have := Option.some.inj e3
      have := (h.way.own g e).2
      omega
theorem climb_facts (b : Ln) (fs : List Bool) (ns : List Nd) (k : Nat) (h1 : fs.length = k) (h2 : ns.length = k) : ∃ (LV : Nat → List Lv) (TW : Nat → Bool) (CN : Nat → Nd), LV 0 = [(leafT b, leafN sha b)] ∧ TW 0 = false ∧
    (∀ j, j < k → LV (j + 1) = LV j ++ [(stepT (CN j) (fs.getD j false, ns.getD j nd0), stepN sha (CN j) (fs.getD j false, ns.getD j nd0))]) ∧ (∀ j, j < k → TW (j + 1) = (TW j || decide (CN j = ns.getD j nd0))) ∧ (∀ j, j ≤ k → (LV j).length = j + 1 ∧ ((LV j).getD j lv0).2 = CN j) ∧
    LV k = levels sha b (fs.zip ns) ∧ TW k = twinN sha (leafN sha b) (fs.zip ns) ∧ ∀ j, j ≤ k → CN j = climbN sha (leafN sha b) (fs.take j) (ns.take j) := by
  have hz : (fs.zip ns).length = k := by rw [List.length_zip]; omega
  have hle : (fs.zip ns).take k = fs.zip ns := List.take_of_length_le (by omega)
  refine ⟨fun j => levels sha b ((fs.zip ns).take j), fun j => twinN sha (leafN sha b) ((fs.zip ns).take j), fun j => climbN sha (leafN sha b) (fs.take j) (ns.take j), rfl, rfl, fun j hj => ?_, fun j hj => ?_, fun j hj => ?_, by simp only; rw [hle], by simp only; rw [hle], fun j _ => rfl⟩
  · simp only
    rw [take_bn _ j (by omega), levels_snoc, foldl_climb, zip_at _ _ _ (by omega) (by omega)]
  · simp only
    rw [take_bn _ j (by omega), twin_snoc, foldl_climb, zip_at _ _ _ (by omega) (by omega)]
  · have h3 : ((fs.zip ns).take j).length = j := by rw [List.length_take]; omega
    have h4 := levels_last b ((fs.zip ns).take j)
    rw [h3, foldl_climb] at h4
    exact ⟨by simp only; rw [levels_len, h3], h4⟩
/-- two fresh boxes with a node each -/
def TwoB (de : Value × Value) (c1 c2 y1 y2 : List UInt8) (w wx : World) : Prop := ∃ p q, de = (.pointer (some ⟨p, 0, none⟩), .pointer (some ⟨q, 0, none⟩)) ∧ p ≠ q ∧ w.heap.size ≤ p ∧ w.heap.size ≤ q ∧ wx.heap[p]? = some (.cells #[.string ⟨c1.toArray⟩, .string ⟨c2.toArray⟩] 27) ∧ wx.heap[q]? = some (.cells #[.string ⟨y1.toArray⟩, .string ⟨y2.toArray⟩] 27) ∧ Below w.heap.size w wx
theorem twoB_fst (c1 c2 y1 y2 : List UInt8) (w : World) : TwoB (.pointer (some ⟨w.heap.size, 0, none⟩), .pointer (some ⟨w.heap.size + 1, 0, none⟩)) c1 c2 y1 y2 w ((w.alloc (.cells #[.string ⟨c1.toArray⟩, .string ⟨c2.toArray⟩] 27)).alloc (.cells #[.string ⟨y1.toArray⟩, .string ⟨y2.toArray⟩] 27)).drew := by
  refine ⟨_, _, rfl, by omega, Nat.le_refl _, by omega, ?_, ?_, ?_⟩
  · exact (heap_alloc_old _ _ (by simp)).trans (heap_alloc_new w _)
  · have := heap_alloc_new (w.alloc (.cells #[.string ⟨c1.toArray⟩, .string ⟨c2.toArray⟩] 27)) (.cells #[.string ⟨y1.toArray⟩, .string ⟨y2.toArray⟩] 27)
    rw [World.size_alloc] at this
    exact this
  · exact Below.drew (((Below.refl _ w).alloc (Nat.le_refl _) _).alloc (by simp) _)
theorem twoB_snd (c1 c2 y1 y2 : List UInt8) (w : World) : TwoB (.pointer (some ⟨w.heap.size + 1, 0, none⟩), .pointer (some ⟨w.heap.size, 0, none⟩)) c1 c2 y1 y2 w ((w.alloc (.cells #[.string ⟨y1.toArray⟩, .string ⟨y2.toArray⟩] 27)).alloc (.cells #[.string ⟨c1.toArray⟩, .string ⟨c2.toArray⟩] 27)).drew := by
  refine ⟨_, _, rfl, by omega, by omega, Nat.le_refl _, ?_, ?_, ?_⟩
  · have := heap_alloc_new (w.alloc (.cells #[.string ⟨y1.toArray⟩, .string ⟨y2.toArray⟩] 27)) (.cells #[.string ⟨c1.toArray⟩, .string ⟨c2.toArray⟩] 27)
    rw [World.size_alloc] at this
    exact this
  · exact (heap_alloc_old _ _ (by simp)).trans (heap_alloc_new w _)
  · exact Below.drew (((Below.refl _ w).alloc (Nat.le_refl _) _).alloc (by simp) _)
theorem twoB_keep {W : World} {cb nb : Nat} {x y : Value} {t : TypeId} (h : cb ≠ nb) (hn : W.heap[nb]? = some (.cells #[x, y] t)) (p q : Value) : ((W.setCell ⟨cb, 0, none⟩ p).setCell ⟨cb, 1, none⟩ q).heap[nb]? = some (.cells #[x, y] t) := by
  unfold World.setCell
  simp [Array.getElem?_modify, hn, h]
theorem set1n {W : World} {b : Nat} {x y : Value} {t : TypeId} (h : W.heap[b]? = some (.cells #[x, y] t)) (p : Value) : (W.setCell ⟨b, 0, none⟩ p).heap[b]? = some (.cells #[p, y] t) := by
  unfold World.setCell
  simp [Array.getElem?_modify, h]
theorem alloc_two3 (w : World) (a b c x y z : Value) (s t : TypeId) : ((w.alloc (.cells #[a, b, c] s)).alloc (.cells #[x, y, z] t)).heap[w.heap.size]? = some (.cells #[a, b, c] s) ∧ ((w.alloc (.cells #[a, b, c] s)).alloc (.cells #[x, y, z] t)).heap[w.heap.size + 1]? = some (.cells #[x, y, z] t) := alloc_two33 w a b c x y z s t
set_option maxRecDepth 100000 in
set_option maxHeartbeats 8000000 in
theorem climb_any (a cu m : List UInt8) (i n : Nat) (A : Option Addr) (k c : Nat) (ns : List Nd) (w : World) (hb : okB (a, cu, m)) (hs : SmB (a, cu, m)) (hA : rowNd.Rds w A k c ns) (hk : (wayN i n).length = k) (hn : ∀ x ∈ ns, x.1.length ≤ 70 ∧ x.2.length = 32) (hn2 : n ≤ 1024) (hi2 : i ≤ 1024) (ht : Tab w) :
    Calls Tryz.prog 50 #[.agg #[.string ⟨a.toArray⟩, .string ⟨cu.toArray⟩, .string ⟨m.toArray⟩], .agg #[.int .i64 (i : Int), .int .i64 (n : Int), .slice A k c]] w (ClP (a, cu, m) ((wayN i n).reverse.zip ns) w) := by
  have ll := Lib.hid hA.len
  obtain ⟨fs, hfs⟩ : ∃ fs, (wayN i n).reverse = fs := ⟨_, rfl⟩
  have hfl : fs.length = k := by rw [← hfs, List.length_reverse, hk]
  have FL := Lib.hid hfl
  have HWy := Lib.hid (fun W => way_any i n W (by omega) (by omega))
  rw [hfs] at HWy ⊢
  have hcan := okB_can hb
  have hpm : prt m = m := prt_ok hb
  have s1 := hs.1
  have s2 := hs.2.1
  have s3 := hs.2.2
  simp only at s1 s2 s3 hcan
  have HP := Lib.hid (show ∀ v t W, twinN sha (leafN sha (a, cu, m)) (fs.zip ns) = t → rowV.Own w.heap.size W v (levels sha (a, cu, m) (fs.zip ns)) → Below w.heap.size w W → ClP (a, cu, m) (fs.zip ns) w (.returned (.tuple #[v, .bool t])) W from fun v t W e h1 h2 => ⟨v, by rw [e], h1, h2⟩)
  have HCm := Lib.hid (show ∀ W, Calls Tryz.prog 25 #[.string ⟨m.toArray⟩, .string ⟨#[]⟩] W (IntPost (cmpI (val m) 0) W) from fun W => by
    have := Compare_any ⟨m.toArray⟩ ⟨#[]⟩ W (by show m.toArray.size ≤ 120; rw [List.size_toArray]; omega) (by decide)
    unfold cmpV at this
    rw [show (⟨#[]⟩ : ByteArray).data.toList = ([] : List UInt8) from rfl, val_nil] at this
    exact this)
  have HNg := Lib.hid (show ∀ W, Below w.heap.size w W → Calls Tryz.prog 23 #[.string ⟨m.toArray⟩] W (StrPost (txt (- val m)) W) from fun W h => Neg_any ⟨m.toArray⟩ W (by show m.toArray.size ≤ 120; rw [List.size_toArray]; omega) (ht.below h))
  have HSm := Lib.hid (show ∀ T W, T.length ≤ 100000 → Calls Tryz.prog 59 #[.string ⟨T.toArray⟩] W (StrPost (sha T) W) from fun T W h => Sha.refSum_any ⟨T.toArray⟩ W (by show T.toArray.size ≤ _; rw [List.size_toArray]; omega))
  have HAd := Lib.hid (show ∀ x y : List UInt8, x.length ≤ 100 → y.length ≤ 100 → ∀ W, Below w.heap.size w W → Calls Tryz.prog 27 #[.string ⟨x.toArray⟩, .string ⟨y.toArray⟩] W (StrPost (txt (val x + val y)) W) from fun x y hx hy W h => Add_any ⟨x.toArray⟩ ⟨y.toArray⟩ W (by show x.toArray.size ≤ 120; rw [List.size_toArray]; omega) (by show y.toArray.size ≤ 120; rw [List.size_toArray]; omega) (ht.below h))
  have L1 := Lib.hid (fun W (h : Below w.heap.size w W) => hA.below h)
  have HN := Lib.hid hn
  have hT : (leafT (a, cu, m)).length ≤ 400 := by unfold leafT; simp only [hpm]; simp; omega
  have e5 := leafT_cat a cu m
  rw [hpm] at e5
  have hle : leafN sha (a, cu, m) = (absT m, sha (leafT (a, cu, m))) := rfl
  have habs : (absT m).length ≤ 70 := by
    unfold absT
    have h2 := val_le60 (a := m) s3
    have := txt_bd (v := ((val m).natAbs : Int)) (k := 60) (by omega)
    omega
  have habn : val m < 0 → absT m = txt (- val m) := fun h => by unfold absT; rw [show ((val m).natAbs : Int) = - val m by omega]
  have habp : ¬ val m < 0 → absT m = m := fun h => by unfold absT; rw [show ((val m).natAbs : Int) = val m by omega]; exact hcan
  have HAB := Lib.hid (show (val m < 0 → absT m = txt (- val m)) ∧ (0 ≤ val m → absT m = m) from ⟨habn, fun h => habp (by omega)⟩)
  obtain ⟨LV, TW, CN, hc1, hc2, hc3, hc4, hc5, hc6, hc7, hc8⟩ := climb_facts (a, cu, m) fs ns k hfl ll.out
  have HSMN := Lib.hid (show ∀ j, j ≤ k → SmN (CN j) from fun j hj => by
    rw [hc8 j hj]
    exact climb_small _ _ _ (by rw [List.length_take, List.length_take, FL.out, ll.out]) (by rw [hle]; exact habs) (fun x hx => (HN.out x (List.mem_of_mem_take hx)).1) (by rw [hle]; exact sha_len _) (by rw [List.length_take, ll.out]; have := way_len i n; omega))
  have HL0 := Lib.hid (show LV 0 = [(leafT (a, cu, m), absT m, sha (leafT (a, cu, m)))] from hc1)
  have HT0 := Lib.hid hc2
  have HLS := Lib.hid hc3
  have HTS := Lib.hid hc4
  have HLL := Lib.hid hc5
  have HLK := Lib.hid hc6
  have HTK := Lib.hid hc7
  clear hc1 hc2 hc3 hc4 hc5 hc6 hc7 hc8
  unfold IntPost at HCm
  unfold StrPost at HNg HSm HAd
  obtain ⟨T, hTT⟩ : ∃ T, leafT (a, cu, m) = T := ⟨_, rfl⟩
  obtain ⟨am, ham⟩ : ∃ am, absT m = am := ⟨_, rfl⟩
  rw [hTT] at hT e5 HL0
  rw [ham] at HL0 HAB
  obtain ⟨t1, h1⟩ : ∃ t, ([0] : List UInt8) ++ a = t := ⟨_, rfl⟩
  obtain ⟨t2, h2⟩ : ∃ t, t1 ++ [32] = t := ⟨_, rfl⟩
  obtain ⟨t3, h3⟩ : ∃ t, t2 ++ cu = t := ⟨_, rfl⟩
  obtain ⟨t4, h4⟩ : ∃ t, t3 ++ [32] = t := ⟨_, rfl⟩
  rw [h1, h2, h3, h4] at e5
  have l1 : t1.length ≤ 1001 := by rw [← h1]; simp; omega
  have l2 : t2.length ≤ 1002 := by rw [← h2]; simp; omega
  have l3 : t3.length ≤ 2002 := by rw [← h3]; simp; omega
  have l4 : t4.length ≤ 2003 := by rw [← h4]; simp; omega
  have k1 := fun W => cat_run [0] a t1 (by simp; omega) h1 W
  have k2 := fun W => cat_run t1 [32] t2 (by simp; omega) h2 W
  have k3 := fun W => cat_run t2 cu t3 (by omega) h3 W
  have k4 := fun W => cat_run t3 [32] t4 (by simp; omega) h4 W
  have k5 := fun W => cat_run t4 m T (by omega) e5 W
  have hkk : k ≤ 1024 := by have := way_len i n; omega
  clear h1 h2 h3 h4 e5 l1 l2 l3 l4 hb hs hA hn ht hcan hpm hfs hfl habs habn habp hle hTT ham hk
  obtain ⟨y0, y1⟩ := alloc_two3 w (.string ⟨a.toArray⟩) (.string ⟨cu.toArray⟩) (.string ⟨m.toArray⟩) (.int .i64 (i : Int)) (.int .i64 (n : Int)) (.slice A k c) 38 33
  have hB0 : Below w.heap.size w ((w.alloc (.cells #[.string ⟨a.toArray⟩, .string ⟨cu.toArray⟩, .string ⟨m.toArray⟩] 38)).alloc (.cells #[.int .i64 (i : Int), .int .i64 (n : Int), .slice A k c] 33)) := ((Below.refl _ w).alloc (Nat.le_refl _) _).alloc (by simp) _
  have hsz : ((w.alloc (.cells #[.string ⟨a.toArray⟩, .string ⟨cu.toArray⟩, .string ⟨m.toArray⟩] 38)).alloc (.cells #[.int .i64 (i : Int), .int .i64 (n : Int), .slice A k c] 33)).heap.size = w.heap.size + 2 := by simp
  obtain ⟨⟨x0, x1, x2⟩, _⟩ := cells3 y0
  have Y1 := Lib.hid y1
  have B0 := Lib.hid hB0
  have SZ := Lib.hid hsz
  clear y0 y1 hB0 hsz
  obtain ⟨kc, hkc⟩ : ∃ kc, cmpI (val m) 0 = kc := ⟨_, rfl⟩
  rw [hkc] at HCm
  have hkc2 : (val m < 0 → kc < 0) ∧ (0 ≤ val m → ¬ kc < 0) := by
    rw [← hkc]; unfold cmpI
    constructor
    · intro h; rw [if_pos h]; omega
    · intro h; rw [if_neg (by omega)]; split <;> omega
  have HKC := Lib.hid hkc2
  clear hkc hkc2
  generalize ClP (a, cu, m) (fs.zip ns) w = Post at *
  go_enter Tryz.func50, Tryz.ntmps50
  go_wp2_with fail
  generalize (w.alloc (.cells #[.string ⟨a.toArray⟩, .string ⟨cu.toArray⟩, .string ⟨m.toArray⟩] 38)).alloc (.cells #[.int .i64 (i : Int), .int .i64 (n : Int), .slice A k c] 33) = wA at *
  refine (HCm.out _).mono ?_
  rintro e w1 ⟨rfl, hb1⟩
  have B1 := Lib.hid (below_next B0.out hb1 ⟨rfl, rfl, rfl, rfl⟩)
  have P1 := Lib.hid (bkeep Y1.out hb1)
  have S1 := Lib.hid (show w.heap.size + 2 ≤ w1.heap.size by have := hb1.size; rw [SZ.out] at this; exact this)
  clear hb1 x0 x1 x2 Y1 B0 SZ
  go_upto_if 30 with fail
  go_cut [7] (fun t wx => Hid (t = .string ⟨am.toArray⟩ ∧ Below w1.heap.size w1 wx))
  case first =>
    rcases Int.lt_or_le (val m) 0 with hv | hv
    · have hk0 := HKC.out.1 hv
      have ea := HAB.out.1 hv
      subst ea
      go_wp2_with fail
      refine (HNg.out _ B1.out).mono ?_
      rintro e w2 ⟨rfl, hb⟩
      have HB2 := Lib.hid hb
      clear hb
      go_wp2_with fail
      go_meet
      exact Lib.hid ⟨rfl, HB2.out⟩
    · have hk0 := HKC.out.2 hv
      have ea := HAB.out.2 hv
      subst ea
      go_wp2_with fail
      go_meet
      exact Lib.hid ⟨rfl, Below.refl _ _⟩
  case rest =>
  obtain ⟨rfl, hbc⟩ := hcut.out
  have B2 := Lib.hid (below_next B1.out hbc ⟨rfl, rfl, rfl, rfl⟩)
  have P2 := Lib.hid (bkeep P1.out hbc)
  have S2 := Lib.hid (Nat.le_trans S1.out hbc.size)
  clear hbc hcut HKC HAB HNg HCm B1 P1 S1
  go_wp2_with fail
  refine (HSm.out T _ (by omega)).mono ?_
  rintro e w3 ⟨rfl, hb⟩
  have B3 := Lib.hid (below_next B2.out hb ⟨rfl, rfl, rfl, rfl⟩)
  have P3 := Lib.hid (bkeep P2.out hb)
  have S3 := Lib.hid (Nat.le_trans S2.out hb.size)
  clear hb B2 P2 S2
  have O4 := Lib.hid (own_oneV (w.heap.size + 2) w3 S3.out (T, am, sha T))
  have B4 := Lib.hid (B3.out.alloc B3.out.size (.cells #[.string ⟨T.toArray⟩, .string ⟨am.toArray⟩, .string ⟨(sha T).toArray⟩] 117))
  have P4 := Lib.hid (balloc P3.out (.cells #[.string ⟨T.toArray⟩, .string ⟨am.toArray⟩, .string ⟨(sha T).toArray⟩] 117))
  have S4 := Lib.hid (show w.heap.size + 2 ≤ (w3.alloc (.cells #[.string ⟨T.toArray⟩, .string ⟨am.toArray⟩, .string ⟨(sha T).toArray⟩] 117)).heap.size by have := S3.out; simp; omega)
  obtain ⟨⟨p0, p1, p2⟩, _⟩ := cells3 P4.out
  clear B3 P3
  go_wp2_with fail
  refine (HWy.out _).mono ?_
  rintro e w5 ⟨vW, rfl, ho, hb⟩
  have hlt3 : w3.heap.size < (w3.alloc (.cells #[.string ⟨T.toArray⟩, .string ⟨am.toArray⟩, .string ⟨(sha T).toArray⟩] 117)).heap.size := by simp
  have R0 := Lib.hid (show ClR w (.slice A k c) (i : Int) (n : Int) vW fs (LV 0) (.slice (some ⟨w3.heap.size, 0, none⟩) 1 1) w5 from by
    refine ⟨by rw [HL0.out]; exact O4.out.below hb, Row.Own.mono ho S4.out, fun g e e2 => ?_, bkeep P4.out hb, below_next B4.out hb ⟨rfl, rfl, rfl, rfl⟩, Nat.le_trans S4.out hb.size⟩
    have h1 := (ho.own g e).1
    have h2 : w3.heap.size = g := Option.some.inj e2
    omega)
  obtain ⟨Aw, cw, rfl, _⟩ := ho.rds
  rw [FL.out] at R0 ⊢
  clear ho hb O4 P4 B4 S4 HWy hlt3 p0 p1 p2
  go_wp2_with fail
  go_loopw [46, 8, 9] (fun q v t wr => ∃ j : Nat, j ≤ k ∧ q = .int .i64 (j : Int) ∧ t = .bool (TW j) ∧ Hid (ClR w (.slice A k c) (i : Int) (n : Int) (.slice Aw k cw) fs (LV j) v wr)) (fun q _ _ _ => k - (intOf q).toNat)
  case atStart => exact ⟨0, by omega, rfl, by rw [HT0.out], R0⟩
  case round =>
    clear R0 HL0 HT0
    obtain ⟨j, hj, rfl, rfl, hR⟩ := hrel
    obtain ⟨⟨p0, p1, p2⟩, _⟩ := cells3 hR.out.pr
    by_cases hlt : j < k
    · obtain ⟨As, cs, e, hrd⟩ := hR.out.way.rds
      injection e with e1 e2 e3
      subst e1 e3
      rw [FL.out] at hrd
      clear e2
      obtain ⟨b1, o1, rfl, hb1, _⟩ := hrd.at_ (by omega)
      have q0 := hrd.cell rowT_ok false j 0 _ hlt rfl
      obtain ⟨hll, hla⟩ := HLL.out j hj
      obtain ⟨Ao, co, eo, hro⟩ := hR.out.out.rds
      subst eo
      rw [hll] at hro ⊢
      obtain ⟨b2, o2, rfl, hb2, _⟩ := hro.at_ (by omega)
      have v1 := hro.cell rowV_ok lv0 j 1 _ (by omega) rfl
      have v2 := hro.cell rowV_ok lv0 j 2 _ (by omega) rfl
      rw [hla] at v1 v2
      obtain ⟨b3, o3, hA3, hb3, _⟩ := (L1.out w (Below.refl _ _)).at_ (by omega)
      subst hA3
      have n0 := (L1.out wr hR.out.bel).cell rowNd_ok nd0 j 0 _ hlt rfl
      have n1 := (L1.out wr hR.out.bel).cell rowNd_ok nd0 j 1 _ hlt rfl
      have hki : (j : Int) < (k : Int) := by omega
      have hk0 : (0 : Int) ≤ (j : Int) := by omega
      have hk9 : (j : Int) < ((j + 1 : Nat) : Int) := by omega
      have hge : decide ((k : Int) ≤ (j : Int)) = false := decide_eq_false (by omega)
      have hsm := Lib.hid (HSMN.out j hj)
      have hsn := Lib.hid (HN.out _ (getD_mem nd0 ns j (by rw [ll.out]; exact hlt)))
      have LS := Lib.hid (HLS.out j hlt)
      have TS := Lib.hid (HTS.out j hlt)
      rcases hcn : CN j with ⟨c1, c2⟩
      rcases hnn : ns.getD j nd0 with ⟨y1, y2⟩
      rw [hcn] at v1 v2 hsm LS TS
      rw [hnn] at n0 n1 hsn LS TS
      simp only [Nat.add_zero, Nat.mul_one] at q0 v1 v2 n0 n1
      generalize fs.getD j false = bh at *
      have hR2 := hR.out
      have HLL2 := Lib.hid hll
      have RJ := Lib.hid hR2
      have HB3 := Lib.hid hb3
      clear hR hR2 hrd hro hla hcn hnn hll
      obtain ⟨j1, hj1⟩ : ∃ j1 : Nat, j1 = j + 1 := ⟨_, rfl⟩
      have HJ1 := Lib.hid hj1
      have hjj : (j : Int) < (j1 : Int) := by omega
      rw [← hj1] at LS TS HLL2 ⊢
      rw [HLL2.out] at RJ
      clear hj1 hk9
      go_upto_region 11 with fail
      have WZ := Lib.hid (show w.heap.size + 2 ≤ wr.heap.size from RJ.out.sz)
      have D1 := Lib.hid (show b2 ≠ wr.heap.size ∧ b2 ≠ wr.heap.size + 1 ∧ b3 ≠ wr.heap.size ∧ b3 ≠ wr.heap.size + 1 ∧ w.heap.size + 1 ≠ wr.heap.size ∧ w.heap.size + 1 ≠ wr.heap.size + 1 by have := WZ.out; have := HB3.out; omega)
      go_cut [12, 13] (fun d e wx => Hid (TwoB (d, e) c1 c2 y1 y2 wr wx))
      case first =>
        go_region_held3 (fun w' => w'.cell? ⟨w.heap.size + 1, 2, none⟩ = some (.slice (some ⟨b3, o3, none⟩) k c) ∧ w'.cell? ⟨b2, o2 + j * 3 + 1, none⟩ = some (.string ⟨c1.toArray⟩) ∧ w'.cell? ⟨b2, o2 + j * 3 + 2, none⟩ = some (.string ⟨c2.toArray⟩) ∧ w'.cell? ⟨b3, o3 + j * 2, none⟩ = some (.string ⟨y1.toArray⟩) ∧ w'.cell? ⟨b3, o3 + j * 2 + 1, none⟩ = some (.string ⟨y2.toArray⟩))
          (first | exact ⟨p2, v1, v2, n0, n1⟩ | exact ⟨keepC p2, keepC v1, keepC v2, keepC n0, keepC n1⟩ | exact ⟨keepC (keepC p2), keepC (keepC v1), keepC (keepC v2), keepC (keepC n0), keepC (keepC n1)⟩ | (trace "KEEP"; trace_state; fail) | go_keep)
          (fail)
        all_goals
          go_wp2_with fail
          go_meet
          first | exact Lib.hid (twoB_fst _ _ _ _ _) | exact Lib.hid (twoB_snd _ _ _ _ _)
      case rest =>
      obtain ⟨cb, nb, hcn, hne, hcb, hnb, hC, hN, hbx⟩ := hcut.out
      injection hcn with e1 e2
      subst e1 e2
      have RX := Lib.hid (RJ.out.below hbx)
      have BX := Lib.hid hbx
      obtain ⟨⟨g0, g1⟩, _⟩ := cells2n hC
      obtain ⟨⟨g2, g3⟩, _⟩ := cells2n hN
      have HC := Lib.hid hC
      have HN1 := Lib.hid hN
      have HNE := Lib.hid (show cb ≠ nb ∧ wr.heap.size ≤ cb ∧ wr.heap.size ≤ nb from ⟨hne, hcb, hnb⟩)
      clear hcut hbx hC hN hne hcb hnb v1 v2 n0 n1 p0 p1 p2 D1 HB3 WZ q0
      go_upto_region 12 with fail
      go_cut [9] (fun t wx => Hid (t = .bool (TW j1) ∧ wx = wc))
      case first =>
        clear HAd HSm HP HLS HTS HLL HSMN hsm hsn LS
        cases htw : TW j
        · by_cases h1 : c1 = y1
          · by_cases h2 : c2 = y2
            · go_wp2_with fail
              go_meet
              exact Lib.hid ⟨by rw [TS.out, htw, h1, h2]; simp, rfl⟩
            · go_wp2_with fail
              go_meet
              exact Lib.hid ⟨by rw [TS.out, htw]; simp [h2], rfl⟩
          · go_wp2_with fail
            go_meet
            exact Lib.hid ⟨by rw [TS.out, htw]; simp [h1], rfl⟩
        · go_wp2_with fail
          go_meet
          exact Lib.hid ⟨by rw [TS.out, htw]; rfl, rfl⟩
      case rest =>
      obtain ⟨rfl, rfl⟩ := hcut.out
      clear hcut TS
      go_upto_if 73 with fail
      go_cut [9] (fun t wx => Hid (t = .bool (TW j1) ∧ ∃ p1 p2 q1 q2, stepT (c1, c2) (bh, y1, y2) = overT (p1, p2) (q1, q2) ∧ stepN sha (c1, c2) (bh, y1, y2) = overN sha (p1, p2) (q1, q2) ∧ SmN (p1, p2) ∧ SmN (q1, q2) ∧ wx.heap[cb]? = some (.cells #[.string ⟨p1.toArray⟩, .string ⟨p2.toArray⟩] 27) ∧ wx.heap[nb]? = some (.cells #[.string ⟨q1.toArray⟩, .string ⟨q2.toArray⟩] 27) ∧ Below wr.heap.size wr wx))
      case first =>
        clear HAd HSm HP HLS HTS HLL HSMN LS
        have h1 : y1.length ≤ 70 := hsn.out.1
        have h2 : y2.length = 32 := hsn.out.2
        have hsn2 : SmN (y1, y2) := ⟨show y1.length ≤ 100 by omega, show y2.length ≤ 1000 by omega⟩
        clear h1 h2
        cases bh
        · have hk := twoB_keep HNE.out.1 HN1.out (.string ⟨y1.toArray⟩) (.string ⟨y2.toArray⟩)
          obtain ⟨_, f0, f1⟩ := cells2n HC.out
          obtain ⟨_, f2, f3⟩ := cells2n HN1.out
          have hne1 := HNE.out.1
          have hne2 := Ne.symm HNE.out.1
          have x2 := (cells2n (set1n hk (.string ⟨c1.toArray⟩))).1.2
          have x3 := (cells2n (set1n hk (.string ⟨c1.toArray⟩))).2.2
          have x4 := (cells2n hk).1.1
          have x5 := (cells2n hk).2.1
          go_wp2_with fail
          go_meet
          exact Lib.hid ⟨rfl, y1, y2, c1, c2, rfl, rfl, hsn2, hsm.out, twoB_keep (fun e => HNE.out.1 e.symm) (set2n HC.out _ _) _ _, set2n hk _ _, below_set2n (below_set2n BX.out HNE.out.2.1 _ _) HNE.out.2.2 _ _⟩
        · go_wp2_with fail
          go_meet
          exact Lib.hid ⟨rfl, c1, c2, y1, y2, rfl, rfl, hsm.out, hsn2, HC.out, HN1.out, BX.out⟩
      case rest =>
      obtain ⟨rfl, r1, r2, q1, q2, hst, hsn3, hpm, hqm, hC2, hN2, hbx2⟩ := hcut.out
      have LS2 := Lib.hid (show LV j1 = LV j ++ [(overT (r1, r2) (q1, q2), txt (val r1 + val q1), sha (overT (r1, r2) (q1, q2)))] from by rw [LS.out, hst, hsn3]; rfl)
      have R2 := Lib.hid (RJ.out.below hbx2)
      have C2 := Lib.hid hC2
      have N2 := Lib.hid hN2
      clear hcut hst hsn3 hC2 hN2 hbx2 LS RJ RX HC HN1 HNE BX hsm hsn g0 g1 g2 g3
      obtain ⟨hx1, hx2⟩ := hpm
      obtain ⟨hy1, hy2⟩ := hqm
      simp only at hx1 hx2 hy1 hy2
      have HPx := Lib.hid (fun W => Print_any r1 W (by omega))
      have HPy := Lib.hid (fun W => Print_any q1 W (by omega))
      have hpx : (prt r1).length ≤ 102 := by have := prt_len r1; have := can_len r1; omega
      have hpy : (prt q1).length ≤ 102 := by have := prt_len q1; have := can_len q1; omega
      have e5 := stepT_cat (r1, r2) (q1, q2)
      have hU : (overT (r1, r2) (q1, q2)).length ≤ 5000 := by unfold overT; simp; omega
      have HA1 := Lib.hid (fun W h => HAd.out r1 q1 hx1 hy1 W h)
      unfold StrPost at HPx HPy
      simp only at e5
      generalize prt r1 = px at *
      generalize prt q1 = py at *
      generalize txt (val r1 + val q1) = sm at *
      generalize overT (r1, r2) (q1, q2) = U at *
      have HS1 := Lib.hid (fun W => HSm.out U W (by omega))
      generalize hD : sha U = D at *
      clear hD HAd HSm
      obtain ⟨z1, h1⟩ : ∃ t, ([1] : List UInt8) ++ px = t := ⟨_, rfl⟩
      obtain ⟨z2, h2⟩ : ∃ t, z1 ++ [32] = t := ⟨_, rfl⟩
      obtain ⟨z3, h3⟩ : ∃ t, z2 ++ r2 = t := ⟨_, rfl⟩
      obtain ⟨z4, h4⟩ : ∃ t, z3 ++ py = t := ⟨_, rfl⟩
      obtain ⟨z5, h5⟩ : ∃ t, z4 ++ [32] = t := ⟨_, rfl⟩
      rw [h1, h2, h3, h4, h5] at e5
      have l1 : z1.length ≤ 103 := by rw [← h1]; simp; omega
      have l2 : z2.length ≤ 104 := by rw [← h2]; simp; omega
      have l3 : z3.length ≤ 1104 := by rw [← h3]; simp; omega
      have l4 : z4.length ≤ 1206 := by rw [← h4]; simp; omega
      have l5 : z5.length ≤ 1207 := by rw [← h5]; simp; omega
      have m1 := fun W => cat_run [1] px z1 (by simp; omega) h1 W
      have m2 := fun W => cat_run z1 [32] z2 (by simp; omega) h2 W
      have m3 := fun W => cat_run z2 r2 z3 (by omega) h3 W
      have m4 := fun W => cat_run z3 py z4 (by omega) h4 W
      have m5 := fun W => cat_run z4 [32] z5 (by simp; omega) h5 W
      have m6 := fun W => cat_run z5 q2 U (by omega) e5 W
      clear h1 h2 h3 h4 h5 e5 l1 l2 l3 l4 l5 hx1 hx2 hy1 hy2 hpx hpy k1 k2 k3 k4 k5 hU
      have hcs := fun p : Bel wc => (cells2n (bkeep C2.out p.h)).1
      have hns := fun p : Bel wc => (cells2n (bkeep N2.out p.h)).1
      have hc0 := fun p => (hcs p).1
      have hc1 := fun p => (hcs p).2
      have hn0 := fun p => (hns p).1
      have hn1 := fun p => (hns p).2
      clear hcs hns
      go_upto_region 15 with fail
      refine wp_region_quiet_bel (by kernel_rfl) (by kernel_rfl) ?_
      repeat (quiet_step (first
        | (go_at_call 66; with_reducible refine Calls.bel_of (HPx.out _))
        | (go_at_call 66; with_reducible refine Calls.bel_of (HPy.out _))))
      refine wpQuiet_nil ?_
      intro wq' hw'
      obtain ⟨⟨wq, hq⟩, hw2⟩ := hw'
      have hw3 : wq' = wq := hw2
      subst hw3
      have R3 := Lib.hid (R2.out.below hq)
      obtain ⟨⟨g0, g1⟩, _⟩ := cells2n (bkeep C2.out hq)
      obtain ⟨⟨g2, g3⟩, _⟩ := cells2n (bkeep N2.out hq)
      clear hc0 hc1 hn0 hn1 hw2 hq R2 C2 N2
      go_wp2_with fail
      refine (HA1.out _ R3.out.bel).mono ?_
      rintro e w6 ⟨rfl, hb⟩
      have R4 := Lib.hid (R3.out.below hb)
      clear hb R3 g0 g1 g2 g3
      go_wp2_with fail
      refine (HS1.out _).mono ?_
      rintro e w7 ⟨rfl, hb⟩
      have R5 := Lib.hid (R4.out.below hb)
      have SV := Lib.hid (show rowV.Own (w.heap.size + 2) w7 (.slice (some ⟨b2, o2, none⟩) j1 co) (LV j) from R5.out.out)
      have SW := Lib.hid (show w.heap.size + 2 ≤ w7.heap.size from R5.out.sz)
      have SL := Lib.hid (show (LV j).length + 1 ≤ 1000000 by rw [HLL2.out, HJ1.out]; omega)
      clear hb R4
      go_wp2_with (first
        | (at_builtin; refine Row.wp_append1 rowV_ok rfl (.tmp 92) (.tmp 103) rfl (w.heap.size + 2) _ (LV j) w7 (U, sm, D) _ _ rfl rfl rfl SV.out rfl SW.out SL.out ?_; intro v8 w9 ho8 hg8 hat; have RR := Lib.hid (show ClR w (.slice (some ⟨b3, o3, none⟩) k c) (i : Int) (n : Int) (.slice (some ⟨b1, o1, none⟩) k cw) fs (LV j1) v8 w9 from by rw [LS2.out]; exact R5.out.step ho8 hg8 hat); clear ho8 hg8 hat))
      exact ⟨⟨j1, by have := HJ1.out; omega, by rw [HJ1.out]; go_num, rfl, RR⟩, by have := HJ1.out; simp [intOf]; omega⟩
    · have hjk : j = k := by omega
      subst hjk
      have hki : ¬ (j : Int) < (j : Int) := by omega
      have hv := Lib.hid (HP.out _ (TW j) wr HTK.out.symm (Row.Own.mono (by have := hR.out.out; rw [HLK.out] at this; exact this) (Nat.le_add_right _ _)) hR.out.bel)
      clear HP HLK HTK HLS HTS HLL HSMN HAd HSm L1 p0 p1 p2
      go_wp2_with fail
      exact hv.out
end Go.Proofs.YtejaehmoplohdaaGreatDoor

/- Audit: contracts of the laws' collision and refused. -/
namespace Go.Proofs.YtejaehmoplohdaaGreatDoor
open Go.RowKit Go.Maps Num

/-- two levels of which one's digest serves two texts -/
def colF (x y : Lv) : Bool := decide (x.1 ≠ y.1) && decide (x.2.2 = y.2.2)
theorem coll_zip (a b : List Lv) : collB a b = (a.zip b).any fun p => colF p.1 p.2 := rfl
theorem coll_take (a b : List Lv) (q : Nat) (h1 : q < a.length) (h2 : q < b.length) : ((a.zip b).take (q + 1)).any (fun p => colF p.1 p.2) = (((a.zip b).take q).any (fun p => colF p.1 p.2) || colF (a.getD q lv0) (b.getD q lv0)) := by
  have h : q < (a.zip b).length := by rw [List.length_zip]; omega
  rw [List.take_succ_eq_append_getElem h, List.any_append, List.getElem_zip, List.getD_eq_getElem?_getD, List.getD_eq_getElem?_getD, List.getElem?_eq_getElem h1, List.getElem?_eq_getElem h2]
  simp
theorem coll_of (a b : List Lv) (q : Nat) (h1 : q < a.length) (h2 : q < b.length) (h : colF (a.getD q lv0) (b.getD q lv0) = true) : collB a b = true := by
  have h3 := coll_take a b q h1 h2
  rw [h, Bool.or_true] at h3
  rw [coll_zip, List.any_eq_true]
  obtain ⟨x, hx, hf⟩ := List.any_eq_true.1 h3
  exact ⟨x, List.mem_of_mem_take hx, hf⟩
set_option maxRecDepth 100000 in
set_option maxHeartbeats 8000000 in
theorem collision_any (A B : Option Addr) (k c p d : Nat) (l m : List Lv) (w : World) (hl : rowV.Rds w A k c l) (hm : rowV.Rds w B p d m) (hk : k ≤ 100000) (hp : p ≤ 100000) :
    Calls Tryz.prog 51 #[.slice A k c, .slice B p d] w (BoolPost (collB l m) w) := by
  have ll := Lib.hid hl.len
  have lm := Lib.hid hm.len
  have L1 := Lib.hid hl
  have L2 := Lib.hid hm
  have HP := Lib.hid (show ∀ b W, collB l m = b → Below w.heap.size w W → BoolPost (collB l m) w (.returned (.bool b)) W from fun b W e h => ⟨by rw [e], h⟩)
  generalize BoolPost (collB l m) w = Post at *
  clear hl hm
  obtain ⟨z, hz⟩ : ∃ z, z = min k p := ⟨_, rfl⟩
  have hzk : z ≤ k := by omega
  have hzp : z ≤ p := by omega
  have hmin : min (k : Int) (p : Int) = (z : Int) := by omega
  have HZ := Lib.hid hz
  have R0 := Lib.hid (show ((l.zip m).take 0).any (fun p => colF p.1 p.2) = false ∧ Below w.heap.size w w from ⟨by simp, Below.refl _ _⟩)
  clear hz
  go_enter Tryz.func51, Tryz.ntmps51
  go_wp2_with fail
  go_loopw [11] (fun i wr => ∃ q : Nat, q ≤ z ∧ i = .int .i64 (q : Int) ∧ Hid (((l.zip m).take q).any (fun p => colF p.1 p.2) = false ∧ Below w.heap.size w wr)) (fun i _ => z - (intOf i).toNat)
  case atStart => exact ⟨0, by omega, rfl, R0⟩
  case round =>
    obtain ⟨q, hq, rfl, hR⟩ := hrel
    have HE := Lib.hid hR.out.1
    have HB := Lib.hid hR.out.2
    clear hR R0
    by_cases hlt : q < z
    · obtain ⟨b1, o1, rfl, hb1, _⟩ := L1.out.at_ (by omega)
      obtain ⟨b2, o2, rfl, hb2, _⟩ := L2.out.at_ (by omega)
      have hqk : q < k := by omega
      have hqp : q < p := by omega
      have r0 := (L1.out.below HB.out).cell rowV_ok lv0 q 0 _ hqk rfl
      have r2 := (L1.out.below HB.out).cell rowV_ok lv0 q 2 _ hqk rfl
      have s0 := (L2.out.below HB.out).cell rowV_ok lv0 q 0 _ hqp rfl
      have s2 := (L2.out.below HB.out).cell rowV_ok lv0 q 2 _ hqp rfl
      have hki : (q : Int) < (z : Int) := by omega
      have hkk : (q : Int) < (k : Int) := by omega
      have hpp : (q : Int) < (p : Int) := by omega
      have hk0 : (0 : Int) ≤ (q : Int) := by omega
      have t1 := Lib.hid (coll_take l m q (by rw [ll.out]; exact hqk) (by rw [lm.out]; exact hqp))
      have t2 := Lib.hid (coll_of l m q (by rw [ll.out]; exact hqk) (by rw [lm.out]; exact hqp))
      generalize l.getD q lv0 = x at *
      generalize m.getD q lv0 = y at *
      obtain ⟨a, ca, da⟩ := x
      obtain ⟨a', ca', da'⟩ := y
      simp only [Nat.add_zero] at r0 s0 r2 s2
      by_cases h0 : a = a'
      · have HE2 := Lib.hid (show ((l.zip m).take (q + 1)).any (fun p => colF p.1 p.2) = false by rw [t1.out, HE.out]; unfold colF; simp [h0])
        subst h0
        clear t1 t2
        go_wp2_with fail
        go_quiet (fail)
        have HB2 := Lib.hid (below_dr HB.out nq)
        go_wp2_with fail
        go_roundw
        case rel => exact ⟨q + 1, by omega, by go_num, Lib.hid ⟨HE2.out, HB2.out⟩⟩
        case measure => simp [intOf]; omega
      have e0 : (a == a') = false := beq_eq_false_iff_ne.2 h0
      have e1 : (a != a') = true := by rw [bne_iff_ne]; exact h0
      by_cases h1 : da = da'
      · have hv := Lib.hid (fun W h => HP.out true W (t2.out (by unfold colF; simp [h0, h1])) h)
        subst h1
        clear t1 t2 h0
        go_wp2_with fail
        go_quiet (fail)
        have HB2 := Lib.hid (below_dr HB.out nq)
        go_wp2_with fail
        exact hv.out _ HB2.out
      · have HE2 := Lib.hid (show ((l.zip m).take (q + 1)).any (fun p => colF p.1 p.2) = false by rw [t1.out, HE.out]; unfold colF; simp [h1])
        have e2 : (da == da') = false := beq_eq_false_iff_ne.2 h1
        clear t1 t2 h0 h1
        go_wp2_with fail
        go_quiet (fail)
        have HB2 := Lib.hid (below_dr HB.out nq)
        go_wp2_with fail
        go_roundw
        case rel => exact ⟨q + 1, by omega, by go_num, Lib.hid ⟨HE2.out, HB2.out⟩⟩
        case measure => simp [intOf]; omega
    · have hkn : q = z := by omega
      subst hkn
      have hki : ¬ (q : Int) < (q : Int) := by omega
      have e := HE.out
      rw [List.take_of_length_le (by rw [List.length_zip, ll.out, lm.out, HZ.out]; exact Nat.le_refl _), ← coll_zip] at e
      have hv := Lib.hid (fun W h => HP.out false W e h)
      clear e HE HP
      go_wp2_with fail
      exact hv.out _ HB.out
theorem alloc_five (w : World) (o0 o1 o2 o3 o4 : Obj) : (((((w.alloc o0).alloc o1).alloc o2).alloc o3).alloc o4).heap[w.heap.size]? = some o0 ∧ (((((w.alloc o0).alloc o1).alloc o2).alloc o3).alloc o4).heap[w.heap.size + 1]? = some o1 ∧ (((((w.alloc o0).alloc o1).alloc o2).alloc o3).alloc o4).heap[w.heap.size + 1 + 1]? = some o2 ∧ (((((w.alloc o0).alloc o1).alloc o2).alloc o3).alloc o4).heap[w.heap.size + 1 + 1 + 1]? = some o3 ∧ (((((w.alloc o0).alloc o1).alloc o2).alloc o3).alloc o4).heap[w.heap.size + 1 + 1 + 1 + 1]? = some o4 := by
  have h1 := heap_alloc_new (w.alloc o0) o1
  have h2 := heap_alloc_new ((w.alloc o0).alloc o1) o2
  have h3 := heap_alloc_new (((w.alloc o0).alloc o1).alloc o2) o3
  have h4 := heap_alloc_new ((((w.alloc o0).alloc o1).alloc o2).alloc o3) o4
  simp only [World.size_alloc] at h1 h2 h3 h4
  refine ⟨?_, ?_, ?_, ?_, h4⟩
  · rw [heap_alloc_old _ _ (by simp <;> omega), heap_alloc_old _ _ (by simp <;> omega), heap_alloc_old _ _ (by simp <;> omega), heap_alloc_old _ _ (by simp)]; exact heap_alloc_new w o0
  · rw [heap_alloc_old _ _ (by simp <;> omega), heap_alloc_old _ _ (by simp <;> omega), heap_alloc_old _ _ (by simp)]; exact h1
  · rw [heap_alloc_old _ _ (by simp <;> omega), heap_alloc_old _ _ (by simp)]; exact h2
  · rw [heap_alloc_old _ _ (by simp)]; exact h3
theorem below_five (w : World) (o0 o1 o2 o3 o4 : Obj) : Below w.heap.size w (((((w.alloc o0).alloc o1).alloc o2).alloc o3).alloc o4) :=
  (((((Below.refl _ w).alloc (Nat.le_refl _) _).alloc (by simp) _).alloc (by simp; omega) _).alloc (by simp; omega) _).alloc (by simp; omega) _
set_option maxRecDepth 100000 in
set_option maxHeartbeats 8000000 in
theorem refused_any (r1 r2 a cu m a' cu' m' : List UInt8) (i1 n1 i n : Nat) (A B : Option Addr) (k c p d : Nat) (hs ns : List Nd) (w : World) (hr : r1.length ≤ 100) (ho : okB (a, cu, m)) (hso : SmB (a, cu, m)) (hA : rowNd.Rds w A k c hs) (hk : (wayN i1 n1).length = k) (hh : ∀ x ∈ hs, x.1.length ≤ 70 ∧ x.2.length = 32) (hn1 : n1 ≤ 1024) (hi1 : i1 ≤ 1024)
    (hsb : SmB (a', cu', m')) (hB : rowNd.Rds w B p d ns) (hns : ∀ x ∈ ns, x.1.length ≤ 70) (hp : p ≤ 10000) (hi : i ≤ 100000) (hn : n ≤ 100000) (h0 : verI sha (r1, r2) (a', cu', m') i n ns = 0 → okB (a', cu', m') ∧ (wayN i n).length = p ∧ (∀ x ∈ ns, x.2.length = 32) ∧ n ≤ 1024 ∧ i ≤ 1024) (ht : Tab w) (hM : ML w) :
    Calls Tryz.prog 24 #[.agg #[.string ⟨r1.toArray⟩, .string ⟨r2.toArray⟩], .agg #[.string ⟨a.toArray⟩, .string ⟨cu.toArray⟩, .string ⟨m.toArray⟩], .agg #[.int .i64 (i1 : Int), .int .i64 (n1 : Int), .slice A k c], .agg #[.string ⟨a'.toArray⟩, .string ⟨cu'.toArray⟩, .string ⟨m'.toArray⟩], .agg #[.int .i64 (i : Int), .int .i64 (n : Int), .slice B p d]] w
      (BoolPost (refB sha (r1, r2) (a, cu, m) i1 n1 hs (a', cu', m') i n ns) w) := by
  have HV := Lib.hid (fun W (h : Below w.heap.size w W) => Verify_any r1 r2 a' cu' m' (i : Int) (n : Int) B p d ns W hr hsb (hB.below h) hns (by omega) (by omega) (by omega) (by omega) (by omega) (ht.below h) (hM.below h))
  have HC1 := Lib.hid (fun W (h : Below w.heap.size w W) => climb_any a cu m i1 n1 A k c hs W ho hso (hA.below h) hk hh hn1 hi1 (ht.below h))
  have HC2 := Lib.hid (fun (h1 : okB (a', cu', m') ∧ (wayN i n).length = p ∧ (∀ x ∈ ns, x.2.length = 32) ∧ n ≤ 1024 ∧ i ≤ 1024) W (h : Below w.heap.size w W) => climb_any a' cu' m' i n B p d ns W h1.1 hsb (hB.below h) h1.2.1 (fun x hx => ⟨hns x hx, h1.2.2.1 x hx⟩) h1.2.2.2.1 h1.2.2.2.2 (ht.below h))
  have HL := Lib.hid (show (levels sha (a, cu, m) ((wayN i1 n1).reverse.zip hs)).length ≤ 100000 ∧ (levels sha (a', cu', m') ((wayN i n).reverse.zip ns)).length ≤ 100000 from by
    rw [levels_len, levels_len, List.length_zip, List.length_zip, hA.len, hB.len]
    have := way_len i1 n1
    rw [hk] at this
    omega)
  have HP := Lib.hid (show ∀ b W, refB sha (r1, r2) (a, cu, m) i1 n1 hs (a', cu', m') i n ns = b → Below w.heap.size w W → BoolPost (refB sha (r1, r2) (a, cu, m) i1 n1 hs (a', cu', m') i n ns) w (.returned (.bool b)) W from fun b W e h => ⟨by rw [e], h⟩)
  generalize BoolPost (refB sha (r1, r2) (a, cu, m) i1 n1 hs (a', cu', m') i n ns) w = Post at *
  unfold refB at HP
  obtain ⟨V, hV⟩ : ∃ V, verI sha (r1, r2) (a', cu', m') i n ns = V := ⟨_, rfl⟩
  rw [hV] at HV HP h0
  obtain ⟨TW, hTW⟩ : ∃ T, twinN sha (leafN sha (a, cu, m)) ((wayN i1 n1).reverse.zip hs) = T := ⟨_, rfl⟩
  obtain ⟨LA, hLA⟩ : ∃ T, levels sha (a, cu, m) ((wayN i1 n1).reverse.zip hs) = T := ⟨_, rfl⟩
  obtain ⟨LB, hLB⟩ : ∃ T, levels sha (a', cu', m') ((wayN i n).reverse.zip ns) = T := ⟨_, rfl⟩
  unfold ClP at HC1 HC2
  rw [hTW, hLA] at HP HC1
  rw [hLA, hLB] at HL
  rw [hLB] at HP HC2
  unfold IntPost at HV
  obtain ⟨y0, y1, y2, y3, y4⟩ := alloc_five w (.cells #[.string ⟨r1.toArray⟩, .string ⟨r2.toArray⟩] 27) (.cells #[.string ⟨a.toArray⟩, .string ⟨cu.toArray⟩, .string ⟨m.toArray⟩] 38) (.cells #[.int .i64 (i1 : Int), .int .i64 (n1 : Int), .slice A k c] 33) (.cells #[.string ⟨a'.toArray⟩, .string ⟨cu'.toArray⟩, .string ⟨m'.toArray⟩] 38) (.cells #[.int .i64 (i : Int), .int .i64 (n : Int), .slice B p d] 33)
  have B0 := Lib.hid (below_five w (.cells #[.string ⟨r1.toArray⟩, .string ⟨r2.toArray⟩] 27) (.cells #[.string ⟨a.toArray⟩, .string ⟨cu.toArray⟩, .string ⟨m.toArray⟩] 38) (.cells #[.int .i64 (i1 : Int), .int .i64 (n1 : Int), .slice A k c] 33) (.cells #[.string ⟨a'.toArray⟩, .string ⟨cu'.toArray⟩, .string ⟨m'.toArray⟩] 38) (.cells #[.int .i64 (i : Int), .int .i64 (n : Int), .slice B p d] 33))
  obtain ⟨⟨c0, c1⟩, _⟩ := cells2n y0
  obtain ⟨⟨f0, f1, f2⟩, _⟩ := cells3 y3
  obtain ⟨⟨g0, g1, g2⟩, _⟩ := cells3 y4
  have Y1 := Lib.hid y1
  have Y2 := Lib.hid y2
  have Y3 := Lib.hid y3
  have Y4 := Lib.hid y4
  clear y0 y1 y2 y3 y4 hA hB hr ho hso hk hh hsb hns hp hi hn ht hM hTW hLA hLB
  go_enter Tryz.func24, Tryz.ntmps24
  go_upto_region 1 with fail
  generalize ((((w.alloc (.cells #[.string ⟨r1.toArray⟩, .string ⟨r2.toArray⟩] 27)).alloc (.cells #[.string ⟨a.toArray⟩, .string ⟨cu.toArray⟩, .string ⟨m.toArray⟩] 38)).alloc (.cells #[.int .i64 (i1 : Int), .int .i64 (n1 : Int), .slice A k c] 33)).alloc (.cells #[.string ⟨a'.toArray⟩, .string ⟨cu'.toArray⟩, .string ⟨m'.toArray⟩] 38)).alloc (.cells #[.int .i64 (i : Int), .int .i64 (n : Int), .slice B p d] 33) = w1 at *
  go_wp2_with fail
  refine (HV.out _ B0.out).mono ?_
  rintro e w2 ⟨rfl, hb⟩
  have B2 := Lib.hid (below_next B0.out hb ⟨rfl, rfl, rfl, rfl⟩)
  have Z1 := Lib.hid (bkeep Y1.out hb)
  have Z2 := Lib.hid (bkeep Y2.out hb)
  have Z3 := Lib.hid (bkeep Y3.out hb)
  have Z4 := Lib.hid (bkeep Y4.out hb)
  clear hb c0 c1 f0 f1 f2 g0 g1 g2 Y1 Y2 Y3 Y4 B0 HV
  by_cases v20 : V = 20
  · subst v20
    have hv := Lib.hid (fun W h => HP.out true W rfl h)
    clear HP HC1 HC2 h0
    go_wp2_with fail
    exact hv.out _ B2.out
  by_cases v9 : V = 9
  · subst v9
    have hv := Lib.hid (fun W h => HP.out true W rfl h)
    clear HP HC1 HC2 h0
    go_wp2_with fail
    exact hv.out _ B2.out
  by_cases v0 : V = 0
  case neg =>
    have hv := Lib.hid (fun W h => HP.out false W (by rw [if_pos v0, decide_eq_false v20, decide_eq_false v9]; rfl) h)
    have e1 : (V != 0) = true := by rw [bne_iff_ne]; exact v0
    have e2 : (V == 20) = false := beq_eq_false_iff_ne.2 v20
    have e3 : (V == 9) = false := beq_eq_false_iff_ne.2 v9
    clear HP HC1 HC2 h0
    go_wp2_with fail
    exact hv.out _ B2.out
  subst v0
  have HC3 := Lib.hid (fun W h => HC2.out (h0 rfl) W h)
  rw [if_neg (by decide)] at HP
  clear h0 hV v20 v9 HC2
  obtain ⟨⟨c0, c1, c2⟩, _⟩ := cells3 Z1.out
  obtain ⟨⟨d0, d1, d2⟩, _⟩ := cells3 Z2.out
  go_wp2_with fail
  refine (HC1.out _ B2.out).mono ?_
  rintro e w3 ⟨v1, rfl, ho1, hb⟩
  have B3 := Lib.hid (below_next B2.out hb ⟨rfl, rfl, rfl, rfl⟩)
  obtain ⟨⟨f0, f1, f2⟩, _⟩ := cells3 (bkeep Z3.out hb)
  obtain ⟨⟨g0, g1, g2⟩, _⟩ := cells3 (bkeep Z4.out hb)
  have O1 := Lib.hid ho1
  clear hb c0 c1 c2 d0 d1 d2 Z1 Z2 Z3 Z4 B2 HC1 ho1
  go_wp2_with fail
  refine (HC3.out _ B3.out).mono ?_
  rintro e w4 ⟨v2, rfl, ho2, hb⟩
  have B4 := Lib.hid (below_next B3.out hb ⟨rfl, rfl, rfl, rfl⟩)
  obtain ⟨A1, q1, rfl, hr1⟩ := (O1.out.below hb).rds
  obtain ⟨A2, q2, rfl, hr2⟩ := ho2.rds
  have R1 := Lib.hid hr1
  have R2 := Lib.hid hr2
  clear hb f0 f1 f2 g0 g1 g2 B3 HC3 ho2 O1 hr1 hr2
  cases TW
  case true =>
    have hv := Lib.hid (fun W h => HP.out true W rfl h)
    clear HP
    go_wp2_with fail
    exact hv.out _ B4.out
  have HC := Lib.hid (collision_any A1 A2 LA.length q1 LB.length q2 LA LB w4 R1.out R2.out HL.out.1 (by have := HL.out.2; omega))
  have hv := Lib.hid (fun W h => HP.out (collB LA LB) W rfl h)
  unfold BoolPost at HC
  clear HP
  go_wp2_with fail
  refine HC.out.mono ?_
  rintro e w5 ⟨rfl, hb⟩
  have B5 := Lib.hid (below_next B4.out hb ⟨rfl, rfl, rfl, rfl⟩)
  clear hb
  go_wp2_with fail
  exact hv.out _ B5.out
end Go.Proofs.YtejaehmoplohdaaGreatDoor

/- Contract of integer.Sub. -/
namespace Go.Proofs.YtejaehmoplohdaaGreatDoor
open Go.RowKit Num
theorem sv_not' (b : Bool) (ms : List Nat) : sv (!b) ms = - sv b ms := by cases b <;> simp [sv]
set_option maxRecDepth 100000 in
set_option maxHeartbeats 2000000 in
theorem Sub_any (a b : ByteArray) (w : World) (ha : a.size ≤ 120) (hb : b.size ≤ 120) (ht : Tab w) :
    Calls Tryz.prog 26 #[.string a, .string b] w (StrPost (txt (val a.data.toList - val b.data.toList)) w) := by
  have h1 := fun W => read_any a W ha
  have h2 := fun W => read_any b W hb
  have e1 := Lib.hid (val_sv a.data.toList)
  have e2 := Lib.hid (val_sv b.data.toList)
  have t1 := Lib.hid (grp_topOk a.data.toList)
  have t2 := Lib.hid (grp_topOk b.data.toList)
  unfold ReadPost at h1 h2
  generalize neg a.data.toList = na at *
  generalize neg b.data.toList = nb at *
  generalize grp (dgs a.data.toList) = ga at *
  generalize grp (dgs b.data.toList) = gb at *
  have H1 := Lib.hid h1
  have H2 := Lib.hid h2
  clear h1 h2
  go_enter Tryz.func26, Tryz.ntmps26
  go_wp2_with fail
  refine (H2.out _).mono ?_
  rintro e w2 ⟨B, p, d, rfl, hp, hm, hz, hb2⟩
  have M2 := Lib.hid hm
  have Z2 := Lib.hid hz
  have B2 := Lib.hid hb2
  clear hm hz hb2
  go_wp2_with fail
  have x0 : (w2.alloc (.cells #[.bool !nb, .slice B p d] 73)).cell? ⟨w2.heap.size, 0, none⟩ = some (.bool !nb) := by go_simp
  have x1 : (w2.alloc (.cells #[.bool !nb, .slice B p d] 73)).cell? ⟨w2.heap.size, 1, none⟩ = some (.slice B p d) := by go_simp
  have hbw : Below w2.heap.size w2 (w2.alloc (.cells #[.bool !nb, .slice B p d] 73)) := (Below.refl _ _).alloc (Nat.le_refl _) _
  have M2' := Lib.hid (M2.out.below hbw)
  have BW := Lib.hid (B2.out.trans (hbw.mono B2.out.size))
  clear hbw
  generalize (w2.alloc (.cells #[.bool !nb, .slice B p d] 73)) = W at *
  have l0 := block_lt_of_cell x0
  have HX := Lib.hid (And.intro x0 x1)
  have HB := Lib.hid (Below.refl W.heap.size W)
  have HT := Lib.hid ht
  clear ht
  go_region_held3 (fun w' => w'.cell? ⟨w2.heap.size, 0, none⟩ = some (.bool !nb) ∧ w'.cell? ⟨w2.heap.size, 1, none⟩ = some (.slice B p d))
    (first | exact ⟨d0, d1⟩ | go_keep)
    (first
      | (go_at_call 48; refine (H1.out _).mono ?_; rintro e w5 ⟨A, n, c, rfl, hn, hm, hz, hb5⟩; have HB := Lib.hid (below_next HB.out hb5 ⟨rfl, rfl, rfl, rfl⟩); have M1 := Lib.hid hm; have Z1 := Lib.hid hz; have M3 := Lib.hid (M2'.out.below HB.out); have d0 := (HB.out.cell l0).trans HX.out.1; have d1 := (HB.out.cell (p := ⟨w2.heap.size, 1, none⟩) l0).trans HX.out.2; clear hm hz hb5)
      | (go_at_call 53; refine (add_any na (!nb) A B n c p d ga gb _ M1.out M3.out t1.out t2.out Z1.out Z2.out (by omega) (by omega)).mono ?_; rintro e w6 ⟨v, ng, G, k, cc, os, rfl, ⟨rfl, hm, hk, hv⟩, hb6⟩; have M5 := Lib.hid hm; have V3 := Lib.hid hv; have HB := Lib.hid (below_next HB.out hb6 ⟨rfl, rfl, rfl, rfl⟩); have d0 := (HB.out.cell l0).trans HX.out.1; have d1 := (HB.out.cell (p := ⟨w2.heap.size, 1, none⟩) l0).trans HX.out.2; clear hm hv hb6)
      | (go_at_call 49; refine (text_any ng G k cc os _ M5.out (HT.out.below (BW.out.trans (HB.out.mono BW.out.size))) (by omega)).mono ?_; rintro e w7 ⟨rfl, hb7⟩; have HB := Lib.hid (below_next HB.out hb7 ⟨rfl, rfl, rfl, rfl⟩); have d0 := (HB.out.cell l0).trans HX.out.1; have d1 := (HB.out.cell (p := ⟨w2.heap.size, 1, none⟩) l0).trans HX.out.2; clear hb7))
  go_wp2_with fail
  go_ret
  refine ⟨?_, BW.out.trans (HB.out.mono BW.out.size)⟩
  rw [e1.out, e2.out, Int.sub_eq_add_neg, ← sv_not', ← V3.out]
  rfl
end Go.Proofs.YtejaehmoplohdaaGreatDoor

/- A string's bytes: one of them greater by one. -/
namespace Go.Proofs.YtejaehmoplohdaaGreatDoor
open Go.RowKit Go.Maps Num

theorem setX_cells {B : Nat} {W : World} {g cap : Nat} {L : List UInt8} (h : Sha.OwnXAt B W g cap (L.map fun b => (b.toNat : Int))) (q : Nat) (hq : q < L.length) (y : Int) (j : Nat) (hj : j < L.length) :
    (W.setCell ⟨g, q, none⟩ (.int .u8 y)).cell? ⟨g, j, none⟩ = some (.int .u8 (((L.map fun b => (b.toNat : Int)).set q y).getD j 0)) := by
  by_cases e : q = j
  · subst e
    have h1 := (h.free q (by have := h.le; rw [List.length_map] at this; omega)).1
    obtain ⟨u, hu⟩ := Option.isSome_iff_exists.1 h1
    rw [World.cell?_setCell_same _ _ _ hu, List.getD_eq_getElem?_getD, List.getElem?_set_self (by simpa using hq)]
    rfl
  · rw [World.cell?_setCell_other _ _ _ _ (fun e2 => e (congrArg Addr.off e2)), h.cells j (by simpa using hj), List.getD_eq_getElem?_getD, List.getD_eq_getElem?_getD, List.getElem?_set_ne e]
theorem bump_bytes {B : Nat} {W : World} {g cap : Nat} {L : List UInt8} (h : Sha.OwnXAt B W g cap (L.map fun b => (b.toNat : Int))) (q : Nat) (hq : q < L.length) (y : Int) :
    (convert 50 9 (.slice (some ⟨g, 0, none⟩) L.length cap)).run Tryz.prog (W.setCell ⟨g, q, none⟩ (.int .u8 y)) = .ok (.string ⟨(L.set q (UInt8.ofNat y.toNat)).toArray⟩) (W.setCell ⟨g, q, none⟩ (.int .u8 y)) := by
  have := run_convert_bytes_arg (P := Tryz.prog) (W.setCell ⟨g, q, none⟩ (.int .u8 y)) 50 5 Tryz.underlying50 Tryz.underlying5 g 0 L.length cap ((L.map fun b => (b.toNat : Int)).set q y) (by simp) (fun j hj => by rw [Nat.zero_add]; exact setX_cells h q hq y j hj) 9 Tryz.underlying9
  have he : strOfNums ((L.map fun b => (b.toNat : Int)).set q y) = ⟨(L.set q (UInt8.ofNat y.toNat)).toArray⟩ := by
    unfold strOfNums
    rw [List.map_set, List.map_map, show ((fun n : Int => UInt8.ofNat n.toNat) ∘ fun b : UInt8 => (b.toNat : Int)) = id from by funext b; simp, List.map_id]
  rw [this, he]
theorem set_ne_bump (L : List UInt8) (q : Nat) (hq : q < L.length) : L ≠ L.set q (UInt8.ofNat ((((L.getD q 0).toNat : Int) + 1) % 256).toNat) := fun e => by
  have h1 : L[q]? = (L.set q (UInt8.ofNat ((((L.getD q 0).toNat : Int) + 1) % 256).toNat))[q]? := by rw [← e]
  rw [List.getElem?_set_self hq, List.getElem?_eq_getElem hq, List.getD_eq_getElem?_getD, List.getElem?_eq_getElem hq] at h1
  have h2 := congrArg UInt8.toNat (Option.some.inj h1)
  simp only [Option.getD_some] at h2
  have h3 := (L[q]).toNat_lt
  rw [UInt8.toNat_ofNat'] at h2
  generalize (L[q]).toNat = z at *
  omega
end Go.Proofs.YtejaehmoplohdaaGreatDoor

/- AuditSums: the walk. -/
namespace Go.Proofs.YtejaehmoplohdaaGreatDoor
open Go.RowKit Go.Maps Num

theorem absS_step (l : List Ln) (k : Nat) (h : k < l.length) {a cu m : List UInt8} (he : l.getD k ln0 = (a, cu, m)) : absS (l.take (k + 1)) = absS (l.take k) + ((val m).natAbs : Int) := by
  rw [take_ln l k h, absS_append, he]
  simp [absS]
theorem absS_take (l : List Ln) (h : ∀ x ∈ l, x.2.2.length ≤ 60) (hn : l.length ≤ 1000) (k : Nat) : (txt (absS (l.take k))).length ≤ 65 :=
  absS_len (fun x hx => h x (List.mem_of_mem_take hx)) (by rw [List.length_take]; omega)
theorem val_one : val [49] = 1 := by rfl
theorem bump_ne (x : Nd) (_h : validN x = true) : x ≠ bumpN x := fun e => by
  have h1 := congrArg Prod.fst e
  unfold bumpN at h1
  simp only at h1
  have h2 := congrArg val h1
  rw [val_txt] at h2
  omega
theorem txt_bump (a : List UInt8) (h : a.length ≤ 65) : (txt (val a + 1)).length ≤ 100 := by
  have h1 : (val a).natAbs < 10 ^ 65 := Nat.lt_of_lt_of_le (val_bd a) (Nat.pow_le_pow_right (by omega) h)
  have h2 : (10 : Nat) ^ 66 = 10 * 10 ^ 65 := by rw [Nat.pow_succ, Nat.mul_comm]
  have := txt_bd (v := val a + 1) (k := 66) (by rw [h2]; generalize (10 : Nat) ^ 65 = z at *; omega)
  omega
theorem set1s {W : World} {b : Nat} {x y : Value} {t : TypeId} (h : W.heap[b]? = some (.cells #[x, y] t)) (p : Value) : (W.setCell ⟨b, 1, none⟩ p).heap[b]? = some (.cells #[x, p] t) := by
  unfold World.setCell
  simp [Array.getElem?_modify, h]
theorem heap_set {W : World} {b k o : Nat} (h : b ≠ k) (x : Value) : (W.setCell ⟨b, o, none⟩ x).heap[k]? = W.heap[k]? := by
  unfold World.setCell
  simp [Array.getElem?_modify, h]
set_option maxRecDepth 100000 in
set_option maxHeartbeats 8000000 in
theorem sums_row (A : Option Addr) (n c : Nat) (l : List Ln) (d : UInt8) (w : World) (hl : rowB.Rds w A n c l) (ht : Tab w) (hM : ML w) : Calls Tryz.prog 7 #[.slice A n c, .int .u8 (d.toNat : Int)] w (BoolPost true w) := by
  have HP := Lib.hid (fun W (h : Below w.heap.size w W) => (show BoolPost true w (.returned (.bool true)) W from ⟨rfl, h⟩))
  have HW := Lib.hid (fun W (h : Below w.heap.size w W) => awake_any W (ht.below h) (hM.below h))
  have HF := Lib.hid (fine_any A n c l w hl)
  unfold BoolPost at HW HF
  generalize BoolPost true w = Post at *
  cases hf : fineB l
  case false =>
    rw [hf] at HF
    clear hl ht hM hf
    go_enter Tryz.func7, Tryz.ntmps7
    go_wp2_with fail
    refine HF.out.mono ?_
    rintro e w1 ⟨rfl, hb1⟩
    have B1 := Lib.hid hb1
    clear hb1
    go_wp2_with fail
    refine (HW.out _ B1.out).mono ?_
    rintro e w2 ⟨rfl, hb2⟩
    have B2 := Lib.hid (below_next B1.out hb2 ⟨rfl, rfl, rfl, rfl⟩)
    clear hb2
    go_wp2_with fail
    exact HP.out _ B2.out
  case true =>
  rw [hf] at HF
  obtain ⟨f1, f2, f3, f4⟩ := fineB_parts hf
  have hln := hl.len
  have hn : n ≤ 16 := by omega
  have hrl := root_len l (fun x hx => (f2 x hx).2.2) (by omega)
  have hrs := root_sum sha l
  have hrv := root_valid sha_len l
  have HR := Lib.hid (fun W (h : Below w.heap.size w W) => RootF hf (hl.below h) (ht.below h) (hM.below h))
  rcases hrt : rootN sha l with ⟨r1, r2⟩
  rw [hrt] at hrl hrs hrv HR
  simp only at hrl hrs
  have HPv := Lib.hid (fun k (hk : k < n) W (h : Below w.heap.size w W) => ProveF hf (hl.below h) (ht.below h) (hM.below h) hk)
  have HV := Lib.hid (show ∀ k, k < n → ∀ a cu m, l.getD k ln0 = (a, cu, m) → ∀ s1 s2, s1.length ≤ 100 → validN (s1, s2) = true → (r1, r2) ≠ (s1, s2) → ∀ A c W, rowNd.Rds W A (nodesN sha l k).length c (nodesN sha l k) → Below w.heap.size w W → Calls Tryz.prog 20 #[.agg #[.string ⟨s1.toArray⟩, .string ⟨s2.toArray⟩], .agg #[.string ⟨a.toArray⟩, .string ⟨cu.toArray⟩, .string ⟨m.toArray⟩], .agg #[.int .i64 (k : Int), .int .i64 (n : Int), .slice A (nodesN sha l k).length c]] W (IntPost 20 W) from fun k hk a cu m he s1 s2 hs1 hsv hne A c W h1 hb => by
    have h2 := f2 _ (lnAt_mem l k (by omega))
    rw [he] at h2
    have hw := way_len k l.length
    have hnl := nodes_len sha l k
    have := Verify_any s1 s2 a cu m (k : Int) (n : Int) A (nodesN sha l k).length c (nodesN sha l k) W hs1 h2 h1 (fun x hx => by have := (nodes_small f2 (by omega) k x hx).1; omega) (by omega) (by omega) (by omega) (by omega) (by omega) (ht.below hb) (hM.below hb)
    have hv := ver_root (D := sha) sha_len f4 (by omega) (k := k) (by omega) hsv (by rw [hrt]; exact hne)
    rw [he, hln] at hv
    rw [hv] at this
    exact this)
  have HCm := Lib.hid (show ∀ m : List UInt8, m.length ≤ 60 → ∀ W, Calls Tryz.prog 25 #[.string ⟨m.toArray⟩, .string ⟨#[]⟩] W (IntPost (cmpI (val m) 0) W) from fun m hm W => by
    have := Compare_any ⟨m.toArray⟩ ⟨#[]⟩ W (by show m.toArray.size ≤ 120; rw [List.size_toArray]; omega) (by decide)
    unfold cmpV at this
    rw [show (⟨#[]⟩ : ByteArray).data.toList = ([] : List UInt8) from rfl, val_nil] at this
    exact this)
  have HSu := Lib.hid (show ∀ x y : List UInt8, x.length ≤ 100 → y.length ≤ 100 → ∀ W, Below w.heap.size w W → Calls Tryz.prog 26 #[.string ⟨x.toArray⟩, .string ⟨y.toArray⟩] W (StrPost (txt (val x - val y)) W) from fun x y hx hy W h => Sub_any ⟨x.toArray⟩ ⟨y.toArray⟩ W (by show x.toArray.size ≤ 120; rw [List.size_toArray]; omega) (by show y.toArray.size ≤ 120; rw [List.size_toArray]; omega) (ht.below h))
  have HAd := Lib.hid (show ∀ x y : List UInt8, x.length ≤ 100 → y.length ≤ 100 → ∀ W, Below w.heap.size w W → Calls Tryz.prog 27 #[.string ⟨x.toArray⟩, .string ⟨y.toArray⟩] W (StrPost (txt (val x + val y)) W) from fun x y hx hy W h => Add_any ⟨x.toArray⟩ ⟨y.toArray⟩ W (by show x.toArray.size ≤ 120; rw [List.size_toArray]; omega) (by show y.toArray.size ≤ 120; rw [List.size_toArray]; omega) (ht.below h))
  have HT := Lib.hid (show ∀ k, (txt (absS (l.take k))).length ≤ 65 from absS_take l (fun x hx => (f2 x hx).2.2) (by omega))
  have HS := Lib.hid (show ∀ k, k < n → ∀ a cu m, l.getD k ln0 = (a, cu, m) → m.length ≤ 60 ∧ (val m < 0 → txt (absS (l.take (k + 1))) = txt (val (txt (absS (l.take k))) - val m)) ∧ (0 ≤ val m → txt (absS (l.take (k + 1))) = txt (val (txt (absS (l.take k))) + val m)) from fun k hk a cu m he => by
    have h2 := f2 _ (lnAt_mem l k (by omega))
    rw [he] at h2
    rw [absS_step l k (by omega) he, val_txt]
    exact ⟨h2.2.2, fun h => by congr 1; omega, fun h => by congr 1; omega⟩)
  have HE := Lib.hid (show txt (absS (l.take n)) = r1 by rw [List.take_of_length_le (by omega)]; exact hrs.symm)
  have H0 := Lib.hid (show txt (absS (l.take 0)) = [] by simp [absS, txt_zero])
  have L1 := Lib.hid hl
  have RV := Lib.hid hrv
  obtain ⟨hr1, hr2⟩ := hrl
  unfold NdC ndV at HR
  unfold IntPost at HV HCm
  unfold StrPost at HSu HAd
  simp only at HR
  generalize txtf : (fun k => txt (absS (l.take k))) = TF at *
  have eTF : ∀ k, txt (absS (l.take k)) = TF k := fun k => by rw [← txtf]
  simp only [eTF] at HT HS HE H0
  clear hl ht hM hf f1 f2 f3 f4 hrt hrs hrv hln txtf eTF
  go_enter Tryz.func7, Tryz.ntmps7
  go_wp2_with fail
  refine HF.out.mono ?_
  rintro e w1 ⟨rfl, hb1⟩
  have B1 := Lib.hid hb1
  clear hb1
  go_wp2_with fail
  refine (HR.out _ B1.out).mono ?_
  rintro e w2 ⟨rfl, hb2⟩
  have R0 := Lib.hid (show RtS w w2.heap.size r1 r2 (w2.alloc (.cells #[.string ⟨r1.toArray⟩, .string ⟨r2.toArray⟩] 27)) from ⟨(below_next B1.out hb2 ⟨rfl, rfl, rfl, rfl⟩).alloc (below_next B1.out hb2 ⟨rfl, rfl, rfl, rfl⟩).size _, heap_alloc_new w2 _⟩)
  clear hb2 B1 HF HR
  go_upto_region 4 with fail
  generalize w2.alloc (.cells #[.string ⟨r1.toArray⟩, .string ⟨r2.toArray⟩] 27) = w3 at *
  generalize w2.heap.size = rb at *
  go_wp2_with fail
  go_loopw [27, 7] (fun i t wr => ∃ k : Nat, k ≤ n ∧ i = .int .i64 (k : Int) ∧ t = .string ⟨(TF k).toArray⟩ ∧ Hid (RtS w rb r1 r2 wr)) (fun i _ _ => n - (intOf i).toNat)
  case atStart => exact ⟨0, by omega, rfl, by rw [H0.out], R0⟩
  case round =>
    clear R0
    obtain ⟨k, hk, rfl, rfl, hR⟩ := hrel
    by_cases hlt : k < n
    · obtain ⟨b1, o1, rfl, hb1, _⟩ := L1.out.at_ (by omega)
      have q0 := (L1.out.below hR.out.bel).cell rowB_ok ln0 k 0 _ hlt rfl
      have q1 := (L1.out.below hR.out.bel).cell rowB_ok ln0 k 1 _ hlt rfl
      have q2 := (L1.out.below hR.out.bel).cell rowB_ok ln0 k 2 _ hlt rfl
      have hki : (k : Int) < (n : Int) := by omega
      have hk0 : (0 : Int) ≤ (k : Int) := by omega
      rcases hx : l.getD k ln0 with ⟨xa, xc, xm⟩
      rw [hx] at q0 q1 q2
      simp only [Nat.add_zero] at q0 q1 q2
      obtain ⟨h1, h2, h3⟩ := HS.out k hlt xa xc xm hx
      have SM := Lib.hid (And.intro h2 h3)
      have TK := Lib.hid (HT.out k)
      have R1 := Lib.hid (hR.out.alloc (.cells #[.string ⟨xa.toArray⟩, .string ⟨xc.toArray⟩, .string ⟨xm.toArray⟩] 38))
      have X1 := Lib.hid (heap_alloc_new wr (.cells #[.string ⟨xa.toArray⟩, .string ⟨xc.toArray⟩, .string ⟨xm.toArray⟩] 38))
      have CM := Lib.hid (HCm.out xm h1)
      have AD := Lib.hid (HAd.out (TF k) xm (by have := TK.out; omega) (by omega))
      have SU := Lib.hid (HSu.out (TF k) xm (by have := TK.out; omega) (by omega))
      clear hR hx h1 h2 h3
      go_upto_region 8 with fail
      generalize wr.alloc (.cells #[.string ⟨xa.toArray⟩, .string ⟨xc.toArray⟩, .string ⟨xm.toArray⟩] 38) = w4 at *
      generalize wr.heap.size = xb at *
      obtain ⟨⟨x0, x1, x2⟩, _⟩ := cells3 X1.out
      go_wp2_with fail
      refine (CM.out _).mono ?_
      rintro e w5 ⟨rfl, hb⟩
      have R2 := Lib.hid (R1.out.below hb)
      obtain ⟨⟨x0', x1', x2'⟩, _⟩ := cells3 (bkeep X1.out hb)
      clear hb x0 x1 x2 X1 CM R1 q0 q1 q2
      unfold cmpI
      rcases Int.lt_or_le (val xm) 0 with hv | hv
      · rw [if_pos hv]
        rw [← SM.out.1 hv] at SU
        clear hv SM AD
        go_wp2_with fail
        refine (SU.out _ R2.out.bel).mono ?_
        rintro e w6 ⟨rfl, hb⟩
        have RR := Lib.hid (R2.out.below hb)
        clear hb SU
        go_wp2_with fail
        exact ⟨⟨k + 1, by omega, by go_num, rfl, RR⟩, by simp [intOf]; omega⟩
      · rw [if_neg (by omega)]
        rw [← SM.out.2 hv] at AD
        generalize hkc : (if 0 < val xm then (1 : Int) else 0) = kc
        have hk1 : ¬ kc < 0 := by rw [← hkc]; split <;> omega
        clear hkc hv SM SU
        go_wp2_with fail
        refine (AD.out _ R2.out.bel).mono ?_
        rintro e w6 ⟨rfl, hb⟩
        have RR := Lib.hid (R2.out.below hb)
        clear hb AD
        go_wp2_with fail
        exact ⟨⟨k + 1, by omega, by go_num, rfl, RR⟩, by simp [intOf]; omega⟩
    · have hkn : k = n := by omega
      subst hkn
      have hki : ¬ (k : Int) < (k : Int) := by omega
      rw [HE.out]
      have R1 := Lib.hid hR.out
      obtain ⟨⟨g0, g1⟩, _⟩ := cells2n hR.out.rt
      clear hR HS HT HE H0 HCm HSu
      by_cases hk0 : k = 0
      · subst hk0
        have hd : ((0 : Nat) : Int) = 0 := rfl
        clear HV HAd HPv
        go_wp2_with fail
        refine (HW.out _ R1.out.bel).mono ?_
        rintro e w7 ⟨rfl, hb⟩
        have RR := Lib.hid (R1.out.below hb)
        clear hb
        go_wp2_with fail
        exact HP.out _ RR.out.bel
      have hd : ((k : Int) == 0) = false := beq_eq_false_iff_ne.2 (by omega)
      obtain ⟨i, hi⟩ : ∃ i, d.toNat % k = i := ⟨_, rfl⟩
      have hlt2 : i < k := by rw [← hi]; exact Nat.mod_lt _ (by omega)
      have hdb : d.toNat < 256 := d.toNat_lt
      have hm2 : (d.toNat : Int) % (k : Int) = (i : Int) := by rw [← hi]; simp
      have PK := Lib.hid (HPv.out i hlt2)
      rcases hx : l.getD i ln0 with ⟨xa, xc, xm⟩
      have VK := Lib.hid (HV.out i hlt2 xa xc xm hx)
      have HX := Lib.hid hx
      clear HPv HV hx
      generalize nodesN sha l i = ns at *
      go_wp2_with fail
      refine (PK.out _ R1.out.bel).mono ?_
      rintro e w5 ⟨v, rfl, hov, hb⟩
      obtain ⟨Av, cv, rfl, hrd⟩ := hov.rds
      obtain ⟨nn, hnn⟩ : ∃ nn, ns.length = nn := ⟨_, rfl⟩
      simp only [hnn] at hrd VK ⊢
      have R2 := Lib.hid ((R1.out.below hb).alloc (.cells #[.int .i64 (i : Int), .int .i64 (k : Int), .slice Av nn cv] 33))
      have P2 := Lib.hid (heap_alloc_new w5 (.cells #[.int .i64 (i : Int), .int .i64 (k : Int), .slice Av nn cv] 33))
      have V2 := Lib.hid (hrd.below ((Below.refl _ w5).alloc (Nat.le_refl _) (.cells #[.int .i64 (i : Int), .int .i64 (k : Int), .slice Av nn cv] 33)))
      clear hb hov hrd R1 PK hnn g0 g1 hi hm2
      go_upto_region 18 with fail
      generalize w5.alloc (.cells #[.int .i64 (i : Int), .int .i64 (k : Int), .slice Av nn cv] 33) = w6 at *
      generalize w5.heap.size = pb at *
      obtain ⟨⟨g0, g1⟩, _⟩ := cells2n R2.out.rt
      go_cut [13, 14] (fun d e wx => Hid (TwoB (d, e) r1 r2 r1 r2 w6 wx))
      case first =>
        clear HW HAd HP VK
        go_region_held3 (fun w' => w'.cell? ⟨rb, 0, none⟩ = some (.string ⟨r1.toArray⟩) ∧ w'.cell? ⟨rb, 1, none⟩ = some (.string ⟨r2.toArray⟩))
          (first | exact ⟨g0, g1⟩ | exact ⟨keepC g0, keepC g1⟩ | exact ⟨keepC (keepC g0), keepC (keepC g1)⟩ | go_keep)
          (fail)
        all_goals
          go_wp2_with fail
          go_meet
          first | exact Lib.hid (twoB_fst _ _ _ _ _) | exact Lib.hid (twoB_snd _ _ _ _ _)
      case rest =>
      obtain ⟨cb, nb, hcn, hne, hcb, hnb, hC, hN, hbx⟩ := hcut.out
      injection hcn with e1 e2
      subst e1 e2
      have BX3 := Lib.hid hbx
      have HNE := Lib.hid (show cb ≠ nb ∧ w6.heap.size ≤ cb ∧ w6.heap.size ≤ nb from ⟨hne, hcb, hnb⟩)
      have C3 := Lib.hid hC
      have N3 := Lib.hid hN
      obtain ⟨⟨c0, c1⟩, _⟩ := cells2n hC
      clear hcut hbx hC hN hne hcb hnb g0 g1
      have AD := Lib.hid (HAd.out r1 [49] (by omega) (by decide))
      rw [val_one] at AD
      have hbv := bump_valid (x := (r1, r2)) RV.out
      have hbn := bump_ne (r1, r2) RV.out
      have hbl := txt_bump r1 hr1
      unfold bumpN at hbv hbn
      simp only at hbv hbn
      have SM := Lib.hid (And.intro hbv (And.intro hbn hbl))
      clear hbv hbn hbl
      generalize txt (val r1 + 1) = sm at *
      go_upto_region 19 with fail
      go_wp2_with fail
      refine (AD.out _ (R2.out.below BX3.out).bel).mono ?_
      rintro e w8 ⟨rfl, hb⟩
      have C4 := Lib.hid (bkeep C3.out hb)
      have N4 := Lib.hid (bkeep N3.out hb)
      have BX4 := Lib.hid (below_next BX3.out hb ⟨rfl, rfl, rfl, rfl⟩)
      obtain ⟨⟨c0', c1'⟩, f0, f1⟩ := cells2n C4.out
      clear hb BX3 C3 N3 AD c0 c1
      go_upto_region 20 with fail
      have BX5 := Lib.hid (BX4.out.setCell (p := ⟨cb, 0, none⟩) HNE.out.2.1 (.string ⟨sm.toArray⟩))
      have C5 := Lib.hid (set1n C4.out (.string ⟨sm.toArray⟩))
      have N5 := Lib.hid ((heap_set (W := w8) (o := 0) HNE.out.1 (.string ⟨sm.toArray⟩)).trans N4.out)
      clear BX4 C4 N4 c0' c1' f0 f1
      generalize w8.setCell ⟨cb, 0, none⟩ (.string ⟨sm.toArray⟩) = w9 at *
      obtain ⟨⟨g0, g1⟩, _⟩ := cells2n (R2.out.below BX5.out).rt
      have hcv := Lib.run_convert_string_bytes (P := Tryz.prog) w9 9 50 5 ⟨r2.toArray⟩ Tryz.underlying9 Tryz.underlying50 Tryz.underlying5
      obtain ⟨gb, cap, hve, hX⟩ := Sha.OwnX.of_conv w9 ⟨r2.toArray⟩ (by show r2.toArray.size ≤ maxLen; rw [List.size_toArray, hr2]; decide)
      have hbw := Joins.below_bytesWorld w9.heap.size w9 5 ⟨r2.toArray⟩ (Nat.le_refl _)
      rw [show (⟨r2.toArray⟩ : ByteArray).data.toList = r2 from rfl] at hve hX
      rw [hve, List.length_map, hr2] at hcv
      have BX6 := Lib.hid (below_next BX5.out hbw ⟨rfl, rfl, rfl, rfl⟩)
      have C6 := Lib.hid (bkeep C5.out hbw)
      have N6 := Lib.hid (bkeep N5.out hbw)
      have LG := Lib.hid (show cb ≠ gb ∧ nb ≠ gb ∧ w6.heap.size ≤ gb from by
        have h1 := (Array.getElem?_eq_some_iff.1 C5.out).1
        have h2 := (Array.getElem?_eq_some_iff.1 N5.out).1
        have h3 := hX.lo
        have h4 := HNE.out
        omega)
      generalize Lib.bytesWorld w9 5 ⟨r2.toArray⟩ = w10 at *
      obtain ⟨q, hq⟩ : ∃ q, d.toNat % 32 = q := ⟨_, rfl⟩
      have hqlt : q < 32 := by omega
      have hq2 : (d.toNat : Int) % 32 = (q : Int) := by rw [← hq]; simp
      have hc := hX.cells q (by rw [List.length_map, hr2]; exact hqlt)
      have hfr := (hX.free q (by have := hX.le; rw [List.length_map, hr2] at this; omega)).2
      have SB := Lib.hid (bump_bytes hX q (by rw [hr2]; exact hqlt) ((((r2.getD q 0).toNat : Int) + 1) % 256))
      have NE2 := Lib.hid (set_ne_bump r2 q (by rw [hr2]; exact hqlt))
      rw [show (r2.map fun b => (b.toNat : Int)).getD q 0 = (((r2.getD q 0).toNat : Nat) : Int) from by
        rw [List.getD_eq_getElem?_getD, List.getElem?_map, List.getD_eq_getElem?_getD, List.getElem?_eq_getElem (by rw [hr2]; exact hqlt)]; rfl] at hc
      have hzlt : (r2.getD q 0).toNat < 256 := (r2.getD q 0).toNat_lt
      have RVd := Lib.hid (show ((r2.set q (UInt8.ofNat ((((r2.getD q 0).toNat : Int) + 1) % 256).toNat)).length = 32) by rw [List.length_set]; exact hr2)
      generalize (r2.getD q 0).toNat = z at *
      generalize r2.set q (UInt8.ofNat (((z : Int) + 1) % 256).toNat) = e2 at *
      rw [hr2] at SB
      have HXl := Lib.hid hX
      clear hve hX hbw hq BX5 C5 N5
      go_upto_region 21 with fail
      clear hcv
      go_upto_region 22 with fail
      have BX7 := Lib.hid (BX6.out.setCell (p := ⟨gb, q, none⟩) LG.out.2.2 (.int .u8 (((z : Int) + 1) % 256)))
      have C7 := Lib.hid ((heap_set (W := w10) (o := q) (Ne.symm LG.out.1) (.int .u8 (((z : Int) + 1) % 256))).trans C6.out)
      have N7 := Lib.hid ((heap_set (W := w10) (o := q) (Ne.symm LG.out.2.1) (.int .u8 (((z : Int) + 1) % 256))).trans N6.out)
      have sb := SB.out
      clear BX6 C6 N6 SB HXl hc hfr g0 g1
      generalize w10.setCell ⟨gb, q, none⟩ (.int .u8 (((z : Int) + 1) % 256)) = w11 at *
      obtain ⟨⟨n0, n1⟩, f0, f1⟩ := cells2n N7.out
      go_upto_region 23 with fail
      have BX8 := Lib.hid (BX7.out.setCell (p := ⟨nb, 1, none⟩) HNE.out.2.2 (.string ⟨e2.toArray⟩))
      have C8 := Lib.hid ((heap_set (W := w11) (o := 1) (Ne.symm HNE.out.1) (.string ⟨e2.toArray⟩)).trans C7.out)
      have N8 := Lib.hid (set1s N7.out (.string ⟨e2.toArray⟩))
      clear BX7 C7 N7 n0 n1 f0 f1 sb
      generalize w11.setCell ⟨nb, 1, none⟩ (.string ⟨e2.toArray⟩) = w12 at *
      obtain ⟨b1, o1, hA1, hb1, _⟩ := L1.out.at_ (by omega)
      subst hA1
      have BB := Lib.hid (fun p : Bel w12 => (show Below w.heap.size w p.W ∧ rowNd.Rds p.W Av nn cv ns ∧ p.W.heap[pb]? = some (.cells #[.int .i64 (i : Int), .int .i64 (k : Int), .slice Av nn cv] 33) from
        ⟨(R2.out.below (below_next BX8.out p.h ⟨rfl, rfl, rfl, rfl⟩)).bel, V2.out.below (below_next BX8.out p.h ⟨rfl, rfl, rfl, rfl⟩), bkeep P2.out (below_next BX8.out p.h ⟨rfl, rfl, rfl, rfl⟩)⟩))
      have V5 := Lib.hid (fun p : Bel w12 => VK.out sm r2 SM.out.2.2 SM.out.1 SM.out.2.1 Av cv p.W (BB.out p).2.1 (BB.out p).1)
      have V6 := Lib.hid (fun p : Bel w12 => VK.out r1 e2 (by omega) (validN_iff.2 ⟨(validN_iff.1 RV.out).1, (validN_iff.1 RV.out).2.1, RVd.out⟩) (fun e => NE2.out (congrArg Prod.snd e)) Av cv p.W (BB.out p).2.1 (BB.out p).1)
      have W5 := Lib.hid (fun p : Bel w12 => HW.out p.W (BB.out p).1)
      have hc0 := fun p : Bel w12 => (cells2n (bkeep C8.out p.h)).1.1
      have hc1 := fun p : Bel w12 => (cells2n (bkeep C8.out p.h)).1.2
      have hn0 := fun p : Bel w12 => (cells2n (bkeep N8.out p.h)).1.1
      have hn1 := fun p : Bel w12 => (cells2n (bkeep N8.out p.h)).1.2
      have hp0 := fun p : Bel w12 => (cells3 (BB.out p).2.2).1.1
      have hp1 := fun p : Bel w12 => (cells3 (BB.out p).2.2).1.2.1
      have hp2 := fun p : Bel w12 => (cells3 (BB.out p).2.2).1.2.2
      have hq0 := fun p : Bel w12 => (L1.out.below (BB.out p).1).cell rowB_ok ln0 i 0 _ hlt2 rfl
      have hq1 := fun p : Bel w12 => (L1.out.below (BB.out p).1).cell rowB_ok ln0 i 1 _ hlt2 rfl
      have hq2x := fun p : Bel w12 => (L1.out.below (BB.out p).1).cell rowB_ok ln0 i 2 _ hlt2 rfl
      rw [HX.out] at hq0 hq1 hq2x
      simp only [Nat.add_zero] at hq0 hq1 hq2x
      have hii : (i : Int) < (k : Int) := by omega
      have hi0 : (0 : Int) ≤ (i : Int) := by omega
      clear VK HAd HW SM RV RVd NE2 HNE LG
      refine wp_region_quiet_bel (by kernel_rfl) (by kernel_rfl) ?_
      repeat (quiet_step (first
        | (go_at_call 20; with_reducible refine Calls.bel_of (V5.out _))
        | (go_at_call 20; with_reducible refine Calls.bel_of (V6.out _))
        | (go_at_call 10; with_reducible refine Calls.bel_of (W5.out _))))
      refine wpQuiet_nil ?_
      intro wq' hw'
      obtain ⟨⟨wq, hq9⟩, hw2⟩ := hw'
      have hw3 : wq' = wq := hw2
      subst hw3
      have BQ : Hid (Below w.heap.size w wq') := Lib.hid (BB.out ⟨wq', hq9⟩).1
      clear hc0 hc1 hn0 hn1 hp0 hp1 hp2 hq0 hq1 hq2x hw2
      go_wp2_with fail
      exact HP.out _ BQ.out
theorem u8_rng {a : Int} (h : (Lit.int .u8 a).wf = true) : 0 ≤ a ∧ a ≤ 255 := by
  simp only [Lit.wf, Bool.and_eq_true, decide_eq_true_eq] at h
  have h1 : IntKind.min .u8 = 0 := by decide
  have h2 : IntKind.max .u8 = 255 := by decide
  omega
/-- a byte as it came in -/
theorem u8_of {z : Int} (h : (Lit.int .u8 z).wf = true) : ∃ d : UInt8, z = (d.toNat : Int) := by
  have h2 := u8_rng h
  refine ⟨UInt8.ofNat z.toNat, ?_⟩
  rw [UInt8.toNat_ofNat']
  omega
theorem sums_int (A : Option Addr) (n c : Nat) (l : List Ln) (z : Int) (w : World) (hl : rowB.Rds w A n c l) (hz : (Lit.int .u8 z).wf = true) (ht : Tab w) (hM : ML w) : Calls Tryz.prog 7 #[.slice A n c, .int .u8 z] w (BoolPost true w) := by
  obtain ⟨d, rfl⟩ := u8_of hz
  exact sums_row A n c l d w hl ht hM
end Go.Proofs.YtejaehmoplohdaaGreatDoor
