/- AuditChanges, in plain words: where lists first differ, and where their trails do. -/
import Derived.Test.YtjcbohbpkodkoaaGreatDoorQ13
import Derived.Test.YtjcbohbpkodkoaaGreatDoorQ11
import Derived.BigQuiet
import Derived.Deep.DeepCutAuto
namespace Go.Proofs.YtjcbohbpkodkoaaGreatDoor
open Go.RowKit Go.Maps Num

/-- how many entries at the beginning are equal -/
def fstN : List Po → List Po → Nat
  | x :: r, y :: t => if x = y then fstN r t + 1 else 0
  | [], _ => 0
  | _ :: _, [] => 0
theorem fstN_nil (b : List Po) : fstN [] b = 0 := by cases b <;> rfl
theorem fstN_nil2 (a : List Po) : fstN a [] = 0 := by cases a <;> rfl
theorem fstN_le (a b : List Po) : fstN a b ≤ a.length ∧ fstN a b ≤ b.length := by
  induction a generalizing b with
  | nil => rw [fstN_nil]; exact ⟨Nat.zero_le _, Nat.zero_le _⟩
  | cons x r ih =>
    cases b with
    | nil => exact ⟨Nat.zero_le _, Nat.zero_le _⟩
    | cons y t =>
      have := ih t
      rw [fstN, List.length_cons, List.length_cons]
      split <;> omega
theorem fstN_take (a b : List Po) : a.take (fstN a b) = b.take (fstN a b) := by
  induction a generalizing b with
  | nil => rw [fstN_nil]; simp
  | cons x r ih =>
    cases b with
    | nil => rfl
    | cons y t =>
      rw [fstN]
      split
      · rename_i h; subst h; rw [List.take_succ_cons, List.take_succ_cons, ih t]
      · simp
/-- the chain's lists differ not ahead of that -/
theorem chg_skip (f : Nat) : ∀ (x y : List (List UInt8)) (k : Nat), f ≤ x.length → f ≤ y.length → x.take f = y.take f → chg x y k = chg (x.drop f) (y.drop f) (k + f) := by
  induction f with
  | zero => intro x y k _ _ _; rfl
  | succ f ih =>
    intro x y k hx hy h
    cases x with
    | nil => simp at hx
    | cons u r =>
      cases y with
      | nil => simp at hy
      | cons v t =>
        rw [List.take_succ_cons, List.take_succ_cons] at h
        injection h with h1 h2
        subst h1
        rw [chg, if_pos rfl, ih r t (k + 1) (by simpa using hx) (by simpa using hy) h2, List.drop_succ_cons, List.drop_succ_cons, show k + 1 + f = k + (f + 1) by omega]
theorem poTs_map (ps : List PE) : poTs ps = (ps.map poOf).map poT := by unfold poTs; rw [List.map_map]; rfl
theorem posL_take {k : Option Int} {l : List Po} (h : posL k l = true) (j : Nat) : posL k (l.take j) = true := by
  induction l generalizing k j with
  | nil => simp; exact h
  | cons x r ih =>
    cases j with
    | zero => rfl
    | succ j =>
      rw [posL_cons, Bool.and_eq_true_iff, Bool.and_eq_true_iff] at h
      rw [List.take_succ_cons, posL_cons, Bool.and_eq_true_iff, Bool.and_eq_true_iff]
      exact ⟨h.1, h.2.1, ih h.2.2 j⟩
theorem tra_ok {ps : List PE} (h : posL none (ps.map poOf) = true) : traL ps = chL [] (poTs ps) ∧ traI ps = 0 ∧ (traL ps).length = ps.length := by
  have e : traL ps = chL [] (poTs ps) := by unfold traL; rw [if_pos h]
  refine ⟨e, by unfold traI; rw [if_pos h], ?_⟩
  rw [e, chL_len]; unfold poTs; rw [List.length_map]
/-- the trail of the beginning is the trail's beginning -/
theorem tra_take {ps : List PE} (h : posL none (ps.map poOf) = true) (j : Nat) : traL (ps.take j) = (traL ps).take j ∧ traI (ps.take j) = 0 := by
  have h2 : posL none ((ps.take j).map poOf) = true := by rw [List.map_take]; exact posL_take h j
  refine ⟨?_, (tra_ok h2).2.1⟩
  rw [(tra_ok h2).1, (tra_ok h).1, ← chL_take]
  unfold poTs
  rw [List.map_take]
theorem tra_first {pa pb : List PE} (ha : posL none (pa.map poOf) = true) (hb : posL none (pb.map poOf) = true) :
    (traL pa).take (fstN (pa.map poOf) (pb.map poOf)) = (traL pb).take (fstN (pa.map poOf) (pb.map poOf)) := by
  rw [(tra_ok ha).1, (tra_ok hb).1, ← chL_take, ← chL_take, poTs_map, poTs_map]
  have e := fstN_take (pa.map poOf) (pb.map poOf)
  generalize pa.map poOf = A at *
  generalize pb.map poOf = B at *
  rw [← List.map_take, ← List.map_take, e]
/-- where the trails first differ; f: where the entries do -/
theorem chg_at {x y : List (List UInt8)} {f : Nat} (hx : f ≤ x.length) (hy : f ≤ y.length) (h : x.take f = y.take f) (hn : ¬ (f < x.length ∧ f < y.length ∧ x.getD f [] = y.getD f [])) :
    chg x y 0 = if f = x.length ∧ f = y.length then none else some f := by
  rw [chg_skip f x y 0 hx hy h, Nat.zero_add]
  by_cases h1 : f < x.length
  · rw [drop_str x f h1, if_neg (by omega)]
    by_cases h2 : f < y.length
    · rw [drop_str y f h2, chg, if_neg (fun e => hn ⟨h1, h2, e⟩)]
    · rw [List.drop_of_length_le (show y.length ≤ f by omega)]; rfl
  · rw [List.drop_of_length_le (show x.length ≤ f by omega)]
    by_cases h2 : f < y.length
    · rw [drop_str y f h2, if_neg (by omega)]; rfl
    · rw [List.drop_of_length_le (show y.length ≤ f by omega), if_pos (by omega)]; rfl
/-- one step of the law's loop -/
def stB (a b : List Po) (k : Nat) : Bool := decide (k < a.length) && (decide (k < b.length) && decide (a.getD k (poOf pe0) = b.getD k (poOf pe0)))
theorem drop_po (l : List Po) (k : Nat) (h : k < l.length) : l.drop k = l.getD k (poOf pe0) :: l.drop (k + 1) := by
  rw [List.drop_eq_getElem_cons h, List.getD_eq_getElem?_getD, List.getElem?_eq_getElem h]; rfl
theorem stB_yes {a b : List Po} {k : Nat} (h : stB a b k = true) (hk : fstN a b = k + fstN (a.drop k) (b.drop k)) : k < a.length ∧ k < b.length ∧ fstN a b = k + 1 + fstN (a.drop (k + 1)) (b.drop (k + 1)) := by
  unfold stB at h
  rw [Bool.and_eq_true_iff, Bool.and_eq_true_iff] at h
  have h1 := of_decide_eq_true h.1
  have h2 := of_decide_eq_true h.2.1
  have h3 := of_decide_eq_true h.2.2
  refine ⟨h1, h2, ?_⟩
  rw [hk, drop_po a k h1, drop_po b k h2, fstN, if_pos h3]
  omega
theorem stB_no {a b : List Po} {k : Nat} (h : stB a b k = false) (hk : fstN a b = k + fstN (a.drop k) (b.drop k)) : fstN a b = k := by
  rw [hk]
  by_cases h1 : k < a.length
  · by_cases h2 : k < b.length
    · have h3 : a.getD k (poOf pe0) ≠ b.getD k (poOf pe0) := by
        intro e
        unfold stB at h
        rw [decide_eq_true h1, decide_eq_true h2, decide_eq_true e] at h
        cases h
      rw [drop_po a k h1, drop_po b k h2, fstN, if_neg h3]; rfl
    · rw [List.drop_of_length_le (show b.length ≤ k by omega), fstN_nil2]; rfl
  · rw [List.drop_of_length_le (show a.length ≤ k by omega), fstN_nil]; rfl
theorem getD_po (ps : List PE) (k : Nat) (h : k < ps.length) : (ps.map poOf).getD k (poOf pe0) = poOf (ps.getD k pe0) := by
  rw [List.getD_eq_getElem?_getD, List.getD_eq_getElem?_getD, List.getElem?_map, List.getElem?_eq_getElem h]; rfl
/-- the law's comparison of two entries in a world -/
theorem sameAt {A B : Option Addr} {n c m d : Nat} {pa pb : List PE} {w W : World} {b1 o1 b2 o2 : Nat} (hl : rowPo.Rds w A n c pa) (hl2 : rowPo.Rds w B m d pb) (FA : ∀ p ∈ pa, FitP w p) (FB : ∀ p ∈ pb, FitP w p) (k : Nat) (hk1 : k < n) (hk2 : k < m)
    (_eA : A = some ⟨b1, o1, none⟩) (_eB : B = some ⟨b2, o2, none⟩) (h : Below w.heap.size w W) :
    ∃ d1 k1 b1' e1 z1 A1 n1 c1 d2 k2 b2' e2 z2 A2 n2 c2, (W.cell? ⟨b1, o1 + k * 6, none⟩ = some (.int .i64 d1) ∧ W.cell? ⟨b1, o1 + k * 6 + 1, none⟩ = some (.int .i64 k1) ∧ W.cell? ⟨b1, o1 + k * 6 + 2, none⟩ = some (.string ⟨(b1' : List UInt8).toArray⟩) ∧
      W.cell? ⟨b1, o1 + k * 6 + 3, none⟩ = some (.int .i64 e1) ∧ W.cell? ⟨b1, o1 + k * 6 + 4, none⟩ = some (.string ⟨(z1 : List UInt8).toArray⟩) ∧ W.cell? ⟨b1, o1 + k * 6 + 5, none⟩ = some (.slice A1 n1 c1)) ∧
      (W.cell? ⟨b2, o2 + k * 6, none⟩ = some (.int .i64 d2) ∧ W.cell? ⟨b2, o2 + k * 6 + 1, none⟩ = some (.int .i64 k2) ∧ W.cell? ⟨b2, o2 + k * 6 + 2, none⟩ = some (.string ⟨(b2' : List UInt8).toArray⟩) ∧
      W.cell? ⟨b2, o2 + k * 6 + 3, none⟩ = some (.int .i64 e2) ∧ W.cell? ⟨b2, o2 + k * 6 + 4, none⟩ = some (.string ⟨(z2 : List UInt8).toArray⟩) ∧ W.cell? ⟨b2, o2 + k * 6 + 5, none⟩ = some (.slice A2 n2 c2)) ∧
      ∀ U, Below W.heap.size W U → Calls Tryz.prog 15 #[.agg (poC d1 k1 b1' e1 z1 A1 n1 c1), .agg (poC d2 k2 b2' e2 z2 A2 n2 c2)] U (BoolPost (stB (pa.map poOf) (pb.map poOf) k) U) := by
  subst _eA _eB
  have q1 := rdsP_cells (hl.below h) k hk1
  have q2 := rdsP_cells (hl2.below h) k hk2
  have e1 := getD_po pa k (by rw [hl.len]; exact hk1)
  have e2 := getD_po pb k (by rw [hl2.len]; exact hk2)
  have f1 := FA _ (pe_mem pa k (by rw [hl.len]; exact hk1))
  have f2 := FB _ (pe_mem pb k (by rw [hl2.len]; exact hk2))
  have hst : stB (pa.map poOf) (pb.map poOf) k = decide (poOf (pa.getD k pe0) = poOf (pb.getD k pe0)) := by
    unfold stB
    rw [e1, e2, List.length_map, List.length_map, hl.len, hl2.len, decide_eq_true hk1, decide_eq_true hk2]; rfl
  rw [hst]
  generalize pa.getD k pe0 = p at *
  generalize pb.getD k pe0 = q at *
  obtain ⟨⟨d1, k1, y1⟩, ⟨r1, z1, A1, n1, c1⟩, ⟨s1, t1, l1⟩⟩ := p
  obtain ⟨⟨d2, k2, y2⟩, ⟨r2, z2, A2, n2, c2⟩, ⟨s2, t2, l2⟩⟩ := q
  obtain ⟨⟨g1, g2, g3⟩, _⟩ := f1
  obtain ⟨⟨g4, g5, g6⟩, _⟩ := f2
  simp only [rawA, rawN, rawC] at g1 g2 g3 g4 g5 g6
  subst g1 g2 g4 g5
  refine ⟨d1, k1, y1, r1, z1, A1, n1, c1, d2, k2, y2, r2, z2, A2, n2, c2, q1, q2, fun U hU => ?_⟩
  exact rsameP_any d1 k1 y1 r1 z1 A1 n1 c1 l1 d2 k2 y2 r2 z2 A2 n2 c2 l2 U (g3.below (below_next h hU ⟨rfl, rfl, rfl, rfl⟩)) (g6.below (below_next h hU ⟨rfl, rfl, rfl, rfl⟩))
end Go.Proofs.YtjcbohbpkodkoaaGreatDoor

/- AuditChanges: the walk. -/
namespace Go.Proofs.YtjcbohbpkodkoaaGreatDoor
open Go.RowKit Go.Maps Num

theorem u8c_of {z : Int} (h : (Lit.int .u8 z).wf = true) : ∃ d : UInt8, z = (d.toNat : Int) := by
  simp only [Lit.wf, Bool.and_eq_true, decide_eq_true_eq] at h
  have h1 : IntKind.min .u8 = 0 := by decide
  have h2 : IntKind.max .u8 = 255 := by decide
  refine ⟨UInt8.ofNat z.toNat, ?_⟩
  rw [UInt8.toNat_ofNat']
  omega
theorem wfP_fit {w : World} {p : PE} (h : WfP w p) (hf : Fit p.2.2.2.1 p.2.2.2.2 ∧ p.1.2.2.length ≤ 60) : FitP w p := ⟨h.1.fit hf.1, hf.2, hf.1, h.2.2.1, h.2.2.2⟩
theorem wfP_below {w w' : World} {p : PE} (h : WfP w p) (hb : Below w.heap.size w w') : WfP w' p := ⟨h.1.below hb, h.2⟩
/-- the reference's Check at posted entries that fit -/
theorem rcheckF {A : Option Addr} {n c : Nat} {ps : List PE} {w : World} (h : rowPo.Rds w A n c ps) (hf : ∀ p ∈ ps, FitP w p) (hn : n ≤ 16) :
    Calls Tryz.prog 14 #[.slice A n c] w (IntPost (if posL none (ps.map poOf) = true then 0 else 1) w) :=
  rcheckP_any A n c ps w h (fun p hp => ⟨(hf p hp).rd, fun x hx => ((hf p hp).fit.ln x hx).2.2⟩) (fun p hp => by have h1 := hf p hp; have := h1.by_; have := h1.fit.cause; unfold maxLen; omega) (by omega)
set_option maxRecDepth 100000 in
set_option maxHeartbeats 16000000 in
theorem changes_in (A : Option Addr) (n c : Nat) (pa : List PE) (B : Option Addr) (m d : Nat) (pb : List PE) (z : Int) (w : World)
    (hl : rowPo.Rds w A n c pa) (hr : ∀ p ∈ pa, WfP w p) (hl2 : rowPo.Rds w B m d pb) (hr2 : ∀ p ∈ pb, WfP w p) (hz : (Lit.int .u8 z).wf = true) (ht : Tab w) (hm : ML w) :
    Calls Tryz.prog 4 #[.slice A n c, .slice B m d, .int .u8 z] w (BoolPost true w) := by
  obtain ⟨dt, rfl⟩ := u8c_of hz
  have HP := Lib.hid (fun W (h : Below w.heap.size w W) => (show BoolPost true w (.returned (.bool true)) W from ⟨rfl, h⟩))
  have HW := Lib.hid (fun W (h : Below w.heap.size w W) => awake_any W (ht.below h) (hm.below h))
  have GA := Lib.hid (rgreatP_any A n c pa w hl (fun p hp => (hr p hp).1))
  have GB := Lib.hid (fun W (h : Below w.heap.size w W) => rgreatP_any B m d pb W (hl2.below h) (fun p hp => (hr2 p hp).1.below h))
  unfold BoolPost at HW GA GB
  cases hga : greatP pa
  case true =>
    rw [hga] at GA
    clear hl hr hl2 hr2 hz ht hm GB hga
    generalize BoolPost true w = Post at *
    go_enter Tryz.func4, Tryz.ntmps4
    go_wp2_with fail
    refine GA.out.mono ?_
    rintro e w2 ⟨rfl, h⟩
    have B2 := Lib.hid h
    clear h
    go_wp2_with fail
    refine (HW.out _ B2.out).mono ?_
    rintro e w3 ⟨rfl, h⟩
    have B3 := Lib.hid (below_next B2.out h ⟨rfl, rfl, rfl, rfl⟩)
    clear h
    go_wp2_with fail
    exact HP.out _ B3.out
  case false =>
  rw [hga] at GA
  cases hgb : greatP pb
  case true =>
    rw [hgb] at GB
    clear hl hr hl2 hr2 hz ht hm hga hgb
    generalize BoolPost true w = Post at *
    go_enter Tryz.func4, Tryz.ntmps4
    go_wp2_with fail
    refine GA.out.mono ?_
    rintro e w2 ⟨rfl, h⟩
    have B2 := Lib.hid h
    clear h
    go_wp2_with fail
    refine (GB.out _ B2.out).mono ?_
    rintro e w4 ⟨rfl, h⟩
    have B4 := Lib.hid (below_next B2.out h ⟨rfl, rfl, rfl, rfl⟩)
    clear h
    go_wp2_with fail
    refine (HW.out _ B4.out).mono ?_
    rintro e w3 ⟨rfl, h⟩
    have B3 := Lib.hid (below_next B4.out h ⟨rfl, rfl, rfl, rfl⟩)
    clear h
    go_wp2_with fail
    exact HP.out _ B3.out
  case false =>
  rw [hgb] at GB
  obtain ⟨hna, hfa⟩ := greatP_parts hga
  obtain ⟨hnb, hfb⟩ := greatP_parts hgb
  have hn : n ≤ 16 := by rw [← hl.len]; exact hna
  have hm6 : m ≤ 16 := by rw [← hl2.len]; exact hnb
  have FA : ∀ p ∈ pa, FitP w p := fun p hp => wfP_fit (hr p hp) (hfa p hp)
  have FB : ∀ p ∈ pb, FitP w p := fun p hp => wfP_fit (hr2 p hp) (hfb p hp)
  have CA := Lib.hid (fun W (h : Below w.heap.size w W) => rcheckF (hl.below h) (fun p hp => (FA p hp).below h) hn)
  have CB := Lib.hid (fun W (h : Below w.heap.size w W) => rcheckF (hl2.below h) (fun p hp => (FB p hp).below h) hm6)
  unfold IntPost at CA CB
  clear hga hgb hna hnb hfa hfb hr hr2 hz
  cases hpa : posL none (pa.map poOf)
  case false =>
    rw [hpa] at CA
    have CA1 := Lib.hid (fun W (h : Below w.heap.size w W) => (show Calls Tryz.prog 14 #[.slice A n c] W (fun e w' => e = .returned (.int .i64 1) ∧ Below W.heap.size W w') from CA.out W h))
    clear hl hl2 ht hm CA CB FA FB hpa hn hm6
    generalize BoolPost true w = Post at *
    go_enter Tryz.func4, Tryz.ntmps4
    go_wp2_with fail
    refine GA.out.mono ?_
    rintro e w2 ⟨rfl, h⟩
    have B2 := Lib.hid h
    clear h
    go_wp2_with fail
    refine (GB.out _ B2.out).mono ?_
    rintro e w4 ⟨rfl, h⟩
    have B4 := Lib.hid (below_next B2.out h ⟨rfl, rfl, rfl, rfl⟩)
    clear h
    go_wp2_with fail
    refine (CA1.out _ B4.out).mono ?_
    rintro e w5 ⟨rfl, h⟩
    have B5 := Lib.hid (below_next B4.out h ⟨rfl, rfl, rfl, rfl⟩)
    clear h
    go_wp2_with fail
    refine (HW.out _ B5.out).mono ?_
    rintro e w3 ⟨rfl, h⟩
    have B3 := Lib.hid (below_next B5.out h ⟨rfl, rfl, rfl, rfl⟩)
    clear h
    go_wp2_with fail
    exact HP.out _ B3.out
  case true =>
  rw [hpa] at CA
  have CA1 := Lib.hid (fun W (h : Below w.heap.size w W) => (show Calls Tryz.prog 14 #[.slice A n c] W (fun e w' => e = .returned (.int .i64 0) ∧ Below W.heap.size W w') from CA.out W h))
  clear CA
  cases hpb : posL none (pb.map poOf)
  case false =>
    rw [hpb] at CB
    have CB1 := Lib.hid (fun W (h : Below w.heap.size w W) => (show Calls Tryz.prog 14 #[.slice B m d] W (fun e w' => e = .returned (.int .i64 1) ∧ Below W.heap.size W w') from CB.out W h))
    clear hl hl2 ht hm CB FA FB hpa hpb hn hm6
    generalize BoolPost true w = Post at *
    go_enter Tryz.func4, Tryz.ntmps4
    go_wp2_with fail
    refine GA.out.mono ?_
    rintro e w2 ⟨rfl, h⟩
    have B2 := Lib.hid h
    clear h
    go_wp2_with fail
    refine (GB.out _ B2.out).mono ?_
    rintro e w4 ⟨rfl, h⟩
    have B4 := Lib.hid (below_next B2.out h ⟨rfl, rfl, rfl, rfl⟩)
    clear h
    go_wp2_with fail
    refine (CA1.out _ B4.out).mono ?_
    rintro e w5 ⟨rfl, h⟩
    have B5 := Lib.hid (below_next B4.out h ⟨rfl, rfl, rfl, rfl⟩)
    clear h
    go_wp2_with fail
    refine (CB1.out _ B5.out).mono ?_
    rintro e w6 ⟨rfl, h⟩
    have B6 := Lib.hid (below_next B5.out h ⟨rfl, rfl, rfl, rfl⟩)
    clear h
    go_wp2_with fail
    refine (HW.out _ B6.out).mono ?_
    rintro e w3 ⟨rfl, h⟩
    have B3 := Lib.hid (below_next B6.out h ⟨rfl, rfl, rfl, rfl⟩)
    clear h
    go_wp2_with fail
    exact HP.out _ B3.out
  case true =>
  rw [hpb] at CB
  have CB1 := Lib.hid (fun W (h : Below w.heap.size w W) => (show Calls Tryz.prog 14 #[.slice B m d] W (fun e w' => e = .returned (.int .i64 0) ∧ Below W.heap.size W w') from CB.out W h))
  clear CB
  obtain ⟨kq, hkq⟩ : ∃ q, dt.toNat % (n + 1) = q := ⟨_, rfl⟩
  have hkn : kq ≤ n := by have := Nat.mod_lt dt.toNat (show 0 < n + 1 by omega); omega
  have hdb : dt.toNat < 256 := dt.toNat_lt
  have hm2 : (dt.toNat : Int) % ((n : Int) + 1) = (kq : Int) := by rw [← hkq]; simp
  obtain ⟨A3, run3, h3⟩ := Row.run_upto rowPo_ok hl kq hkn
  have TA := Lib.hid (fun W (h : Below w.heap.size w W) => trail_any A n c pa W (hl.below h) (fun p hp => (FA p hp).below h) hn (ht.below h) (hm.below h))
  have TB := Lib.hid (fun W (h : Below w.heap.size w W) => trail_any B m d pb W (hl2.below h) (fun p hp => (FB p hp).below h) hm6 (ht.below h) (hm.below h))
  have TZ := Lib.hid (fun W (h : Below w.heap.size w W) => trail_any A3 kq c (pa.take kq) W (h3.below h) (fun p hp => (FA p (List.mem_of_mem_take hp)).below h) (by omega) (ht.below h) (hm.below h))
  have XF := tra_first hpa hpb
  obtain ⟨ff, hff⟩ : ∃ q, fstN (pa.map poOf) (pb.map poOf) = q := ⟨_, rfl⟩
  have hfl := fstN_le (pa.map poOf) (pb.map poOf)
  rw [hff, List.length_map, List.length_map, hl.len, hl2.len] at hfl
  rw [hff] at XF
  rw [(tra_take hpa kq).1, (tra_take hpa kq).2] at TZ
  rw [(tra_ok hpa).2.1] at TA
  rw [(tra_ok hpb).2.1] at TB
  have XL : (traL pa).length = n := by rw [(tra_ok hpa).2.2, hl.len]
  have YL : (traL pb).length = m := by rw [(tra_ok hpb).2.2, hl2.len]
  have SAME := Lib.hid (fun k (hk1 : k < n) (hk2 : k < m) b1 o1 b2 o2 (eA : A = some ⟨b1, o1, none⟩) (eB : B = some ⟨b2, o2, none⟩) W (h : Below w.heap.size w W) => sameAt hl hl2 FA FB k hk1 hk2 eA eB h)
  have LN := Lib.hid (show (pa.map poOf).length = n ∧ (pb.map poOf).length = m by rw [List.length_map, List.length_map]; exact ⟨hl.len, hl2.len⟩)
  have L1 := Lib.hid hl
  have L2 := Lib.hid hl2
  clear hl hl2 ht hm FA FB hpa hpb h3 hkq
  generalize traL pa = X at *
  generalize traL pb = Y at *
  generalize hPA : pa.map poOf = PA at *
  generalize hPB : pb.map poOf = PB at *
  have ZL : (X.take kq).length = kq := by rw [List.length_take]; omega
  have HXL := Lib.hid XL
  have HYL := Lib.hid YL
  have HZL := Lib.hid ZL
  unfold StrsC at TA TB TZ
  have CH := Lib.hid (fun A1 c1 A2 c2 W (r1 : rowS.Rds W A1 n c1 X) (r2 : rowS.Rds W A2 m c2 Y) => changed_any A1 A2 n c1 m c2 X Y W r1 r2 (by omega) (by omega))
  have EQ := Lib.hid (fun A1 c1 A2 c2 W (r1 : rowS.Rds W A1 kq c1 (X.take kq)) (r2 : rowS.Rds W A2 kq c2 (X.take kq)) => (show Calls Tryz.prog 13 #[.slice A1 kq c1, .slice A2 kq c2] W (fun e w' => e = .returned (.bool true) ∧ Below W.heap.size W w') by
    have h := equalS_any A1 A2 kq c1 kq c2 (X.take kq) (X.take kq) W r1 r2 (by omega) (by omega)
    rw [decide_eq_true rfl] at h; exact h))
  have CG := Lib.hid (fun (hn9 : ¬ (ff < n ∧ ff < m ∧ X.getD ff [] = Y.getD ff [])) => (show chg X Y 0 = if ff = n ∧ ff = m then none else some ff by
    have := chg_at (x := X) (y := Y) (f := ff) (by omega) (by omega) XF (by rw [XL, YL]; exact hn9)
    rw [XL, YL] at this; exact this))
  clear XF XL YL ZL
  generalize BoolPost true w = Post at *
  have hn16 := hn
  go_enter Tryz.func4, Tryz.ntmps4
  go_wp2_with fail
  refine GA.out.mono ?_
  rintro e w2 ⟨rfl, h⟩
  have B2 := Lib.hid h
  clear h
  go_wp2_with fail
  refine (GB.out _ B2.out).mono ?_
  rintro e w4 ⟨rfl, h⟩
  have B4 := Lib.hid (below_next B2.out h ⟨rfl, rfl, rfl, rfl⟩)
  clear h
  go_wp2_with fail
  refine (CA1.out _ B4.out).mono ?_
  rintro e w5 ⟨rfl, h⟩
  have B5 := Lib.hid (below_next B4.out h ⟨rfl, rfl, rfl, rfl⟩)
  clear h
  go_wp2_with fail
  refine (CB1.out _ B5.out).mono ?_
  rintro e w6 ⟨rfl, h⟩
  have B6 := Lib.hid (below_next B5.out h ⟨rfl, rfl, rfl, rfl⟩)
  clear h GA GB CA1 CB1 B2 B4 B5
  go_wp2_with fail
  refine (TA.out _ B6.out).mono ?_
  rintro e w7 ⟨v1, rfl, ho, h⟩
  obtain ⟨A1, c1, rfl, r1⟩ := ho.rds
  rw [HXL.out] at r1 ⊢
  have R1 := Lib.hid r1
  have B7 := Lib.hid (below_next B6.out h ⟨rfl, rfl, rfl, rfl⟩)
  clear h ho r1 TA B6
  go_wp2_with fail
  refine (TB.out _ B7.out).mono ?_
  rintro e w8 ⟨v2, rfl, ho, h⟩
  obtain ⟨A2, c2, rfl, r2⟩ := ho.rds
  rw [HYL.out] at r2 ⊢
  have R2 := Lib.hid r2
  have R1' := Lib.hid (R1.out.below h)
  have B8 := Lib.hid (below_next B7.out h ⟨rfl, rfl, rfl, rfl⟩)
  clear h ho r2 TB B7 R1
  go_wp2_with fail
  refine (TZ.out _ B8.out).mono ?_
  rintro e w9 ⟨v3, rfl, ho, h⟩
  obtain ⟨A4, c4, rfl, r3⟩ := ho.rds
  rw [HZL.out] at r3 ⊢
  have R3 := Lib.hid r3
  have R1 := Lib.hid (R1'.out.below h)
  have R2' := Lib.hid (R2.out.below h)
  have B9 := Lib.hid (below_next B8.out h ⟨rfl, rfl, rfl, rfl⟩)
  clear h ho r3 TZ B8 R1' R2 run3
  obtain ⟨A5, run5, h5⟩ := Row.run_upto rowS_ok R1.out kq hkn
  have H5 := Lib.hid h5
  clear h5
  go_wp2_with fail
  refine (EQ.out _ _ _ _ _ R3.out H5.out).mono ?_
  rintro e w10 ⟨rfl, h⟩
  have R1' := Lib.hid (R1.out.below h)
  have R2 := Lib.hid (R2'.out.below h)
  have B10 := Lib.hid (below_next B9.out h ⟨rfl, rfl, rfl, rfl⟩)
  clear h EQ B9 R1 R2' R3 H5 run5
  have RR0 := Lib.hid (show fstN PA PB = 0 + fstN (PA.drop 0) (PB.drop 0) by rw [List.drop_zero, List.drop_zero, Nat.zero_add])
  go_wp2_with fail
  go_loopw [14] (fun i wr => ∃ k : Nat, k ≤ n ∧ k ≤ m ∧ i = .int .i64 (k : Int) ∧ Hid (fstN PA PB = k + fstN (PA.drop k) (PB.drop k)) ∧ Hid (Below w10.heap.size w10 wr)) (fun i _ => n - (intOf i).toNat)
  case atStart => exact ⟨0, by omega, by omega, rfl, RR0, Lib.hid (Below.refl _ _)⟩
  case round =>
    obtain ⟨k, hk1, hk2, rfl, HR, HB⟩ := hrel
    clear RR0
    obtain ⟨cc, hcc⟩ : ∃ q, stB PA PB k = q := ⟨_, rfl⟩
    have HBw := Lib.hid (below_next B10.out HB.out ⟨rfl, rfl, rfl, rfl⟩)
    have hcase : (¬ k < n) ∨ (k < n ∧ ¬ k < m) ∨ (k < n ∧ k < m ∧ cc = false) ∨ (k < n ∧ k < m ∧ cc = true) := by
      cases cc <;> simp <;> omega
    go_upto_region 10 with fail
    rcases hcase with h1 | ⟨h1, h2⟩ | ⟨h1, h2, h3⟩ | ⟨h1, h2, h3⟩
    -- the first list is at its end
    have hc0 : cc = false := by rw [← hcc]; unfold stB; rw [LN.out.1, decide_eq_false h1, Bool.false_and]
    subst hc0
    have t1 : decide ((k : Int) < (n : Int)) = false := decide_eq_false (by omega)
    have t1' : decide (k < n) = false := decide_eq_false h1
    refine wp_region_quiet_bel (by kernel_rfl) (by kernel_rfl) ?_
    repeat (go_big_quiet_step (fail))
    refine wpQuiet_nil ?_
    intro wq' hw'
    obtain ⟨⟨wq, hq⟩, hw2⟩ := hw'
    have hw3 : wq' = wq := hw2
    subst hw3
    clear t1 t1' h1
    rotate_left
    -- the second list is at its end
    have hc0 : cc = false := by rw [← hcc]; unfold stB; rw [LN.out.2, decide_eq_false h2, Bool.false_and, Bool.and_false]
    subst hc0
    have t1 : decide ((k : Int) < (n : Int)) = true := decide_eq_true (by omega)
    have t1' : decide (k < n) = true := decide_eq_true h1
    have t2 : decide ((k : Int) < (m : Int)) = false := decide_eq_false (by omega)
    have t2' : decide (k < m) = false := decide_eq_false h2
    refine wp_region_quiet_bel (by kernel_rfl) (by kernel_rfl) ?_
    repeat (go_big_quiet_step (fail))
    refine wpQuiet_nil ?_
    intro wq' hw'
    obtain ⟨⟨wq, hq⟩, hw2⟩ := hw'
    have hw3 : wq' = wq := hw2
    subst hw3
    clear t1 t1' t2 t2' h1 h2
    rotate_left
    -- entries that differ
    subst h3
    have t1 : decide ((k : Int) < (n : Int)) = true := decide_eq_true (by omega)
    have t1' : decide (k < n) = true := decide_eq_true h1
    have j1 : (k : Int) < (n : Int) := by omega
    have t2 : decide ((k : Int) < (m : Int)) = true := decide_eq_true (by omega)
    have t2' : decide (k < m) = true := decide_eq_true h2
    have j2 : (k : Int) < (m : Int) := by omega
    obtain ⟨b1, o1, eA, _⟩ := L1.out.at_ (by omega)
    obtain ⟨b2, o2, eB, _⟩ := L2.out.at_ (by omega)
    obtain ⟨d1, k1, y1, r1, z1, E1, n1, c1', d2, k2, y2, r2, z2, E2, n2, c2', ⟨p0, p1, p2, p3, p4, p5⟩, ⟨q0, q1, q2, q3, q4, q5⟩, SM⟩ := SAME.out k h1 h2 b1 o1 b2 o2 eA eB wr HBw.out
    subst eA eB
    rw [hcc] at SM
    have SMp := Lib.hid (fun p : Bel wr => SM p.W p.h)
    unfold BoolPost poC at SMp
    have PPp := Lib.hid (fun p : Bel wr => bel_six p p0 p1 p2 p3 p4 p5)
    have QQp := Lib.hid (fun p : Bel wr => bel_six p q0 q1 q2 q3 q4 q5)
    have hp0 := fun p : Bel wr => (PPp.out p).1
    have hp1 := fun p : Bel wr => (PPp.out p).2.1
    have hp2 := fun p : Bel wr => (PPp.out p).2.2.1
    have hp3 := fun p : Bel wr => (PPp.out p).2.2.2.1
    have hp4 := fun p : Bel wr => (PPp.out p).2.2.2.2.1
    have hp5 := fun p : Bel wr => (PPp.out p).2.2.2.2.2
    have hq0 := fun p : Bel wr => (QQp.out p).1
    have hq1 := fun p : Bel wr => (QQp.out p).2.1
    have hq2 := fun p : Bel wr => (QQp.out p).2.2.1
    have hq3 := fun p : Bel wr => (QQp.out p).2.2.2.1
    have hq4 := fun p : Bel wr => (QQp.out p).2.2.2.2.1
    have hq5 := fun p : Bel wr => (QQp.out p).2.2.2.2.2
    clear p0 p1 p2 p3 p4 p5 q0 q1 q2 q3 q4 q5 SM
    refine wp_region_quiet_bel (by kernel_rfl) (by kernel_rfl) ?_
    repeat (go_big_quiet_step (first
      | (go_at_call 15; with_reducible refine Calls.bel_of (SMp.out _))))
    refine wpQuiet_nil ?_
    intro wq' hw'
    obtain ⟨⟨wq, hq⟩, hw2⟩ := hw'
    have hw3 : wq' = wq := hw2
    subst hw3
    clear hp0 hp1 hp2 hp3 hp4 hp5 hq0 hq1 hq2 hq3 hq4 hq5 SMp PPp QQp
    clear t1 t1' t2 t2' h1 h2 j1 j2
    rotate_left
    -- entries that are equal
    subst h3
    have t1 : decide ((k : Int) < (n : Int)) = true := decide_eq_true (by omega)
    have t1' : decide (k < n) = true := decide_eq_true h1
    have j1 : (k : Int) < (n : Int) := by omega
    have t2 : decide ((k : Int) < (m : Int)) = true := decide_eq_true (by omega)
    have t2' : decide (k < m) = true := decide_eq_true h2
    have j2 : (k : Int) < (m : Int) := by omega
    obtain ⟨b1, o1, eA, _⟩ := L1.out.at_ (by omega)
    obtain ⟨b2, o2, eB, _⟩ := L2.out.at_ (by omega)
    obtain ⟨d1, k1, y1, r1, z1, E1, n1, c1', d2, k2, y2, r2, z2, E2, n2, c2', ⟨p0, p1, p2, p3, p4, p5⟩, ⟨q0, q1, q2, q3, q4, q5⟩, SM⟩ := SAME.out k h1 h2 b1 o1 b2 o2 eA eB wr HBw.out
    subst eA eB
    rw [hcc] at SM
    have SMp := Lib.hid (fun p : Bel wr => SM p.W p.h)
    unfold BoolPost poC at SMp
    have PPp := Lib.hid (fun p : Bel wr => bel_six p p0 p1 p2 p3 p4 p5)
    have QQp := Lib.hid (fun p : Bel wr => bel_six p q0 q1 q2 q3 q4 q5)
    have hp0 := fun p : Bel wr => (PPp.out p).1
    have hp1 := fun p : Bel wr => (PPp.out p).2.1
    have hp2 := fun p : Bel wr => (PPp.out p).2.2.1
    have hp3 := fun p : Bel wr => (PPp.out p).2.2.2.1
    have hp4 := fun p : Bel wr => (PPp.out p).2.2.2.2.1
    have hp5 := fun p : Bel wr => (PPp.out p).2.2.2.2.2
    have hq0 := fun p : Bel wr => (QQp.out p).1
    have hq1 := fun p : Bel wr => (QQp.out p).2.1
    have hq2 := fun p : Bel wr => (QQp.out p).2.2.1
    have hq3 := fun p : Bel wr => (QQp.out p).2.2.2.1
    have hq4 := fun p : Bel wr => (QQp.out p).2.2.2.2.1
    have hq5 := fun p : Bel wr => (QQp.out p).2.2.2.2.2
    clear p0 p1 p2 p3 p4 p5 q0 q1 q2 q3 q4 q5 SM
    refine wp_region_quiet_bel (by kernel_rfl) (by kernel_rfl) ?_
    repeat (go_big_quiet_step (first
      | (go_at_call 15; with_reducible refine Calls.bel_of (SMp.out _))))
    refine wpQuiet_nil ?_
    intro wq' hw'
    obtain ⟨⟨wq, hq⟩, hw2⟩ := hw'
    have hw3 : wq' = wq := hw2
    subst hw3
    clear hp0 hp1 hp2 hp3 hp4 hp5 hq0 hq1 hq2 hq3 hq4 hq5 SMp PPp QQp
    obtain ⟨g1, g2, g3⟩ := stB_yes hcc HR.out
    rw [LN.out.1] at g1
    rw [LN.out.2] at g2
    have HR2 := Lib.hid g3
    have HB2 := Lib.hid (below_next HB.out hq ⟨rfl, rfl, rfl, rfl⟩)
    clear g3 hcc HR t1 t1' t2 t2' j1 j2 hq hw2
    go_wp2_with fail
    go_roundw
    case rel => exact ⟨k + 1, by omega, by omega, by go_num, HR2, HB2⟩
    case measure => simp [intOf]; omega
    all_goals
      have hfk := stB_no hcc HR.out
      rw [hff] at hfk
      subst hfk
      have BX := Lib.hid (below_next B10.out (below_next HB.out hq ⟨rfl, rfl, rfl, rfl⟩) ⟨rfl, rfl, rfl, rfl⟩)
      have RX := Lib.hid ((R1'.out.below HB.out).below hq)
      have RY := Lib.hid ((R2.out.below HB.out).below hq)
      clear hcc HR SAME hq hw2 HB HBw R1' R2 hff
      obtain ⟨cq, hcq⟩ : ∃ q, (decide (ff < n) && (decide (ff < m) && decide (X.getD ff [] = Y.getD ff []))) = q := ⟨_, rfl⟩
      go_upto_region 12 with fail
      go_cut [132] from 112 to 132 (fun t wx => Hid (t = .bool cq ∧ Below wq'.heap.size wq' wx))
      case first =>
        clear CH CG HP HW BX
        by_cases h1 : ff < n
        · have t1 : decide ((ff : Int) < (n : Int)) = true := decide_eq_true (by omega)
          have t1' : decide (ff < n) = true := decide_eq_true h1
          have j1 : (ff : Int) < (n : Int) := by omega
          by_cases h2 : ff < m
          · have t2 : decide ((ff : Int) < (m : Int)) = true := decide_eq_true (by omega)
            have t2' : decide (ff < m) = true := decide_eq_true h2
            have j2 : (ff : Int) < (m : Int) := by omega
            obtain ⟨b1, o1, rfl, hb1, _⟩ := RX.out.at_ (by omega)
            obtain ⟨b2, o2, rfl, hb2, _⟩ := RY.out.at_ (by omega)
            have p1 := rdsS RX.out ff h1
            have p2 := rdsS RY.out ff h2
            generalize X.getD ff [] = x at *
            generalize Y.getD ff [] = y at *
            have hp1 := fun p : Bel wq' => (p.h.cell (p := ⟨b1, o1 + ff, none⟩) hb1).trans p1
            have hp2 := fun p : Bel wq' => (p.h.cell (p := ⟨b2, o2 + ff, none⟩) hb2).trans p2
            have hcq2 : decide (x = y) = cq := by rw [← hcq, decide_eq_true h1, decide_eq_true h2]; rfl
            have hcq3 : (x == y) = cq := by
              rw [← hcq2]
              by_cases hxy : x = y
              · subst hxy; rw [decide_eq_true rfl]; exact beq_self_eq_true _
              · rw [decide_eq_false hxy]; exact beq_eq_false_iff_ne.2 hxy
            clear p1 p2 RX RY hcq hcq2 h1 h2 hb1 hb2
            refine wp_region_quiet_bel (by kernel_rfl) (by kernel_rfl) ?_
            repeat (go_big_quiet_step (fail))
            refine wpQuiet_nil ?_
            intro wz hwz
            obtain ⟨⟨wy, hy⟩, hw2⟩ := hwz
            have hw3 : wz = wy := hw2
            subst hw3
            clear hp1 hp2 hw2
            go_wp2_with fail
            go_meet
            exact Lib.hid ⟨rfl, hy⟩
          · have hc0 : cq = false := by rw [← hcq, decide_eq_false h2, Bool.false_and, Bool.and_false]
            subst hc0
            have t2 : decide ((ff : Int) < (m : Int)) = false := decide_eq_false (by omega)
            have t2' : decide (ff < m) = false := decide_eq_false h2
            clear RX RY hcq
            refine wp_region_quiet_bel (by kernel_rfl) (by kernel_rfl) ?_
            repeat (go_big_quiet_step (fail))
            refine wpQuiet_nil ?_
            intro wz hwz
            obtain ⟨⟨wy, hy⟩, hw2⟩ := hwz
            have hw3 : wz = wy := hw2
            subst hw3
            clear hw2
            go_wp2_with fail
            go_meet
            exact Lib.hid ⟨rfl, hy⟩
        · have hc0 : cq = false := by rw [← hcq, decide_eq_false h1, Bool.false_and]
          subst hc0
          have t1 : decide ((ff : Int) < (n : Int)) = false := decide_eq_false (by omega)
          have t1' : decide (ff < n) = false := decide_eq_false h1
          clear RX RY hcq
          refine wp_region_quiet_bel (by kernel_rfl) (by kernel_rfl) ?_
          repeat (go_big_quiet_step (fail))
          refine wpQuiet_nil ?_
          intro wz hwz
          obtain ⟨⟨wy, hy⟩, hw2⟩ := hwz
          have hw3 : wz = wy := hw2
          subst hw3
          clear hw2
          go_wp2_with fail
          go_meet
          exact Lib.hid ⟨rfl, hy⟩
      case rest =>
      obtain ⟨rfl, hbc⟩ := hcut.out
      have BC := Lib.hid (below_next BX.out hbc ⟨rfl, rfl, rfl, rfl⟩)
      have SX := Lib.hid (RX.out.below hbc)
      have SY := Lib.hid (RY.out.below hbc)
      clear hcut hbc BX RX RY
      cases cq
      case true =>
        clear CH CG hcq
        go_wp2_with fail
        refine (HW.out _ BC.out).mono ?_
        rintro e w11 ⟨rfl, h⟩
        have B11 := Lib.hid (below_next BC.out h ⟨rfl, rfl, rfl, rfl⟩)
        clear h
        go_wp2_with fail
        exact HP.out _ B11.out
      case false =>
      have hcg := CG.out (fun ⟨e1, e2, e3⟩ => by rw [decide_eq_true e1, decide_eq_true e2, decide_eq_true e3] at hcq; cases hcq)
      have CHc := CH.out _ _ _ _ _ SX.out SY.out
      rw [hcg] at CHc
      clear hcg CG CH hcq
      by_cases e1 : ff = n ∧ ff = m
      · rw [if_pos e1] at CHc
        have CH1 := Lib.hid (show Calls Tryz.prog 11 #[.slice A1 n c1, .slice A2 m c2] wc (fun e w' => e = .returned (.tuple #[.int .i64 0, .bool false]) ∧ Below wc.heap.size wc w') from CHc)
        have i1 : ((ff : Int) == (n : Int)) = true := by rw [beq_iff_eq]; omega
        have i2 : ((ff : Int) == (m : Int)) = true := by rw [beq_iff_eq]; omega
        have i1' : (ff == n) = true := by rw [beq_iff_eq]; exact e1.1
        have i2' : (ff == m) = true := by rw [beq_iff_eq]; exact e1.2
        clear CHc e1
        go_wp2_with fail
        refine CH1.out.mono ?_
        rintro e w11 ⟨rfl, h⟩
        have B11 := Lib.hid (below_next BC.out h ⟨rfl, rfl, rfl, rfl⟩)
        clear h
        go_wp2_with fail
        refine (HW.out _ B11.out).mono ?_
        rintro e w12 ⟨rfl, h⟩
        have B12 := Lib.hid (below_next B11.out h ⟨rfl, rfl, rfl, rfl⟩)
        clear h
        go_wp2_with fail
        exact HP.out _ B12.out
      · rw [if_neg e1] at CHc
        have CH1 := Lib.hid (show Calls Tryz.prog 11 #[.slice A1 n c1, .slice A2 m c2] wc (fun e w' => e = .returned (.tuple #[.int .i64 (ff : Int), .bool true]) ∧ Below wc.heap.size wc w') from CHc)
        clear CHc
        by_cases e2 : ff = n
        · have i1 : ((ff : Int) == (n : Int)) = true := by rw [beq_iff_eq]; omega
          have i2 : ((ff : Int) == (m : Int)) = false := beq_eq_false_iff_ne.2 (by omega)
          have i1' : (ff == n) = true := by rw [beq_iff_eq]; exact e2
          have i2' : (ff == m) = false := beq_eq_false_iff_ne.2 (by omega)
          clear e1 e2
          go_wp2_with fail
          refine CH1.out.mono ?_
          rintro e w11 ⟨rfl, h⟩
          have B11 := Lib.hid (below_next BC.out h ⟨rfl, rfl, rfl, rfl⟩)
          clear h
          go_wp2_with fail
          refine (HW.out _ B11.out).mono ?_
          rintro e w12 ⟨rfl, h⟩
          have B12 := Lib.hid (below_next B11.out h ⟨rfl, rfl, rfl, rfl⟩)
          clear h
          go_wp2_with fail
          exact HP.out _ B12.out
        · have i1 : ((ff : Int) == (n : Int)) = false := beq_eq_false_iff_ne.2 (by omega)
          have i1' : (ff == n) = false := beq_eq_false_iff_ne.2 e2
          clear e1 e2
          go_wp2_with fail
          refine CH1.out.mono ?_
          rintro e w11 ⟨rfl, h⟩
          have B11 := Lib.hid (below_next BC.out h ⟨rfl, rfl, rfl, rfl⟩)
          clear h
          go_wp2_with fail
          refine (HW.out _ B11.out).mono ?_
          rintro e w12 ⟨rfl, h⟩
          have B12 := Lib.hid (below_next B11.out h ⟨rfl, rfl, rfl, rfl⟩)
          clear h
          go_wp2_with fail
          exact HP.out _ B12.out
end Go.Proofs.YtjcbohbpkodkoaaGreatDoor
