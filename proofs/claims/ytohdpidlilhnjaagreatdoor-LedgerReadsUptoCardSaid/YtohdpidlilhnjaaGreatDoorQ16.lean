/- Contracts of the reference's day, entries, Of. -/
import Derived.Test.YtohdpidlilhnjaaGreatDoorQ9
import Derived.Test.YtohdpidlilhnjaaGreatDoorQ10
import Derived.Test.YtohdpidlilhnjaaGreatDoorQ15
import Derived.Test.YtohdpidlilhnjaaGreatDoorQ7
import Derived.Test.YtohdpidlilhnjaaGreatDoorQ11
namespace Go.Proofs.YtohdpidlilhnjaaGreatDoor
open Go.RowKit Go.Maps Num

set_option maxRecDepth 100000 in
theorem rday_any (d : Int) (w : World) : Calls Tryz.prog 86 #[.int .i64 d] w (RetP (.bool (valD d)) w) := by
  unfold valD
  by_cases h1 : -25567 ≤ d
  · by_cases h2 : d ≤ 84005
    · have e1 : decide (-25567 ≤ d) = true := decide_eq_true h1
      have e2 : decide (d ≤ 84005) = true := decide_eq_true h2
      rw [e1, e2]
      go_enter Tryz.func86, Tryz.ntmps86
      go_wp2_with fail
      go_ret
      exact ⟨rfl, rfl⟩
    · have e1 : decide (-25567 ≤ d) = true := decide_eq_true h1
      have e2 : decide (d ≤ 84005) = false := decide_eq_false h2
      rw [e1, e2]
      go_enter Tryz.func86, Tryz.ntmps86
      go_wp2_with fail
      go_ret
      exact ⟨rfl, rfl⟩
  · have e1 : decide (-25567 ≤ d) = false := decide_eq_false h1
    rw [e1]
    go_enter Tryz.func86, Tryz.ntmps86
    go_wp2_with fail
    go_ret
    exact ⟨rfl, rfl⟩
set_option maxRecDepth 100000 in
set_option maxHeartbeats 4000000 in
theorem rents_any (A : Option Addr) (n c : Nat) (ps : List RE) (w : World) (h : Res w A n c ps) (hn : n ≤ 1000) (hz : ∀ p ∈ ps, p.2.2.1.length ≤ maxLen ∧ ∀ y ∈ p.2.2.2, y.2.2.length ≤ 13) :
    Calls Tryz.prog 85 #[.slice A n c] w (BoolPost ((ps.map Prod.snd).all okE) w) := by
  have ll := Lib.hid h.rds.len
  have HAL := Lib.hid h.all
  have R3 := Lib.hid h.rds
  have HCK := Lib.hid (fun (p : RE) (hp : p ∈ ps) (W : World) (h : Below w.heap.size w W) => (show Calls Tryz.prog 49 #[.agg (encE p).toArray] W (IntPost (chkE p.2.1 p.2.2.1 p.2.2.2) W) by
    obtain ⟨h1, h2, h3⟩ := HAL.out p hp
    have hz := hz p hp
    obtain ⟨⟨d1, z1, A1, n1, c1⟩, e1, f1, k1⟩ := p
    simp only at h1 h2
    subst h1 h2
    exact rchkE_any d1 z1 A1 n1 c1 k1 W (h3.below h) hz.1 hz.2))
  have HP := Lib.hid (fun W b (h : (ps.map Prod.snd).all okE = b) (hb : Below w.heap.size w W) => (show BoolPost ((ps.map Prod.snd).all okE) w (.returned (.bool b)) W from ⟨by rw [h], hb⟩))
  have HOK := Lib.hid (show (ps.map Prod.snd).all okE = ps.all (fun p => okE p.2) by rw [List.all_map]; rfl)
  clear h hz
  generalize BoolPost ((ps.map Prod.snd).all okE) w = Post at *
  generalize (ps.map Prod.snd).all okE = r at *
  go_enter Tryz.func85, Tryz.ntmps85
  go_wp2_with fail
  go_loopw [3] (fun i wr => ∃ k : Nat, k ≤ n ∧ i = .int .i64 (k : Int) ∧ Hid (∀ p ∈ ps.take k, okE p.2 = true) ∧ Hid (Below w.heap.size w wr)) (fun i _ => n - (intOf i).toNat)
  case atStart => exact ⟨0, by omega, rfl, Lib.hid (by simp), Lib.hid (Below.refl _ _)⟩
  case round =>
    obtain ⟨k, hk, rfl, HE, HB⟩ := hrel
    by_cases hlt : k < n
    · have hkl : k < ps.length := by rw [ll.out]; exact hlt
      obtain ⟨b1, o1, rfl, hb1, _⟩ := R3.out.at_ (by omega)
      obtain ⟨p0, p1, p2⟩ := rds_cells3 (R3.out.below HB.out) k hlt
      have hki : (k : Int) < (n : Int) := by omega
      have hmm := re_mem ps k hkl
      have HTK := Lib.hid (take_re ps k hkl)
      have HKk := Lib.hid (HCK.out _ hmm)
      have HNO := Lib.hid (show okE (ps.getD k re0).2 = false → r = false from fun h => by
        rw [HOK.out]
        cases hq : ps.all fun p => okE p.2
        · rfl
        · have := List.all_eq_true.1 hq _ hmm
          rw [h] at this; cases this)
      clear hkl hmm
      generalize ps.getD k re0 = u at *
      obtain ⟨⟨d1, z1, A1, n1, m1⟩, ⟨d2, z2, k2⟩⟩ := u
      simp only [encE, rawA, rawN, rawC] at p0 p1 p2 HKk
      obtain ⟨ck, hck⟩ : ∃ ck, chkE d2 z2 k2 = ck := ⟨_, rfl⟩
      rw [hck] at HKk
      have HCKE := Lib.hid hck
      clear hck
      go_wp2_with fail
      refine (HKk.out _ HB.out).mono ?_
      rintro e w' ⟨rfl, hb⟩
      have HBl := Lib.hid (below_next HB.out hb ⟨rfl, rfl, rfl, rfl⟩)
      clear hb p0 p1 p2
      by_cases h0 : ck = 0
      · subst h0
        have HE2 := Lib.hid (show ∀ x ∈ ps.take (k + 1), okE x.2 = true from fun x hx => by
          rw [HTK.out] at hx
          rcases List.mem_append.1 hx with h | h
          · exact HE.out x h
          · rw [List.mem_singleton.1 h]; exact decide_eq_true HCKE.out)
        go_wp2_with fail
        go_roundw
        case rel => exact ⟨k + 1, by omega, by go_num, HE2, HBl⟩
        case measure => simp [intOf]; omega
      · have hb0 : (ck == 0) = false := beq_eq_false_iff_ne.2 h0
        have hb1 : (ck != 0) = true := by rw [bne_iff_ne]; exact h0
        have hno := Lib.hid (HNO.out (decide_eq_false (by show ¬ chkE d2 z2 k2 = 0; rw [HCKE.out]; exact h0)))
        go_wp2_with fail
        exact HP.out _ _ hno.out HBl.out
    · have hkn : k = n := by omega
      subst hkn
      have hki : ¬ (k : Int) < (k : Int) := by omega
      have hok := Lib.hid (show r = true by
        rw [HOK.out, List.all_eq_true]
        have := HE.out
        rwa [List.take_of_length_le (by rw [ll.out]; exact Nat.le_refl _)] at this)
      go_wp2_with fail
      exact HP.out _ _ hok.out HB.out
theorem balOf_at {l : List Ln} {q : Ky} {k : Nat} (h : ∀ x ∈ l.take k, key x ≠ q) (hk : k < l.length) (he : key (l.getD k ln0) = q) : balOf l q = (l.getD k ln0).2.2 := by
  have h1 : (l.take k).find? (fun b => decide (key b = q)) = none := by
    rw [List.find?_eq_none]
    intro x hx
    rw [decide_eq_true_iff]
    exact h x hx
  have h2 : l.find? (fun b => decide (key b = q)) = some (l.getD k ln0) := by
    conv => lhs; rw [← List.take_append_drop k l, drop_ln l k hk, List.find?_append, h1]
    rw [Option.none_or, List.find?_cons_of_pos]
    exact decide_eq_true he
  unfold balOf
  rw [h2]
theorem balOf_none {l : List Ln} {q : Ky} (h : ∀ x ∈ l, key x ≠ q) : balOf l q = [] := by
  have h1 : l.find? (fun b => decide (key b = q)) = none := by
    rw [List.find?_eq_none]
    intro x hx
    rw [decide_eq_true_iff]
    exact h x hx
  unfold balOf
  rw [h1]
set_option maxRecDepth 100000 in
set_option maxHeartbeats 4000000 in
theorem rOf_any (A : Option Addr) (n c : Nat) (l : List Ln) (ka kc : List UInt8) (w : World) (hl : rowB.Rds w A n c l) (hn : n ≤ 100000) :
    Calls Tryz.prog 84 #[.slice A n c, .string ⟨ka.toArray⟩, .string ⟨kc.toArray⟩] w fun e w' => e = .returned (.string ⟨(balOf l (ka, kc)).toArray⟩) ∧ Below w.heap.size w w' := by
  have ll := Lib.hid hl.len
  have L1 := Lib.hid hl
  have HP := Lib.hid (fun W s (h : balOf l (ka, kc) = s) (hb : Below w.heap.size w W) => (show (fun (e : Ending) (w' : World) => e = .returned (.string ⟨(balOf l (ka, kc)).toArray⟩) ∧ Below w.heap.size w w') (.returned (.string ⟨s.toArray⟩)) W from ⟨by rw [h], hb⟩))
  clear hl
  generalize (fun (e : Ending) (w' : World) => e = Ending.returned (.string ⟨(balOf l (ka, kc)).toArray⟩) ∧ Below w.heap.size w w') = Post at *
  go_enter Tryz.func84, Tryz.ntmps84
  go_wp2_with fail
  go_loopw [7] (fun i wr => ∃ k : Nat, k ≤ n ∧ i = .int .i64 (k : Int) ∧ Hid (∀ x ∈ l.take k, key x ≠ (ka, kc)) ∧ Hid (Below w.heap.size w wr)) (fun i _ => n - (intOf i).toNat)
  case atStart => exact ⟨0, by omega, rfl, Lib.hid (by simp), Lib.hid (Below.refl _ _)⟩
  case round =>
    obtain ⟨k, hk, rfl, HE, HB⟩ := hrel
    by_cases hlt : k < n
    · have hkl : k < l.length := by rw [ll.out]; exact hlt
      obtain ⟨b1, o1, rfl, hb1, _⟩ := L1.out.at_ (by omega)
      have p0 := (L1.out.below HB.out).cell rowB_ok ln0 k 0 _ hlt rfl
      have p1 := (L1.out.below HB.out).cell rowB_ok ln0 k 1 _ hlt rfl
      have p2 := (L1.out.below HB.out).cell rowB_ok ln0 k 2 _ hlt rfl
      have hki : (k : Int) < (n : Int) := by omega
      have HA := Lib.hid (balOf_at (q := (ka, kc)) HE.out hkl)
      have HTK := Lib.hid (take_ln l k hkl)
      clear hkl
      generalize l.getD k ln0 = y at *
      obtain ⟨ya, yc, ym⟩ := y
      simp only [Nat.add_zero] at p0 p1 p2
      have HN := Lib.hid (fun (h : ¬ (ya = ka ∧ yc = kc)) => (show ∀ x ∈ l.take (k + 1), key x ≠ (ka, kc) from fun x hx => by
        rw [HTK.out] at hx
        rcases List.mem_append.1 hx with h' | h'
        · exact HE.out x h'
        · rw [List.mem_singleton.1 h']
          exact fun e => h ⟨(Prod.mk.inj e).1, (Prod.mk.inj e).2⟩))
      by_cases h1 : ya = ka
      · subst h1
        by_cases h2 : yc = kc
        · subst h2
          have hv := Lib.hid (HA.out rfl)
          clear HA HN HTK
          go_wp2_with fail
          exact HP.out _ _ hv.out HB.out
        · have e2 : (yc == kc) = false := beq_eq_false_iff_ne.2 h2
          have hv := Lib.hid (HN.out (fun h => h2 h.2))
          clear HA HN HTK h2
          go_wp2_with fail
          go_roundw
          case rel => exact ⟨k + 1, by omega, by go_num, hv, HB⟩
          case measure => simp [intOf]; omega
      · have e1 : (ya == ka) = false := beq_eq_false_iff_ne.2 h1
        have hv := Lib.hid (HN.out (fun h => h1 h.1))
        clear HA HN HTK h1
        go_wp2_with fail
        go_roundw
        case rel => exact ⟨k + 1, by omega, by go_num, hv, HB⟩
        case measure => simp [intOf]; omega
    · have hkn : k = n := by omega
      subst hkn
      have e : l.take k = l := List.take_of_length_le (by rw [ll.out]; exact Nat.le_refl _)
      rw [e] at HE
      have hki : ¬ (k : Int) < (k : Int) := by omega
      clear e
      have hv := Lib.hid (balOf_none HE.out)
      go_wp2_with fail
      exact HP.out _ _ hv.out HB.out
end Go.Proofs.YtohdpidlilhnjaaGreatDoor

/- Contract of the reference's Sums. -/
namespace Go.Proofs.YtohdpidlilhnjaaGreatDoor
open Go.RowKit Go.Maps Num

def sB (f t x : Int) : Bool := decide (f ≤ x) && decide (x ≤ t)
def OwnB (l : List Ln) (w : World) (e : Ending) (w' : World) : Prop := ∃ v, e = .returned v ∧ rowB.Own w.heap.size w' v l ∧ Below w.heap.size w w'
theorem flatR_len {ps : List RE} (q : Int → Bool) (m : Nat) (h : ∀ p ∈ ps, p.2.2.2.length ≤ m) : (flat (ps.map Prod.snd) q).length ≤ m * ps.length := by
  induction ps with
  | nil => simp [flat]
  | cons x r ih =>
    have h1 := ih fun p hp => h p (List.mem_cons_of_mem _ hp)
    have h2 := h x (by simp)
    rw [List.map_cons, flat_cons, List.length_append, List.length_cons, Nat.mul_add]
    split
    · omega
    · simp; omega
theorem flatR_mem {ps : List RE} {q : Int → Bool} {z : Ln} (h : z ∈ flat (ps.map Prod.snd) q) : ∃ p ∈ ps, z ∈ p.2.2.2 := by
  obtain ⟨e, he, hz⟩ := List.mem_flatMap.1 h
  obtain ⟨p, hp, rfl⟩ := List.mem_map.1 he
  refine ⟨p, hp, ?_⟩
  cases hq : q p.2.1
  · simp [hq] at hz
  · simpa [hq] using hz
theorem flatR_take (ps : List RE) (q : Int → Bool) (k : Nat) (h : k < ps.length) : flat ((ps.take (k + 1)).map Prod.snd) q = flat ((ps.take k).map Prod.snd) q ++ if q (ps.getD k re0).2.1 then (ps.getD k re0).2.2.2 else [] := by
  rw [take_re ps k h, List.map_append, List.map_singleton, flat_snoc]
set_option maxRecDepth 100000 in
set_option maxHeartbeats 8000000 in
theorem rSums_any (A : Option Addr) (n c : Nat) (ps : List RE) (f t : Int) (w : World) (hl : rowE.Rds w A n c ps) (hr : ∀ p ∈ ps, RdG w p) (hn : n ≤ 10) (hs : ∀ p ∈ ps, p.2.2.2.length ≤ 70 ∧ ∀ y ∈ p.2.2.2, y.2.2.length ≤ 13) :
    Calls Tryz.prog 87 #[.slice A n c, .int .i64 f, .int .i64 t] w (OwnB (nrmL (flat (ps.map Prod.snd) (sB f t))) w) := by
  have ll := Lib.hid hl.len
  have L1 := Lib.hid hl
  have HR := Lib.hid hr
  have HS := Lib.hid hs
  have HP := Lib.hid (fun W v (h : rowB.Own w.heap.size W v (nrmL (flat (ps.map Prod.snd) (sB f t)))) (hb : Below w.heap.size w W) => (show OwnB (nrmL (flat (ps.map Prod.snd) (sB f t))) w (.returned v) W from ⟨v, rfl, h, hb⟩))
  generalize OwnB (nrmL (flat (ps.map Prod.snd) (sB f t))) w = Post at *
  have O0 := Lib.hid (own_emptyB w.heap.size w (Nat.le_refl _))
  have B0 := Lib.hid ((Below.refl _ w).alloc (Nat.le_refl _) (.cells #[] 33))
  clear hl hr hs
  go_enter Tryz.func87, Tryz.ntmps87
  go_wp2_with fail
  go_loopw [7, 8] (fun v i wr => ∃ k : Nat, k ≤ n ∧ i = .int .i64 (k : Int) ∧ Hid (rowB.Own w.heap.size wr v (nrmL (flat ((ps.take k).map Prod.snd) (sB f t)))) ∧ Hid (Below w.heap.size w wr)) (fun _ i _ => n - (intOf i).toNat)
  case atStart => exact ⟨0, by omega, rfl, O0, B0⟩
  case round =>
    clear O0 B0
    obtain ⟨k, hk, rfl, HO, HB⟩ := hrel
    by_cases hlt : k < n
    · have hkl : k < ps.length := by rw [ll.out]; exact hlt
      obtain ⟨b1, o1, rfl, hb1, _⟩ := L1.out.at_ (by omega)
      obtain ⟨p0, p1, p2⟩ := rds_cells3 (L1.out.below HB.out) k hlt
      have hki : (k : Int) < (n : Int) := by omega
      have hmm := re_mem ps k hkl
      have HFT := Lib.hid (flatR_take ps (sB f t) k hkl)
      have HLN := Lib.hid (show (flat ((ps.take k).map Prod.snd) (sB f t)).length ≤ 700 by
        have := flatR_len (ps := ps.take k) (sB f t) 70 fun p hp => (HS.out p (List.take_subset _ _ hp)).1
        rw [List.length_take] at this
        omega)
      have HL13 := Lib.hid (show ∀ z ∈ flat ((ps.take k).map Prod.snd) (sB f t), z.2.2.length ≤ 13 from fun z hz => by
        obtain ⟨p, hp, hz⟩ := flatR_mem hz
        exact (HS.out p (List.take_subset _ _ hp)).2 z hz)
      have HRk := Lib.hid (HR.out _ hmm)
      have HSk := Lib.hid (HS.out _ hmm)
      have HP0 := Lib.hid (fun W (h : Below w.heap.size w W) => rds_cells3 (L1.out.below h) k hlt)
      clear hkl hmm
      generalize ps.getD k re0 = u at *
      obtain ⟨⟨d1, z1, A1, n1, m1⟩, ⟨d2, z2, k2⟩⟩ := u
      obtain ⟨e1, e2, h3⟩ := HRk.out
      simp only at e1 e2
      subst e1 e2
      simp only [rawA, rawN, rawC] at p0 p1 p2 HP0 h3
      simp only at HFT HSk
      have L2 := Lib.hid h3
      clear h3 HRk
      by_cases hf : f ≤ d1
      case neg =>
        have e1 : decide (d1 < f) = true := decide_eq_true (by omega)
        have HO2 := Lib.hid (show rowB.Own w.heap.size wr u7 (nrmL (flat ((ps.take (k + 1)).map Prod.snd) (sB f t))) by
          rw [HFT.out, if_neg (by unfold sB; rw [decide_eq_false hf]; simp), List.append_nil]; exact HO.out)
        clear hf HFT
        go_wp2_with fail
        go_roundw
        case rel => exact ⟨k + 1, by omega, by go_num, HO2, HB⟩
        case measure => simp [intOf]; omega
      have e1 : decide (d1 < f) = false := decide_eq_false (by omega)
      by_cases ht : d1 ≤ t
      case neg =>
        have e2 : decide (t < d1) = true := decide_eq_true (by omega)
        have HO2 := Lib.hid (show rowB.Own w.heap.size wr u7 (nrmL (flat ((ps.take (k + 1)).map Prod.snd) (sB f t))) by
          rw [HFT.out, if_neg (by unfold sB; rw [decide_eq_false ht]; simp), List.append_nil]; exact HO.out)
        clear hf ht HFT
        go_wp2_with fail
        go_roundw
        case rel => exact ⟨k + 1, by omega, by go_num, HO2, HB⟩
        case measure => simp [intOf]; omega
      have e2 : decide (t < d1) = false := decide_eq_false (by omega)
      have HF2 := Lib.hid (HFT.out.trans (by rw [if_pos (by unfold sB; rw [decide_eq_true hf, decide_eq_true ht]; rfl)]))
      clear hf ht HFT
      have hn1 := L2.out.len
      have hn7 : n1 ≤ 70 := by rw [← hn1]; exact HSk.out.1
      have LN1 := Lib.hid hn1
      clear hn1
      have R0 := Lib.hid (show rowB.Own w.heap.size wr u7 (nrmL (flat ((ps.take k).map Prod.snd) (sB f t) ++ k2.take 0)) by rw [List.take_zero, List.append_nil]; exact HO.out)
      clear HO
      go_wp2_with fail
      go_loopw [7, 9] (fun v j wx => ∃ q : Nat, q ≤ n1 ∧ j = .int .i64 (q : Int) ∧ Hid (rowB.Own w.heap.size wx v (nrmL (flat ((ps.take k).map Prod.snd) (sB f t) ++ k2.take q))) ∧ Hid (Below w.heap.size w wx)) (fun _ j _ => n1 - (intOf j).toNat)
      case atStart => exact ⟨0, by omega, rfl, R0, HB⟩
      case round =>
        clear R0 p0 p1 p2
        obtain ⟨q, hq, rfl, HOi, HBi⟩ := hrel
        obtain ⟨p0, p1, p2⟩ := HP0.out _ HBi.out
        by_cases hltq : q < n1
        · have hql : q < k2.length := by rw [LN1.out]; exact hltq
          obtain ⟨b2, o2, rfl, hb2, _⟩ := L2.out.at_ (by omega)
          obtain ⟨r0, r1, r2⟩ := rds3 (L2.out.below HBi.out) q hltq
          have hqi : (q : Int) < (n1 : Int) := by omega
          obtain ⟨A3, c3, hu, hr3⟩ := HOi.out.rds
          subst hu
          have HTQ := Lib.hid (take_ln k2 q hql)
          have h13 := HSk.out.2 _ (lnAt_mem k2 q hql)
          have hLL : (flat ((ps.take k).map Prod.snd) (sB f t) ++ k2.take q).length ≤ 800 := by
            have := HLN.out
            rw [List.length_append, List.length_take]; omega
          obtain ⟨a1, a2⟩ := nrmL_amk (flat ((ps.take k).map Prod.snd) (sB f t) ++ k2.take q) (fun z hz => by
            rcases List.mem_append.1 hz with hz | hz
            · exact HL13.out z hz
            · exact HSk.out.2 z (List.take_subset _ _ hz)) _ (Nat.le_refl _)
          rw [List.take_length] at a1 a2
          clear hql
          generalize k2.getD q ln0 = y at *
          obtain ⟨ya, yc, ym⟩ := y
          simp only at r0 r1 r2 h13
          have HNX := Lib.hid (show putL (nrmL (flat ((ps.take k).map Prod.snd) (sB f t) ++ k2.take q)) (ya, yc, ym) = nrmL (flat ((ps.take k).map Prod.snd) (sB f t) ++ k2.take (q + 1)) by
            rw [← nrmL_snoc, HTQ.out, List.append_assoc])
          have hbx := heap_alloc_new wr (.cells #[.string ⟨ya.toArray⟩, .string ⟨yc.toArray⟩, .string ⟨ym.toArray⟩] 40)
          have BA := Lib.hid (HBi.out.alloc HBi.out.size (.cells #[.string ⟨ya.toArray⟩, .string ⟨yc.toArray⟩, .string ⟨ym.toArray⟩] 40))
          have HPU := Lib.hid (rput_any A3 _ c3 _ ya yc ym _ (hr3.below ((Below.refl _ wr).alloc (Nat.le_refl _) (.cells #[.string ⟨ya.toArray⟩, .string ⟨yc.toArray⟩, .string ⟨ym.toArray⟩] 40))) (by omega) (fun y hy => amk_short (a2 y hy) (by omega)) (dgs_13 h13) (by omega))
          unfold PutB at HPU
          rw [HNX.out] at HPU
          clear hr3 hLL a1 a2 HNX HTQ HOi h13
          generalize nrmL (flat ((ps.take k).map Prod.snd) (sB f t) ++ k2.take q) = nl at *
          generalize hn2 : nrmL (flat ((ps.take k).map Prod.snd) (sB f t) ++ k2.take (q + 1)) = nl2 at *
          have HN2 := Lib.hid hn2
          clear hn2
          go_wp2_with fail
          clear p0 p1 p2 r0 r1 r2
          generalize wr.alloc (.cells #[.string ⟨ya.toArray⟩, .string ⟨yc.toArray⟩, .string ⟨ym.toArray⟩] 40) = wa at *
          refine HPU.out.mono ?_
          rintro e w5 ⟨v2, rfl, ho, hb⟩
          have HO2 := Lib.hid (ho.mono BA.out.size)
          have HB2 := Lib.hid (BA.out.trans (hb.mono BA.out.size))
          clear ho hb HPU hbx BA
          go_wp2_with fail
          go_roundw
          case rel => exact ⟨q + 1, by omega, by go_num, by rw [HN2.out]; exact HO2, HB2⟩
          case measure => simp [intOf]; omega
        · have hqn : q = n1 := by omega
          subst hqn
          have e : k2.take q = k2 := List.take_of_length_le (by rw [LN1.out]; exact Nat.le_refl _)
          rw [e, ← HF2.out] at HOi
          have hqi : ¬ (q : Int) < (q : Int) := by omega
          clear e
          go_wp2_with fail
          go_roundw
          case rel => exact ⟨k + 1, by omega, by go_num, HOi, HBi⟩
          case measure => simp [intOf]; omega
    · have hkn : k = n := by omega
      subst hkn
      have e : ps.take k = ps := List.take_of_length_le (by rw [ll.out]; exact Nat.le_refl _)
      rw [e] at HO
      have hki : ¬ (k : Int) < (k : Int) := by omega
      clear e
      go_wp2_with fail
      exact HP.out _ _ HO.out HB.out
end Go.Proofs.YtohdpidlilhnjaaGreatDoor

/- Contracts of the reference's Trial, Balance, Activity. -/
namespace Go.Proofs.YtohdpidlilhnjaaGreatDoor
open Go.RowKit Go.Maps Num

theorem okE_from {e : En} (h : okE e = true) : -25567 ≤ e.1 := by
  have h1 := of_decide_eq_true h
  unfold chkE at h1
  by_cases hd : e.1 < -25567
  · have : headI e.1 e.2.1 = 13 := by unfold headI; rw [if_pos (Or.inl hd)]
    rw [this] at h1
    simp at h1
  · omega
theorem flat_cong2 {es : List En} {p q : Int → Bool} (h : ∀ e ∈ es, p e.1 = q e.1) : flat es p = flat es q := by
  induction es with
  | nil => rfl
  | cons e r ih => rw [flat_cons, flat_cons, ih fun x hx => h x (List.mem_cons_of_mem _ hx), h e (by simp)]
theorem flat_tr {es : List En} (h : es.all okE = true) (d : Int) : flat es (sB (-25567) d) = flat es fun x => decide (x ≤ d) := flat_cong2 fun e he => by
  unfold sB
  rw [decide_eq_true (okE_from (List.all_eq_true.1 h e he)), Bool.true_and]
theorem flat_ac (es : List En) (f t : Int) : flat es (sB f (t - 1)) = flat es (acB f t) := flat_cong2 fun e _ => by
  unfold sB acB
  congr 1
  rw [decide_eq_decide]
  omega
theorem great_n {w : World} {A : Option Addr} {n c : Nat} {ps : List RE} (hl : rowE.Rds w A n c ps) (hg : greatB ps = false) : n ≤ 10 := by
  rw [← hl.len]; exact (great_parts hg).1
theorem great_70 {ps : List RE} (hg : greatB ps = false) : ∀ p ∈ ps, p.2.2.2.length ≤ 70 ∧ ∀ y ∈ p.2.2.2, y.2.2.length ≤ 13 := fun p hp => by
  have h := (great_parts hg).2 p hp
  exact ⟨by have := h.len; omega, fun y hy => (h.ln y hy).2.2⟩
theorem great_ml {ps : List RE} (hg : greatB ps = false) : ∀ p ∈ ps, p.2.2.1.length ≤ maxLen ∧ ∀ y ∈ p.2.2.2, y.2.2.length ≤ 13 := fun p hp => by
  have h := (great_parts hg).2 p hp
  exact ⟨by unfold maxLen; have := h.cause; omega, fun y hy => (h.ln y hy).2.2⟩
set_option maxRecDepth 100000 in
set_option maxHeartbeats 4000000 in
theorem rTrial_any (A : Option Addr) (n c : Nat) (ps : List RE) (d : Int) (w : World) (hl : rowE.Rds w A n c ps) (hr : ∀ p ∈ ps, RdG w p) (hg : greatB ps = false) :
    Calls Tryz.prog 35 #[.slice A n c, .int .i64 d] w (ListC (trL (ps.map Prod.snd) d) (trI (ps.map Prod.snd) d) w) := by
  have hn := great_n hl hg
  have HE := Lib.hid (rents_any A n c ps w (great_res hl hr hg) (by omega) (great_ml hg))
  have HS := Lib.hid (fun W (h : Below w.heap.size w W) => rSums_any A n c ps (-25567) d W (hl.below h) (fun p hp => (hr p hp).below h) hn (great_70 hg))
  have HD := Lib.hid (fun W => rday_any d W)
  have HL := Lib.hid (show trL (ps.map Prod.snd) d = if (ps.map Prod.snd).all okE ∧ valD d = true then nrmL (flat (ps.map Prod.snd) fun x => decide (x ≤ d)) else [] from rfl)
  have HI := Lib.hid (show trI (ps.map Prod.snd) d = if (ps.map Prod.snd).all okE = false then 1 else if valD d = false then 13 else 0 from rfl)
  have HP := Lib.hid (fun v i W (h1 : rowB.Own w.heap.size W v (trL (ps.map Prod.snd) d)) (h2 : Below w.heap.size w W) (hi : trI (ps.map Prod.snd) d = i) => (show ListC (trL (ps.map Prod.snd) d) (trI (ps.map Prod.snd) d) w (.returned (.tuple #[v, .int .i64 i])) W from ⟨v, by rw [hi], h1, h2⟩))
  have HT := Lib.hid (fun h => flat_tr (es := ps.map Prod.snd) h d)
  clear hl hr hg hn
  generalize ListC (trL (ps.map Prod.snd) d) (trI (ps.map Prod.snd) d) w = Post at *
  generalize trL (ps.map Prod.snd) d = rl at *
  generalize trI (ps.map Prod.snd) d = ri at *
  cases ho : (ps.map Prod.snd).all okE
  case false =>
    have e1 := HL.out
    have e2 := HI.out
    have e3 := HE.out
    rw [ho] at e1 e2 e3
    rw [if_neg (by simp)] at e1
    rw [if_pos rfl] at e2
    subst e1 e2
    have HE1 := Lib.hid e3
    clear e3 HE HS HD HL HI HT ho
    go_enter Tryz.func35, Tryz.ntmps35
    go_wp2_with fail
    refine HE1.out.mono ?_
    rintro e w1 ⟨rfl, hb1⟩
    have B1 := Lib.hid hb1
    clear hb1
    go_wp2_with fail
    exact HP.out _ _ _ (own_emptyB _ _ B1.out.size) (B1.out.alloc B1.out.size _) rfl
  case true =>
  have e3 := HE.out
  rw [ho] at e3
  have HE1 := Lib.hid e3
  clear e3 HE
  cases hv : valD d
  case false =>
    have e1 := HL.out
    have e2 := HI.out
    have e4 := HD.out
    rw [hv] at e4
    rw [ho, hv] at e1 e2
    rw [if_neg (by simp)] at e1
    rw [if_neg (by decide), if_pos rfl] at e2
    subst e1 e2
    have HD1 := Lib.hid e4
    clear e4 HS HD HL HI HT ho hv
    go_enter Tryz.func35, Tryz.ntmps35
    go_wp2_with fail
    refine HE1.out.mono ?_
    rintro e w1 ⟨rfl, hb1⟩
    have B1 := Lib.hid hb1
    clear hb1
    go_wp2_with fail
    refine (HD1.out _).mono ?_
    rintro e w2 ⟨rfl, rfl⟩
    go_wp2_with fail
    exact HP.out _ _ _ (own_emptyB _ _ B1.out.size) (B1.out.alloc B1.out.size _) rfl
  case true =>
  have e1 := HL.out
  have e2 := HI.out
  have e4 := HD.out
  rw [hv] at e4
  rw [hv, ho] at e1 e2
  rw [if_pos ⟨rfl, rfl⟩, ← HT.out ho] at e1
  rw [if_neg (by decide), if_neg (by decide)] at e2
  subst e1 e2
  have HD1 := Lib.hid e4
  clear e4 HD HL HI HT ho hv
  unfold OwnB at HS
  generalize nrmL (flat (ps.map Prod.snd) (sB (-25567) d)) = rl at *
  go_enter Tryz.func35, Tryz.ntmps35
  go_wp2_with fail
  refine HE1.out.mono ?_
  rintro e w1 ⟨rfl, hb1⟩
  have B1 := Lib.hid hb1
  clear hb1
  go_wp2_with fail
  refine (HD1.out _).mono ?_
  rintro e w2 ⟨rfl, rfl⟩
  go_wp2_with fail
  refine (HS.out _ B1.out).mono ?_
  rintro e w3 ⟨v, rfl, ho, hb⟩
  have hv := Lib.hid (HP.out v 0 w3 (ho.mono B1.out.size) (below_next B1.out hb ⟨rfl, rfl, rfl, rfl⟩) rfl)
  clear ho hb
  go_wp2_with fail
  exact hv.out
theorem listc_rds2 {l : List Ln} {i : Int} {w w' : World} {e : Ending} (h : ListC l i w e w') : ∃ A c, e = .returned (.tuple #[.slice A l.length c, .int .i64 i]) ∧ rowB.Rds w' A l.length c l ∧ Below w.heap.size w w' := by
  obtain ⟨v, rfl, ho, hb⟩ := h
  obtain ⟨A, c, rfl, hr⟩ := ho.rds
  exact ⟨A, c, rfl, hr, hb⟩
theorem trL_len {ps : List RE} (hg : greatB ps = false) (d : Int) : (trL (ps.map Prod.snd) d).length ≤ 700 := by
  unfold trL
  split
  · have h1 := (nrmL_amk (flat (ps.map Prod.snd) fun x => decide (x ≤ d)) (fun z hz => by
      obtain ⟨p, hp, hz⟩ := flatR_mem hz
      exact (great_70 hg p hp).2 z hz) _ (Nat.le_refl _)).1
    rw [List.take_length] at h1
    have h2 := flatR_len (ps := ps) (fun x => decide (x ≤ d)) 70 fun p hp => (great_70 hg p hp).1
    have := (great_parts hg).1
    omega
  · simp
theorem acL_len {ps : List RE} (hg : greatB ps = false) (f t : Int) : (acL (ps.map Prod.snd) f t).length ≤ 700 := by
  unfold acL
  split
  · have h1 := (nrmL_amk (flat (ps.map Prod.snd) (acB f t)) (fun z hz => by
      obtain ⟨p, hp, hz⟩ := flatR_mem hz
      exact (great_70 hg p hp).2 z hz) _ (Nat.le_refl _)).1
    rw [List.take_length] at h1
    have h2 := flatR_len (ps := ps) (acB f t) 70 fun p hp => (great_70 hg p hp).1
    have := (great_parts hg).1
    omega
  · simp
set_option maxRecDepth 100000 in
set_option maxHeartbeats 4000000 in
theorem rBalance_any (A : Option Addr) (n c : Nat) (ps : List RE) (ka kc : List UInt8) (d : Int) (w : World) (hl : rowE.Rds w A n c ps) (hr : ∀ p ∈ ps, RdG w p) (hg : greatB ps = false) :
    Calls Tryz.prog 34 #[.slice A n c, .string ⟨ka.toArray⟩, .string ⟨kc.toArray⟩, .int .i64 d] w (StrC (balOf (trL (ps.map Prod.snd) d) (ka, kc)) (trI (ps.map Prod.snd) d) w) := by
  have HTR := Lib.hid (rTrial_any A n c ps d w hl hr hg)
  have HL := Lib.hid (trL_len hg d)
  have HE := Lib.hid (show trI (ps.map Prod.snd) d ≠ 0 → trL (ps.map Prod.snd) d = [] from fun h => by
    unfold trL
    rw [if_neg]
    rintro ⟨h1, h2⟩
    apply h
    unfold trI
    rw [h1, h2, if_neg (by decide), if_neg (by decide)])
  have HP := Lib.hid (fun s i W (h1 : balOf (trL (ps.map Prod.snd) d) (ka, kc) = s) (hi : trI (ps.map Prod.snd) d = i) (h2 : Below w.heap.size w W) => (show StrC (balOf (trL (ps.map Prod.snd) d) (ka, kc)) (trI (ps.map Prod.snd) d) w (.returned (.tuple #[.string ⟨s.toArray⟩, .int .i64 i])) W from ⟨by rw [h1, hi], h2⟩))
  clear hl hr hg
  generalize StrC (balOf (trL (ps.map Prod.snd) d) (ka, kc)) (trI (ps.map Prod.snd) d) w = Post at *
  generalize trL (ps.map Prod.snd) d = T at *
  generalize trI (ps.map Prod.snd) d = ti at *
  go_enter Tryz.func34, Tryz.ntmps34
  go_wp2_with fail
  refine HTR.out.mono ?_
  intro e w1 hq
  obtain ⟨A1, c1, rfl, hr, hb⟩ := listc_rds2 hq
  have R1 := Lib.hid hr
  have B1 := Lib.hid hb
  clear hq hr hb HTR
  by_cases h0 : ti = 0
  · subst h0
    obtain ⟨q, hq⟩ : ∃ q, T.length = q := ⟨_, rfl⟩
    have HOF := Lib.hid (rOf_any A1 T.length c1 T ka kc w1 R1.out (by have := HL.out; omega))
    rw [hq] at R1 HOF ⊢
    clear hq
    go_wp2_with fail
    refine HOF.out.mono ?_
    rintro e w2 ⟨rfl, hb⟩
    have hv := Lib.hid (HP.out _ 0 w2 rfl rfl (below_next B1.out hb ⟨rfl, rfl, rfl, rfl⟩))
    clear hb
    go_wp2_with fail
    exact hv.out
  · have hb0 : (ti == 0) = false := beq_eq_false_iff_ne.2 h0
    have hb1 : (ti != 0) = true := by rw [bne_iff_ne]; exact h0
    have hT := HE.out h0
    subst hT
    have hv := Lib.hid (HP.out [] ti w1 rfl rfl B1.out)
    clear h0 HE HL
    go_wp2_with fail
    exact hv.out
set_option maxRecDepth 100000 in
set_option maxHeartbeats 4000000 in
theorem rAct_any (A : Option Addr) (n c : Nat) (ps : List RE) (f t : Int) (w : World) (hl : rowE.Rds w A n c ps) (hr : ∀ p ∈ ps, RdG w p) (hg : greatB ps = false) :
    Calls Tryz.prog 37 #[.slice A n c, .agg #[.int .i64 f, .int .i64 t]] w (ListC (acL (ps.map Prod.snd) f t) (acI (ps.map Prod.snd) f t) w) := by
  have hn := great_n hl hg
  have hB0 : Below w.heap.size w (w.alloc (.cells #[.int .i64 f, .int .i64 t] 59)) := (Below.refl _ w).alloc (Nat.le_refl _) _
  have hsz : (w.alloc (.cells #[.int .i64 f, .int .i64 t] 59)).heap.size = w.heap.size + 1 := by simp
  have hX : (w.alloc (.cells #[.int .i64 f, .int .i64 t] 59)).heap[w.heap.size]? = some (.cells #[.int .i64 f, .int .i64 t] 59) := heap_alloc_new w _
  have B0 := Lib.hid hB0
  have HX := Lib.hid (fun W (h : Below (w.heap.size + 1) (w.alloc (.cells #[.int .i64 f, .int .i64 t] 59)) W) => (show W.cell? ⟨w.heap.size, 0, none⟩ = some (.int .i64 f) ∧ W.cell? ⟨w.heap.size, 1, none⟩ = some (.int .i64 t) from
    ⟨(h.cell (p := ⟨w.heap.size, 0, none⟩) (Nat.lt_succ_self _)).trans (cell_of_row _ _ _ _ _ _ hX), (h.cell (p := ⟨w.heap.size, 1, none⟩) (Nat.lt_succ_self _)).trans (cell_of_row _ _ _ _ _ _ hX)⟩))
  have HE := Lib.hid (fun W (h : Below w.heap.size w W) => rents_any A n c ps W ((great_res hl hr hg).below h) (by omega) (great_ml hg))
  have HS := Lib.hid (fun W (h : Below w.heap.size w W) => rSums_any A n c ps f (t - 1) W (hl.below h) (fun p hp => (hr p hp).below h) hn (great_70 hg))
  have HD := Lib.hid (fun W => rday_any f W)
  have HD2 := Lib.hid (fun W => rday_any t W)
  have HL := Lib.hid (show acL (ps.map Prod.snd) f t = if acI (ps.map Prod.snd) f t = 0 then nrmL (flat (ps.map Prod.snd) (acB f t)) else [] from rfl)
  have HI := Lib.hid (show acI (ps.map Prod.snd) f t = if (ps.map Prod.snd).all okE = false then 1 else if (valD f && valD t) = false then 13 else if t < f then 8 else 0 from rfl)
  have HP := Lib.hid (fun v i W (h1 : rowB.Own w.heap.size W v (acL (ps.map Prod.snd) f t)) (h2 : Below w.heap.size w W) (hi : acI (ps.map Prod.snd) f t = i) => (show ListC (acL (ps.map Prod.snd) f t) (acI (ps.map Prod.snd) f t) w (.returned (.tuple #[v, .int .i64 i])) W from ⟨v, by rw [hi], h1, h2⟩))
  rw [← flat_ac] at HL
  clear hl hr hg hn hX hB0
  generalize ListC (acL (ps.map Prod.snd) f t) (acI (ps.map Prod.snd) f t) w = Post at *
  generalize acL (ps.map Prod.snd) f t = rl at *
  generalize acI (ps.map Prod.snd) f t = ri at *
  cases ho : (ps.map Prod.snd).all okE
  case false =>
    have e1 := HL.out
    have e2 := HI.out
    rw [ho, if_pos rfl] at e2
    rw [e2, if_neg (by decide)] at e1
    have HE1 := HE
    rw [ho] at HE1
    subst e1 e2
    clear HE HS HD HD2 HL HI ho
    go_enter Tryz.func37, Tryz.ntmps37
    go_wp2_with fail
    generalize w.alloc (.cells #[.int .i64 f, .int .i64 t] 59) = w1 at *
    have S1 := Lib.hid hsz
    clear hsz
    refine (HE1.out _ B0.out).mono ?_
    rintro e w2 ⟨rfl, hb1⟩
    have B2 := Lib.hid (below_next B0.out hb1 ⟨rfl, rfl, rfl, rfl⟩)
    rw [S1.out] at hb1
    have HX2 := Lib.hid (HX.out w2 hb1)
    clear hb1 HE1
    obtain ⟨x0, x1⟩ := HX2.out
    go_wp2_with fail
    exact HP.out _ _ _ (own_emptyB _ _ B2.out.size) (B2.out.alloc B2.out.size _) rfl
  case true =>
  have HE1 := HE
  rw [ho] at HE1
  clear HE
  have HI2 := HI.out
  rw [ho, if_neg (by decide)] at HI2
  clear HI ho
  cases hv : valD f
  case false =>
    have e1 := HL.out
    rw [hv, Bool.false_and, if_pos rfl] at HI2
    rw [HI2, if_neg (by decide)] at e1
    have HD1 := HD
    rw [hv] at HD1
    subst e1 HI2
    clear HS HD HD2 HL hv
    go_enter Tryz.func37, Tryz.ntmps37
    go_wp2_with fail
    generalize w.alloc (.cells #[.int .i64 f, .int .i64 t] 59) = w1 at *
    have S1 := Lib.hid hsz
    clear hsz
    refine (HE1.out _ B0.out).mono ?_
    rintro e w2 ⟨rfl, hb1⟩
    have B2 := Lib.hid (below_next B0.out hb1 ⟨rfl, rfl, rfl, rfl⟩)
    rw [S1.out] at hb1
    have HX2 := Lib.hid (HX.out w2 hb1)
    clear hb1 HE1
    obtain ⟨x0, x1⟩ := HX2.out
    go_wp2_with fail
    refine (HD1.out _).mono ?_
    rintro e w3 ⟨rfl, rfl⟩
    go_wp2_with fail
    exact HP.out _ _ _ (own_emptyB _ _ B2.out.size) (B2.out.alloc B2.out.size _) rfl
  case true =>
  have HD1 := HD
  rw [hv] at HD1
  rw [hv, Bool.true_and] at HI2
  clear HD hv
  cases hv2 : valD t
  case false =>
    have e1 := HL.out
    rw [hv2, if_pos rfl] at HI2
    rw [HI2, if_neg (by decide)] at e1
    have HD3 := HD2
    rw [hv2] at HD3
    subst e1 HI2
    clear HS HD2 HL hv2
    go_enter Tryz.func37, Tryz.ntmps37
    go_wp2_with fail
    generalize w.alloc (.cells #[.int .i64 f, .int .i64 t] 59) = w1 at *
    have S1 := Lib.hid hsz
    clear hsz
    refine (HE1.out _ B0.out).mono ?_
    rintro e w2 ⟨rfl, hb1⟩
    have B2 := Lib.hid (below_next B0.out hb1 ⟨rfl, rfl, rfl, rfl⟩)
    rw [S1.out] at hb1
    have HX2 := Lib.hid (HX.out w2 hb1)
    clear hb1 HE1
    obtain ⟨x0, x1⟩ := HX2.out
    go_wp2_with fail
    refine (HD1.out _).mono ?_
    rintro e w3 ⟨rfl, rfl⟩
    go_wp2_with fail
    refine (HD3.out _).mono ?_
    rintro e w3 ⟨rfl, rfl⟩
    go_wp2_with fail
    exact HP.out _ _ _ (own_emptyB _ _ B2.out.size) (B2.out.alloc B2.out.size _) rfl
  case true =>
  have HD3 := HD2
  rw [hv2] at HD3
  rw [hv2, if_neg (by decide)] at HI2
  clear HD2
  by_cases htf : t < f
  case pos =>
    have e1 := HL.out
    rw [if_pos htf] at HI2
    rw [HI2, if_neg (by decide)] at e1
    have ed : decide (t < f) = true := decide_eq_true htf
    subst e1 HI2
    clear HS HL hv2 htf
    go_enter Tryz.func37, Tryz.ntmps37
    go_wp2_with fail
    generalize w.alloc (.cells #[.int .i64 f, .int .i64 t] 59) = w1 at *
    have S1 := Lib.hid hsz
    clear hsz
    refine (HE1.out _ B0.out).mono ?_
    rintro e w2 ⟨rfl, hb1⟩
    have B2 := Lib.hid (below_next B0.out hb1 ⟨rfl, rfl, rfl, rfl⟩)
    rw [S1.out] at hb1
    have HX2 := Lib.hid (HX.out w2 hb1)
    clear hb1 HE1
    obtain ⟨x0, x1⟩ := HX2.out
    go_wp2_with fail
    refine (HD1.out _).mono ?_
    rintro e w3 ⟨rfl, rfl⟩
    go_wp2_with fail
    refine (HD3.out _).mono ?_
    rintro e w3 ⟨rfl, rfl⟩
    go_wp2_with fail
    exact HP.out _ _ _ (own_emptyB _ _ B2.out.size) (B2.out.alloc B2.out.size _) rfl
  case neg =>
    have e1 := HL.out
    rw [if_neg htf] at HI2
    rw [HI2, if_pos rfl] at e1
    have ed : decide (t < f) = false := decide_eq_false htf
    have hwr : IntKind.i64.wrap (t - 1) = t - 1 := IntWalk.i64_in _ (by
      unfold valD at hv2
      have h1 := of_decide_eq_true (Bool.and_eq_true_iff.1 hv2).1
      have h2 := of_decide_eq_true (Bool.and_eq_true_iff.1 hv2).2
      omega)
    subst e1 HI2
    unfold OwnB at HS
    generalize nrmL (flat (ps.map Prod.snd) (sB f (t - 1))) = rl at *
    obtain ⟨t1, ht1⟩ : ∃ t1, t - 1 = t1 := ⟨_, rfl⟩
    rw [ht1] at HS hwr
    have hwr2 : IntKind.i64.wrap (t - 1) = t1 := by rw [ht1]; exact hwr
    clear HL hv2 htf ht1 hwr
    go_enter Tryz.func37, Tryz.ntmps37
    go_wp2_with fail
    generalize w.alloc (.cells #[.int .i64 f, .int .i64 t] 59) = w1 at *
    have S1 := Lib.hid hsz
    clear hsz
    refine (HE1.out _ B0.out).mono ?_
    rintro e w2 ⟨rfl, hb1⟩
    have B2 := Lib.hid (below_next B0.out hb1 ⟨rfl, rfl, rfl, rfl⟩)
    rw [S1.out] at hb1
    have HX2 := Lib.hid (HX.out w2 hb1)
    clear hb1 HE1
    obtain ⟨x0, x1⟩ := HX2.out
    go_wp2_with fail
    refine (HD1.out _).mono ?_
    rintro e w3 ⟨rfl, rfl⟩
    go_wp2_with fail
    refine (HD3.out _).mono ?_
    rintro e w3 ⟨rfl, rfl⟩
    go_wp2_with fail
    refine (HS.out _ B2.out).mono ?_
    rintro e w4 ⟨v, rfl, ho, hb⟩
    have hv := Lib.hid (HP.out v 0 w4 (ho.mono B2.out.size) (below_next B2.out hb ⟨rfl, rfl, rfl, rfl⟩) rfl)
    clear ho hb
    go_wp2_with fail
    exact hv.out
end Go.Proofs.YtohdpidlilhnjaaGreatDoor

/- Arguments that are periods, opened. -/
namespace Go.Proofs.YtohdpidlilhnjaaGreatDoor
open Go.RowKit Go.Maps Go.WideShapes Go.ChangeShapes Go.ChangeAt Go.Deep Num

theorem c59p : Tryz.prog.cellsOf 59 = 2 := by kernel_rfl
section
variable {H : Type} {enc : TypeId × Value → H} {W : World} {sp : Nat → Bool} {held : Bool}
set_option maxRecDepth 100000 in
theorem arg_period {r : Reach} {b0 : Nat} {v : Value} {d : DataW H} {p : List MemPlace} (hok : Value.okWide Tryz.prog W r b0 59 v) (h : DataW.Trod enc Tryz.prog W 0 sp held 59 v d p) :
    ∃ f t : Int, v = .agg #[.int .i64 f, .int .i64 t] := by
  obtain ⟨v0, v1, y0, y1, n, rfl, _, _, t0, t1⟩ := Joins.open_agg2 Tryz.underlying59 (by kernel_rfl) c59p hok h
  obtain ⟨f, e0, _⟩ := DataW.trod_int Tryz.underlying23 t0
  obtain ⟨t, e1, _⟩ := DataW.trod_int Tryz.underlying23 t1
  simp only [List.cons.injEq, and_true] at e0 e1
  exact ⟨f, t, by rw [e0, e1]⟩
end
end Go.Proofs.YtohdpidlilhnjaaGreatDoor

/- LedgerTrials: the walk. -/
namespace Go.Proofs.YtohdpidlilhnjaaGreatDoor
open Go.RowKit Go.Maps Num

set_option maxRecDepth 100000 in
set_option maxHeartbeats 8000000 in
theorem trials_in (A : Option Addr) (n c : Nat) (ps : List RE) (ka kc : List UInt8) (d f t : Int) (w : World) (hl : rowE.Rds w A n c ps) (hr : ∀ p ∈ ps, RdG w p) (ht : Tab w) (hm : ML w) :
    Calls Tryz.prog 7 #[.slice A n c, .string ⟨ka.toArray⟩, .string ⟨kc.toArray⟩, .int .i64 d, .agg #[.int .i64 f, .int .i64 t]] w (BoolPost true w) := by
  have HP := Lib.hid (fun W (h : Below w.heap.size w W) => (show BoolPost true w (.returned (.bool true)) W from ⟨rfl, h⟩))
  have HW := Lib.hid (fun W (h : Below w.heap.size w W) => awake_any W (ht.below h) (hm.below h))
  unfold BoolPost at HW
  have hB0 : Below w.heap.size w (w.alloc (.cells #[.int .i64 f, .int .i64 t] 59)) := (Below.refl _ w).alloc (Nat.le_refl _) _
  have hX : (w.alloc (.cells #[.int .i64 f, .int .i64 t] 59)).heap[w.heap.size]? = some (.cells #[.int .i64 f, .int .i64 t] 59) := heap_alloc_new w _
  have hsz : (w.alloc (.cells #[.int .i64 f, .int .i64 t] 59)).heap.size = w.heap.size + 1 := by simp
  have HX := Lib.hid (fun W (h : Below (w.heap.size + 1) (w.alloc (.cells #[.int .i64 f, .int .i64 t] 59)) W) => (show W.cell? ⟨w.heap.size, 0, none⟩ = some (.int .i64 f) ∧ W.cell? ⟨w.heap.size, 1, none⟩ = some (.int .i64 t) from
    ⟨(h.cell (p := ⟨w.heap.size, 0, none⟩) (Nat.lt_succ_self _)).trans (cell_of_row _ _ _ _ _ _ hX), (h.cell (p := ⟨w.heap.size, 1, none⟩) (Nat.lt_succ_self _)).trans (cell_of_row _ _ _ _ _ _ hX)⟩))
  have HGR := Lib.hid (fun W (h : Below w.heap.size w W) => rgreat_any A n c ps W (hl.below h) fun p hp => (hr p hp).below h)
  unfold BoolPost at HGR
  have B0 := Lib.hid hB0
  cases hg : greatB ps
  case true =>
    have HG1 := HGR
    rw [hg] at HG1
    clear hl hr ht hm HGR hg hB0 hX
    generalize BoolPost true w = Post at *
    go_enter Tryz.func7, Tryz.ntmps7
    go_wp2_with fail
    generalize w.alloc (.cells #[.int .i64 f, .int .i64 t] 59) = w1 at *
    refine (HG1.out _ B0.out).mono ?_
    rintro e w2 ⟨rfl, hb⟩
    have B2 := Lib.hid (below_next B0.out hb ⟨rfl, rfl, rfl, rfl⟩)
    clear hb
    go_wp2_with fail
    refine (HW.out _ B2.out).mono ?_
    rintro e w3 ⟨rfl, hb⟩
    have B3 := Lib.hid (below_next B2.out hb ⟨rfl, rfl, rfl, rfl⟩)
    clear hb
    go_wp2_with fail
    exact HP.out _ B3.out
  case false =>
  have HG1 := HGR
  rw [hg] at HG1
  have hn := great_n hl hg
  have hz : ∀ p ∈ ps, p.2.2.1.length ≤ 1000 := fun p hp => by have := ((great_parts hg).2 p hp).cause; omega
  have hrw := fun W (h : Below w.heap.size w W) => (show ∀ p ∈ ps, RdG W p from fun p hp => (hr p hp).below h)
  have K1 := Lib.hid (fun W (h : Below w.heap.size w W) => Balance_any A n c ps ka kc d W ((great_res hl hr hg).below h) hz (by omega) (ht.below h) (hm.below h))
  have K2 := Lib.hid (fun W (h : Below w.heap.size w W) => rBalance_any A n c ps ka kc d W (hl.below h) (hrw W h) hg)
  have K3 := Lib.hid (fun W (h : Below w.heap.size w W) => Trial_any A n c ps d W ((great_res hl hr hg).below h) hz (by omega) (ht.below h) (hm.below h))
  have K4 := Lib.hid (fun W (h : Below w.heap.size w W) => rTrial_any A n c ps d W (hl.below h) (hrw W h) hg)
  have K5 := Lib.hid (fun W (h : Below w.heap.size w W) => Activity_any A n c ps f t W ((great_res hl hr hg).below h) hz (by omega) (ht.below h) (hm.below h))
  have K6 := Lib.hid (fun W (h : Below w.heap.size w W) => rAct_any A n c ps f t W (hl.below h) (hrw W h) hg)
  have zt := trL_len hg d
  have za := acL_len hg f t
  unfold StrC at K1 K2
  clear hl hr ht hm HGR hg hB0 hX hn hz hrw
  generalize balOf (trL (ps.map Prod.snd) d) (ka, kc) = bs at *
  generalize trL (ps.map Prod.snd) d = TL at *
  generalize trI (ps.map Prod.snd) d = ti at *
  generalize acL (ps.map Prod.snd) f t = AL at *
  generalize acI (ps.map Prod.snd) f t = ai at *
  have K7 := Lib.hid (fun A1 c1 A2 c2 W (r1 : rowB.Rds W A1 TL.length c1 TL) (r2 : rowB.Rds W A2 TL.length c2 TL) => (show Calls Tryz.prog 31 #[.slice A1 TL.length c1, .slice A2 TL.length c2] W (fun e w' => e = .returned (.bool true) ∧ Below W.heap.size W w') by
    have h := rSameB_any A1 A2 _ c1 _ c2 _ _ W r1 r2 (by omega) (by omega)
    rw [decide_eq_true rfl] at h; exact h))
  have K8 := Lib.hid (fun A1 c1 A2 c2 W (r1 : rowB.Rds W A1 AL.length c1 AL) (r2 : rowB.Rds W A2 AL.length c2 AL) => (show Calls Tryz.prog 31 #[.slice A1 AL.length c1, .slice A2 AL.length c2] W (fun e w' => e = .returned (.bool true) ∧ Below W.heap.size W w') by
    have h := rSameB_any A1 A2 _ c1 _ c2 _ _ W r1 r2 (by omega) (by omega)
    rw [decide_eq_true rfl] at h; exact h))
  clear zt za
  generalize BoolPost true w = Post at *
  go_enter Tryz.func7, Tryz.ntmps7
  go_wp2_with fail
  generalize w.alloc (.cells #[.int .i64 f, .int .i64 t] 59) = w1 at *
  have S1 := Lib.hid hsz
  clear hsz
  refine (HG1.out _ B0.out).mono ?_
  rintro e w2 ⟨rfl, hb⟩
  have B2 := Lib.hid (below_next B0.out hb ⟨rfl, rfl, rfl, rfl⟩)
  rw [S1.out] at hb
  have C2 := Lib.hid hb
  clear hb HG1
  go_wp2_with fail
  refine (K1.out _ B2.out).mono ?_
  rintro e w3 ⟨rfl, hb⟩
  have B3 := Lib.hid (below_next B2.out hb ⟨rfl, rfl, rfl, rfl⟩)
  have C3 := Lib.hid (C2.out.trans (hb.mono (by have := C2.out.size; have := S1.out; omega)))
  clear hb K1 B2 C2
  go_wp2_with fail
  refine (K2.out _ B3.out).mono ?_
  rintro e w4 ⟨rfl, hb⟩
  have B4 := Lib.hid (below_next B3.out hb ⟨rfl, rfl, rfl, rfl⟩)
  have C4 := Lib.hid (C3.out.trans (hb.mono (by have := C3.out.size; have := S1.out; omega)))
  clear hb K2 B3 C3
  go_wp2_with fail
  refine (K3.out _ B4.out).mono ?_
  intro e w5 hq
  obtain ⟨A1, c1, rfl, hr, hb⟩ := listc_rds2 hq
  have R1 := Lib.hid hr
  have B5 := Lib.hid (below_next B4.out hb ⟨rfl, rfl, rfl, rfl⟩)
  have C5 := Lib.hid (C4.out.trans (hb.mono (by have := C4.out.size; have := S1.out; omega)))
  clear hq hr hb K3 B4 C4
  go_wp2_with fail
  refine (K4.out _ B5.out).mono ?_
  intro e w6 hq
  obtain ⟨A2, c2, rfl, hr, hb⟩ := listc_rds2 hq
  have R2 := Lib.hid hr
  have R1' := Lib.hid (R1.out.below hb)
  have B6 := Lib.hid (below_next B5.out hb ⟨rfl, rfl, rfl, rfl⟩)
  have C6 := Lib.hid (C5.out.trans (hb.mono (by have := C5.out.size; have := S1.out; omega)))
  clear hq hr hb K4 B5 C5 R1
  obtain ⟨x0, x1⟩ := HX.out _ C6.out
  go_wp2_with fail
  refine (K5.out _ B6.out).mono ?_
  intro e w7 hq
  obtain ⟨A3, c3, rfl, hr, hb⟩ := listc_rds2 hq
  have R3 := Lib.hid hr
  have R1 := Lib.hid (R1'.out.below hb)
  have R2' := Lib.hid (R2.out.below hb)
  have B7 := Lib.hid (below_next B6.out hb ⟨rfl, rfl, rfl, rfl⟩)
  have C7 := Lib.hid (C6.out.trans (hb.mono (by have := C6.out.size; have := S1.out; omega)))
  clear hq hr hb K5 B6 C6 R1' R2 x0 x1
  obtain ⟨x0, x1⟩ := HX.out _ C7.out
  go_wp2_with fail
  refine (K6.out _ B7.out).mono ?_
  intro e w8 hq
  obtain ⟨A4, c4, rfl, hr, hb⟩ := listc_rds2 hq
  have R4 := Lib.hid hr
  have R1' := Lib.hid (R1.out.below hb)
  have R2 := Lib.hid (R2'.out.below hb)
  have R3' := Lib.hid (R3.out.below hb)
  have B8 := Lib.hid (below_next B7.out hb ⟨rfl, rfl, rfl, rfl⟩)
  clear hq hr hb K6 B7 C7 R1 R2' R3 x0 x1
  obtain ⟨tn, htn⟩ : ∃ q, TL.length = q := ⟨_, rfl⟩
  obtain ⟨an, han⟩ : ∃ q, AL.length = q := ⟨_, rfl⟩
  rw [htn] at R1' R2 K7 ⊢
  rw [han] at R3' R4 K8 ⊢
  clear htn han
  go_wp2_with fail
  refine (K7.out _ _ _ _ _ R1'.out R2.out).mono ?_
  rintro e w9 ⟨rfl, hb⟩
  have R3 := Lib.hid (R3'.out.below hb)
  have R5 := Lib.hid (R4.out.below hb)
  have B9 := Lib.hid (below_next B8.out hb ⟨rfl, rfl, rfl, rfl⟩)
  clear hb K7 B8 R1' R2 R3' R4
  go_wp2_with fail
  refine (K8.out _ _ _ _ _ R3.out R5.out).mono ?_
  rintro e w10 ⟨rfl, hb⟩
  have B10 := Lib.hid (below_next B9.out hb ⟨rfl, rfl, rfl, rfl⟩)
  clear hb K8 B9 R3 R5
  go_wp2_with fail
  refine (HW.out _ B10.out).mono ?_
  rintro e w11 ⟨rfl, hb⟩
  have B11 := Lib.hid (below_next B10.out hb ⟨rfl, rfl, rfl, rfl⟩)
  clear hb HW B10
  go_wp2_with fail
  exact HP.out _ B11.out
theorem trials_row (A : Option Addr) (n c : Nat) (ps : List RE) (ka kc : ByteArray) (d f t : Int) (w : World) (hl : rowE.Rds w A n c ps) (hr : ∀ p ∈ ps, RdG w p ∧ p.2.2.1.length ≤ maxLen) (ht : Tab w) (hm : ML w) :
    Calls Tryz.prog 7 #[.slice A n c, .string ka, .string kc, .int .i64 d, .agg #[.int .i64 f, .int .i64 t]] w (BoolPost true w) := by
  suffices H : ∀ ka kc : List UInt8, Calls Tryz.prog 7 #[.slice A n c, .string ⟨ka.toArray⟩, .string ⟨kc.toArray⟩, .int .i64 d, .agg #[.int .i64 f, .int .i64 t]] w (BoolPost true w) from H ka.data.toList kc.data.toList
  intro ka kc
  exact trials_in A n c ps ka kc d f t w hl (fun p hp => (hr p hp).1) ht hm
end Go.Proofs.YtohdpidlilhnjaaGreatDoor
