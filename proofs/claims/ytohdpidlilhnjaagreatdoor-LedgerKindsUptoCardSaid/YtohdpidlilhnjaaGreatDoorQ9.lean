/- The ledger's sums: contract of list. -/
import Derived.Test.YtohdpidlilhnjaaGreatDoorQ8
import Derived.Test.YtohdpidlilhnjaaGreatDoorQ7
import Derived.Test.YtohdpidlilhnjaaGreatDoorQ5
import Derived.Test.YtohdpidlilhnjaaGreatDoorQ6
namespace Go.Proofs.YtohdpidlilhnjaaGreatDoor
open Go.RowKit Go.Maps Num

/-- lists of balances -/
abbrev rowB : Row Ln := ⟨26, 33, .agg #[.string ⟨#[]⟩, .string ⟨#[]⟩, .string ⟨#[]⟩], 3, 48, LV⟩
theorem rowB_ok : rowB.Ok where
  hS := Tryz.underlying26
  info := by kernel_rfl
  zc := rfl
  k0 := by decide
  b1 := by decide
  hk _ := rfl
  h1 x v hv := by
    simp only [LV, List.mem_cons, List.not_mem_nil, or_false] at hv
    rcases hv with rfl | rfl | rfl <;> rfl
/-- a list of balances is returned, of the call's own -/
def ListP (l : List Ln) (w : World) (e : Ending) (w' : World) : Prop := ∃ v, e = .returned v ∧ rowB.Own w.heap.size w' v l ∧ Below w.heap.size w w'
/-- the loop: the rows of the keys so far -/
structure LstR (L : List Ln) (m : List Ky) (w w6 : World) (vK : Value) (bm j : Nat) (v : Value) (W : World) : Prop where
  own : rowB.Own w6.heap.size W v (rowsK L (m.take j))
  keys : rowK.Own w.heap.size W vK m
  kb : ∀ g, vK.ownBlock = some g → g < w6.heap.size
  map : NmR L bm L.length W
  bel : Below w.heap.size w W
  sz : w6.heap.size ≤ W.heap.size
theorem LstR.alloc {L : List Ln} {m : List Ky} {w w6 : World} {vK : Value} {bm j : Nat} {v : Value} {W : World} (h : LstR L m w w6 vK bm j v W) (o : Obj) : LstR L m w w6 vK bm j v (W.alloc o) :=
  ⟨h.own.alloc o, h.keys.alloc o, h.kb, h.map.kept (World.grownBy_alloc W o none) (by simp), h.bel.alloc h.bel.size o, by have := h.sz; simp; omega⟩
theorem LstR.skip {L : List Ln} {m : List Ky} {w w6 : World} {vK : Value} {bm j : Nat} {v : Value} {W : World} (h : LstR L m w w6 vK bm j v W) (hj : rowsK L (m.take (j + 1)) = rowsK L (m.take j)) : LstR L m w w6 vK bm (j + 1) v W :=
  ⟨by rw [hj]; exact h.own, h.keys, h.kb, h.map, h.bel, h.sz⟩
theorem LstR.step {L : List Ln} {m : List Ky} {w w6 : World} {vK : Value} {bm j : Nat} {v v' : Value} {W W' : World} {x : Ln} (h : LstR L m w w6 vK bm j v W) (h6 : w.heap.size ≤ w6.heap.size) (hbm : bm < w.heap.size)
    (hown : rowB.Own w6.heap.size W' v' (rowsK L (m.take j) ++ [x])) (hg : W.grownBy W' v.ownBlock) (hj : rowsK L (m.take (j + 1)) = rowsK L (m.take j) ++ [x]) : LstR L m w w6 vK bm (j + 1) v' W' := by
  have hv : ∀ g, v.ownBlock = some g → w6.heap.size ≤ g := fun g e => (h.own.own g e).1
  refine ⟨by rw [hj]; exact hown, h.keys.kept' hg ?_, h.kb, h.map.kept hg (fun e => by have := hv _ e.symm; omega), below_own h.bel (Nat.le_refl _) hg (fun g e => by have := hv g e; omega), Nat.le_trans h.sz hg.size⟩
  cases hk : vK.ownBlock with
  | none => exact .inl rfl
  | some g => exact .inr (fun e => by have := hv g e.symm; have := h.kb g hk; omega)
theorem step_append1dh {α : Type} {R : Row α} (ok : R.Ok) {ops : Array Oper} {o : Oper} {a : Act} {K : Act → World → Prop} {Q : Exit → Act → World → Prop} {E : Prop} (hgd : o.guard = none) (s t : Operand)
    (ho : o.op = .call { callee := .builtin .append, args := #[s, t], argTypes := #[R.S, R.S] })
    (B : Nat) (v : Value) (ns : List α) (w : World) (H : Nat) (hH : w.heap.size = H) (x : α) (cs : Array Value) (E' : TypeId) (hcs : cs = (R.enc x).toArray) (hE : E' = R.E) (hs : a.eval s = v) (hown : R.Own B w v ns) (hx : a.eval t = .slice (some ⟨H, 0, none⟩) 1 1)
    (hB : B ≤ w.heap.size) (hn : ns.length + 1 ≤ 1000000)
    (h : ∀ v' w', R.Own B w' v' (ns ++ [x]) → w.grownBy w' v.ownBlock → (v'.ownBlock = v.ownBlock ∨ ∃ g, v'.ownBlock = some g ∧ w.heap.size ≤ g) → K (a.put o.dst v') w') :
    if Region.wanted o (yielded ops a.tmps) = true then Oper.wp Tryz.prog o a (w.alloc (.cells cs E')).drew K Q else E := by
  subst hH
  exact Row.step_append1d ok hgd s t ho B v ns w x cs E' hcs hE hs hown hx hB hn h
set_option maxRecDepth 100000 in
set_option maxHeartbeats 8000000 in
theorem list_s (bm : Nat) (L : List Ln) (w : World) (h : SumM L bm w) (hsm : ∀ x ∈ L, Sml x) (hL : L.length ≤ 10000) (hcan : ∀ x ∈ L, canB x = true) :
    Calls Tryz.prog 72 #[.map (some bm)] w (ListP (nrmL L) w) := by
  have hbm := NmR.lt h
  have HP := Lib.hid (fun W v (h1 : rowB.Own w.heap.size W v (nrmL L)) (h2 : Below w.heap.size w W) => (show ListP (nrmL L) w (.returned v) W from ⟨v, rfl, h1, h2⟩))
  have HN := Lib.hid h
  have HS := Lib.hid hsm
  have HC := Lib.hid hcan
  have hLL := Lib.hid hL
  clear h hsm hcan hL
  generalize ListP (nrmL L) w = Post at *
  go_enter Tryz.func72, Tryz.ntmps72
  go_wp2_with fail
  refine (Keys_any bm _).mono ?_
  rintro e w4 ⟨rfl, hw4⟩
  have hB4 : Below w.heap.size w w4 := by rw [hw4]; exact (Below.refl _ _).alloc (Nat.le_refl _) _
  have hcell4 : w4.cell? ⟨w.heap.size, 0, none⟩ = some (.map (some bm)) := by rw [hw4]; go_simp
  have hsz4 : w4.heap.size = w.heap.size + 1 := by rw [hw4]; simp
  have HN4 := Lib.hid (HN.out.below hB4)
  obtain ⟨f, ks, ⟨D, hown, him, hat, hhas⟩, hf, hks⟩ := HN4.out
  have hsd := hown.size_le
  have hsk := Lib.hid (SortedK_any w.heap.size bm L.length D w4 (by omega) hcell4 hown (by have := hLL.out; omega))
  have hkeys := Lib.hid (fun m (hm : KeysD D m) hs => keys_of HS.out (D := D) (ks := ks) (m := m) (fun s => by
    have := hks s
    rwa [List.take_length] at this) hhas hm hs)
  have HSD := Lib.hid hsd
  have HB4 := Lib.hid hB4
  have HSZ4 := Lib.hid hsz4
  clear hw4 hB4 hcell4 hown him hat hhas hf hks hsd hsz4 HN
  go_wp2_with fail
  refine hsk.out.mono ?_
  rintro e w6 ⟨vK, m, rfl, hkd, hsr, hoK, hb6⟩
  obtain ⟨hord, hmem, hsmk⟩ := hkeys.out m hkd hsr
  have hml : m.length ≤ 10000 := Nat.le_trans hkd.2.2.1 (Nat.le_trans HSD.out hLL.out)
  have HRN := Lib.hid (show rowsK L m = nrmL L from rowsK_nrm HC.out hord hmem)
  have HSMK := Lib.hid hsmk
  have HMEM := Lib.hid hmem
  have hs46 := hb6.size
  rw [HSZ4.out] at hs46
  have R2 := Lib.hid (show LstR L m w w6 vK bm 0 (.slice none 0 0) w6 from ⟨Row.Own.nil _ _, hoK.mono (by rw [HSZ4.out]; omega), fun g e => (hoK.own g e).2, HN4.out.below hb6, HB4.out.trans (hb6.mono HB4.out.size), Nat.le_refl _⟩)
  obtain ⟨AK, cK, rfl, _⟩ := hoK.rds
  clear hsk hkeys hkd hsr hord hmem hsmk hoK hb6 HN4 HB4 HSD
  obtain ⟨q, hq⟩ : ∃ q, m.length = q := ⟨_, rfl⟩
  have HQ := Lib.hid hq
  rw [hq] at R2 hml ⊢
  clear hq
  go_wp2_with fail
  go_loopw [10, 5, 3] (fun i _ v wr => ∃ j : Nat, j ≤ q ∧ i = .int .i64 (j : Int) ∧ Hid (LstR L m w w6 (.slice AK q cK) bm j v wr)) (fun i _ _ _ => q - (intOf i).toNat)
  case atStart => exact ⟨0, by omega, rfl, R2⟩
  case round =>
    clear R2
    obtain ⟨j, hj, rfl, hR⟩ := hrel
    by_cases hlt : j < q
    · have hjm : j < m.length := by rw [HQ.out]; exact hlt
      obtain ⟨A', c', e', hrd⟩ := hR.out.keys.rds
      injection e' with e1 e2 e3
      subst e1 e3
      rw [HQ.out] at hrd
      clear e2
      obtain ⟨b1, o1, rfl, hb1, _⟩ := hrd.at_ (by omega)
      have r0 := hrd.cell rowK_ok ([], []) j 0 _ hlt rfl
      have r1 := hrd.cell rowK_ok ([], []) j 1 _ hlt rfl
      have hmemq : m.getD j ([], []) ∈ m := by
        rw [List.getD_eq_getElem?_getD, List.getElem?_eq_getElem hjm]; exact List.getElem_mem hjm
      have hsq := HSMK.out _ hmemq
      have htk := take_ky m j hjm
      have hsn := Lib.hid (rowsK_snoc L (m.take j) (m.getD j ([], [])))
      rw [← htk] at hsn
      have hji : (j : Int) < (q : Int) := by omega
      generalize m.getD j ([], []) = ky at *
      obtain ⟨ka, kc⟩ := ky
      simp only [Nat.add_zero] at r0 r1
      have hR5 := Lib.hid (hR.out.alloc (.cells #[.string ⟨ka.toArray⟩, .string ⟨kc.toArray⟩] 111))
      have hlk := hR5.out.map.look ka kc hsq
      rw [List.take_length] at hlk
      have hlk2 : (Instr.lookup 105 (.map (some bm)) (.agg #[.string ⟨ka.toArray⟩, .string ⟨kc.toArray⟩]) false).run Tryz.prog (wr.alloc (.cells #[.string ⟨ka.toArray⟩, .string ⟨kc.toArray⟩] 111)).drew = .ok (.string ⟨(txt (tot L (ka, kc))).toArray⟩) (wr.alloc (.cells #[.string ⟨ka.toArray⟩, .string ⟨kc.toArray⟩] 111)).drew := by
        have := (NmR.kept hR5.out.map (grown_drewN _ 1 none) (by simp)).look ka kc hsq
        rw [List.take_length] at this
        exact this
      have HSN := Lib.hid hsn.out
      have hlt5 : wr.heap.size < (wr.alloc (.cells #[.string ⟨ka.toArray⟩, .string ⟨kc.toArray⟩] 111)).heap.size := by simp
      have X5 := heap_alloc_new wr (.cells #[.string ⟨ka.toArray⟩, .string ⟨kc.toArray⟩] 111)
      have p0 : (wr.alloc (.cells #[.string ⟨ka.toArray⟩, .string ⟨kc.toArray⟩] 111)).cell? ⟨wr.heap.size, 0, none⟩ = some (.string ⟨ka.toArray⟩) := by rw [cell_of_row _ _ _ _ _ _ X5]; rfl
      have p1 : (wr.alloc (.cells #[.string ⟨ka.toArray⟩, .string ⟨kc.toArray⟩] 111)).cell? ⟨wr.heap.size, 1, none⟩ = some (.string ⟨kc.toArray⟩) := by rw [cell_of_row _ _ _ _ _ _ X5]; rfl
      clear hmemq hsq hsn X5 hrd hR htk hjm
      generalize hvv : txt (tot L (ka, kc)) = av at *
      rcases av with _ | ⟨v0, vr⟩
      · have RR := Lib.hid (hR5.out.skip (by rw [HSN.out, if_pos rfl, List.append_nil]))
        clear hvv p0 p1 hlt5 hlk2
        go_wp2_with fail
        exact ⟨⟨j + 1, by omega, by go_num, RR⟩, by simp [intOf]; omega⟩
      · have hO5 := hR5.out.own
        have HO5 := Lib.hid hO5
        have hlr := Lib.hid (rowsK_len L (m.take j))
        have hmt : (m.take j).length ≤ 10000 := by rw [List.length_take, HQ.out]; omega
        have hsz5 := Lib.hid hR5.out.sz
        have hrj := Lib.hid (show rowsK L (m.take (j + 1)) = rowsK L (m.take j) ++ [(ka, kc, v0 :: vr)] by rw [HSN.out, if_neg (by simp)])
        clear hvv hO5
        go_upto_region 6 with fail
        go_region_law (refine step_append1dh rowB_ok rfl (.tmp 18) (.tmp 27) rfl w6.heap.size _ (rowsK L (m.take j)) (wr.alloc (.cells #[.string ⟨ka.toArray⟩, .string ⟨kc.toArray⟩] 111)) (wr.heap.size + 1) (by simp) (ka, kc, v0 :: vr) _ _ rfl rfl rfl HO5.out rfl hsz5.out (by have := hlr.out; omega) ?_; intro v1 w7 hown1 hg1 hat)
        all_goals (
          have RR := Lib.hid (hR5.out.step (by omega) hbm hown1 hg1 hrj.out)
          clear hown1 hg1 hat
          simp only [Act.put, List.getElem_toArray, List.getElem_cons_succ, List.getElem_cons_zero, List.setIfInBounds_toArray, List.set_cons_succ, List.set_cons_zero]
          go_wp2_with fail
          exact ⟨⟨j + 1, by omega, by go_num, RR⟩, by simp [intOf]; omega⟩)
    · have hjq : j = q := by omega
      subst hjq
      have hji : ¬ (j : Int) < (j : Int) := by omega
      have hO := hR.out.own
      have etk : m.take j = m := List.take_of_length_le (by rw [HQ.out]; exact Nat.le_refl _)
      rw [etk, HRN.out] at hO
      have HO := Lib.hid (Row.Own.mono hO (Nat.le_trans (Nat.le_succ _) hs46))
      have HB := Lib.hid hR.out.bel
      clear etk hO hR
      go_wp2_with fail
      exact HP.out _ _ HO.out HB.out
end Go.Proofs.YtohdpidlilhnjaaGreatDoor

/- Contracts of the sorting of entries: insertionSortCmpFunc, pdqsortCmpFunc (12 elements or fewer), SortFunc. -/
namespace Go.Proofs.YtohdpidlilhnjaaGreatDoor
open Go.RowKit Go.Maps Num

def cE (p q : RE) : Int := cmpE p.2 q.2
theorem cE_cmp : Cmp cE := cmpE_cmp.pull Prod.snd
theorem getD_mem {α : Type} (x0 : α) (l : List α) (k : Nat) (h : k < l.length) : l.getD k x0 ∈ l := by
  rw [List.getD_eq_getElem?_getD, List.getElem?_eq_getElem h]
  exact List.getElem_mem h
/-- the comparison of two entries that lie in memory -/
theorem ecmp_re (p q : RE) (w : World) (hp : RdE w p) (hq : RdE w q) :
    Calls Tryz.prog 63 #[.agg (encE p).toArray, .agg (encE q).toArray] w fun e w' => e = .returned (.int .i64 (cE p q)) ∧ Below w.heap.size w w' := by
  obtain ⟨⟨d1, z1, A1, n1, c1⟩, e1, f1, k1⟩ := p
  obtain ⟨⟨d2, z2, A2, n2, c2⟩, e2, f2, k2⟩ := q
  obtain ⟨h1, h2, h3⟩ := hp
  obtain ⟨h4, h5, h6⟩ := hq
  simp only at h1 h2 h4 h5
  subst h1 h2 h4 h5
  exact ecmp_any d1 d2 z1 z2 A1 A2 n1 c1 n2 c2 k1 k2 w h3 h6
/-- the row holds, up to place k, entries in order -/
def OutR (B : Nat) (w : World) (v : Value) (g : Nat) (ps : List RE) (k : Nat) (W : World) : Prop :=
  ∃ qs : List RE, qs.Perm ps ∧ Upto cE re0 qs (k - 1) ∧ rowE.Own B W v qs ∧ w.grownBy W (some g)
def InR (B : Nat) (w : World) (v : Value) (g : Nat) (ps : List RE) (k q : Nat) (W : World) : Prop :=
  ∃ qs : List RE, qs.Perm ps ∧ Sink cE re0 qs q k ∧ rowE.Own B W v qs ∧ w.grownBy W (some g)
theorem InR.dr {B : Nat} {w W : World} {v : Value} {g : Nat} {ps : List RE} {k q : Nat} (h : Hid (InR B w v g ps k q W)) : Hid (InR B w v g ps k q W.drew) := by
  obtain ⟨qs, q1, q2, q3, q4⟩ := h.out
  exact ⟨qs, q1, q2, q3.dr 1, grown_below q4 (below_dr (Below.refl W.heap.size W) 1)⟩
def SortP (B : Nat) (w : World) (v : Value) (ps : List RE) (e : Ending) (w' : World) : Prop :=
  e = .returned (.tuple #[]) ∧ ∃ qs : List RE, qs.Perm ps ∧ Srt cE qs ∧ rowE.Own B w' v qs ∧ w.grownBy w' v.ownBlock
set_option maxRecDepth 100000 in
set_option maxHeartbeats 1500000 in
theorem insort_any (B g cap n : Nat) (w0 w : World) (ps : List RE) (hown : rowE.Own B w (.slice (some ⟨g, 0, none⟩) n cap) ps) (hr : ∀ p ∈ ps, RdE w0 p) (hb0 : Below w0.heap.size w0 w) (hB : w0.heap.size ≤ B) (hgB : B ≤ g) (hgs : g < w.heap.size) (hn : n ≤ 1000) (hlen : ps.length = n) :
    Calls Tryz.prog 150 #[.slice (some ⟨g, 0, none⟩) n cap, .int .i64 0, .int .i64 (n : Int), .func (.func 63) #[] #[]] w (SortP B w (.slice (some ⟨g, 0, none⟩) n cap) ps) := by
  have HL := Lib.hid hlen
  have HR := Lib.hid hr
  have H0 := Lib.hid hb0
  have R0 := Lib.hid (show OutR B w (.slice (some ⟨g, 0, none⟩) n cap) g ps 1 w from ⟨ps, List.Perm.refl _, fun p q h1 h2 => by omega, hown, grown_refl w _⟩)
  have HBW := Lib.hid (fun W (h : w.grownBy W (some g)) => below_own hb0 (Nat.le_refl _) h (fun q e => by cases e; exact Nat.le_trans hB hgB))
  have HP := Lib.hid (show ∀ W, (∃ qs : List RE, qs.Perm ps ∧ Srt cE qs ∧ rowE.Own B W (.slice (some ⟨g, 0, none⟩) n cap) qs ∧ w.grownBy W (some g)) → SortP B w (.slice (some ⟨g, 0, none⟩) n cap) ps (.returned (.tuple #[])) W from fun W h => ⟨rfl, h⟩)
  clear hown hr hb0 hlen
  generalize SortP B w (.slice (some ⟨g, 0, none⟩) n cap) ps = Post at *
  go_enter Tryz.func150, Tryz.ntmps150
  go_wp2_with fail
  go_loopw [8] (fun i wr => ∃ k : Nat, 1 ≤ k ∧ (k ≤ n ∨ k = 1) ∧ i = .int .i64 (k : Int) ∧ Hid (OutR B w (.slice (some ⟨g, 0, none⟩) n cap) g ps k wr)) (fun i _ => n - (intOf i).toNat)
  case atStart => exact ⟨1, by omega, .inr rfl, rfl, R0⟩
  case round =>
    clear R0
    obtain ⟨k, hk1, hk2, rfl, hR⟩ := hrel
    by_cases hlt : k < n
    case neg =>
      have hki : decide ((k : Int) < (n : Int)) = false := by rw [decide_eq_false_iff_not]; omega
      obtain ⟨qs, q1, q2, q3, q4⟩ := hR.out
      have hq := Lib.hid (HP.out wr ⟨qs, q1, upto_srt q2 (by have := q1.length_eq; rw [HL.out] at this; omega), q3, q4⟩)
      clear q1 q2 q3 q4 hR
      go_wp2_with fail
      go_end0
      exact hq.out
    have hki : (k : Int) < (n : Int) := by omega
    obtain ⟨wo, hwo⟩ : ∃ wo, wo = wr := ⟨_, rfl⟩
    subst hwo
    go_wp2_with fail
    have I0 := Lib.hid (show InR B w (.slice (some ⟨g, 0, none⟩) n cap) g ps k k wo by
      obtain ⟨qs, q1, q2, q3, q4⟩ := hR.out
      have := sink_start q2
      rw [show k - 1 + 1 = k by omega] at this
      exact ⟨qs, q1, this, q3, q4⟩)
    clear hR
    go_loopw [9] (fun j wr => ∃ q : Nat, q ≤ k ∧ j = .int .i64 (q : Int) ∧ Hid (InR B w (.slice (some ⟨g, 0, none⟩) n cap) g ps k q wr)) (fun j _ => (intOf j).toNat)
    case atStart => exact ⟨k, Nat.le_refl _, rfl, I0⟩
    case round =>
      clear I0
      obtain ⟨q, hq, rfl, hI⟩ := hrel
      obtain ⟨qs, q1, q2, q3, q4⟩ := hI.out
      have hql := q1.length_eq
      rw [HL.out] at hql
      have Q1 := Lib.hid q1
      have Q2 := Lib.hid q2
      have Q3 := Lib.hid q3
      have Q4 := Lib.hid q4
      have HW := Lib.hid (HBW.out _ q4)
      have hgr : g < wr.heap.size := Nat.lt_of_lt_of_le hgs q4.size
      clear hI q1 q2 q3 q4
      by_cases hz : q = 0
      · subst hz
        have hzi : decide ((0 : Int) < ((0 : Nat) : Int)) = false := by decide
        have hU := Lib.hid (sink_zero Q2.out)
        go_wp2_with fail
        go_quiet (fail)
        have Q4' := Lib.hid (grown_below Q4.out (below_dr (Below.refl wr.heap.size wr) nq))
        have hO := Lib.hid (show OutR B w (.slice (some ⟨g, 0, none⟩) n cap) g ps (k + 1) (wr.drewN nq) from ⟨qs, Q1.out, hU.out, Q3.out.dr nq, Q4'.out⟩)
        go_wp2_with fail
        exact ⟨⟨k + 1, by omega, .inl (by omega), by go_num, hO⟩, by simp [intOf]; omega⟩
      · obtain ⟨j, hj⟩ : ∃ j, q = j + 1 := ⟨q - 1, by omega⟩
        have hjn : j < n := by omega
        have hqn : q < n := by omega
        have hmx := getD_mem re0 qs q (by omega)
        have hmy := getD_mem re0 qs j (by omega)
        have hRx := (HR.out _ (Q1.out.mem_iff.1 hmx)).below HW.out
        have hRy := (HR.out _ (Q1.out.mem_iff.1 hmy)).below HW.out
        obtain ⟨r0, r1, r2⟩ := own_cells3 Q3.out q hqn
        obtain ⟨s0, s1, s2⟩ := own_cells3 Q3.out j hjn
        have hst := Lib.hid (fun h => sink_step (x0 := re0) (show Sink cE re0 qs (j + 1) k by rw [← hj]; exact Q2.out) (by omega) (by omega) h)
        have hsp := Lib.hid (fun h => sink_stop cE_cmp (x0 := re0) (show Sink cE re0 qs (j + 1) k by rw [← hj]; exact Q2.out) (by omega) h)
        rw [← hj] at hst hsp
        have hex := Lib.hid (show exch re0 qs j = (qs.set q (qs.getD j re0)).set j (qs.getD q re0) by rw [hj]; rfl)
        have hpm := Lib.hid (show (exch re0 qs j).Perm ps from (exch_perm qs j (by omega)).trans Q1.out)
        have ce := ecmp_re (qs.getD q re0) (qs.getD j re0) wr.drew (hRx.below (below_dr (Below.refl _ _) 1)) (hRy.below (below_dr (Below.refl _ _) 1))
        have hw : IntKind.i64.wrap ((q : Int) - 1) = (j : Int) := (IntWalk.i64_in _ (by omega)).trans (by omega)
        have hqi : (q : Int) < (n : Int) := by omega
        have hji : (j : Int) < (n : Int) := by omega
        have hq0 : 0 < q := by omega
        have hq0i : (0 : Int) < (q : Int) := by omega
        generalize hxe : qs.getD q re0 = x at *
        generalize hye : qs.getD j re0 = y at *
        obtain ⟨⟨d1, z1, A1, n1, c1⟩, x2⟩ := x
        obtain ⟨⟨d2, z2, A2, n2, c2⟩, y2⟩ := y
        simp only at r0 r1 r2 s0 s1 s2
        simp only [encE, rawA, rawN, rawC] at ce
        generalize cE ((d1, z1, A1, n1, c1), x2) ((d2, z2, A2, n2, c2), y2) = cv at *
        have CE := Lib.hid ce
        have HBr := Lib.hid (Below.refl wr.heap.size wr)
        have HS := Lib.hid (And.intro r0 (And.intro r1 (And.intro r2 (And.intro s0 (And.intro s1 s2)))))
        have hjh := Lib.hid hj
        clear ce hmx hmy hRx hRy hxe hye hj
        go_wp2_with fail
        go_region_held3 (fun w' => w'.cell? ⟨g, q * 3, none⟩ = some (.int .i64 d1) ∧ w'.cell? ⟨g, q * 3 + 1, none⟩ = some (.string ⟨z1.toArray⟩) ∧ w'.cell? ⟨g, q * 3 + 2, none⟩ = some (.slice A1 n1 c1) ∧ w'.cell? ⟨g, j * 3, none⟩ = some (.int .i64 d2) ∧ w'.cell? ⟨g, j * 3 + 1, none⟩ = some (.string ⟨z2.toArray⟩) ∧ w'.cell? ⟨g, j * 3 + 2, none⟩ = some (.slice A2 n2 c2))
          (first | exact ⟨f0, f1, f2, f3, f4, f5⟩ | exact ⟨r0, r1, r2, s0, s1, s2⟩ | go_keep)
          (first
            | (go_at_call 63; refine CE.out.mono ?_; rintro e w' ⟨rfl, hb⟩; have HBr := Lib.hid (below_next HBr.out hb ⟨rfl, rfl, rfl, rfl⟩); have f0 := (HBr.out.cell (p := ⟨g, q * 3, none⟩) hgr).trans HS.out.1; have f1 := (HBr.out.cell (p := ⟨g, q * 3 + 1, none⟩) hgr).trans HS.out.2.1; have f2 := (HBr.out.cell (p := ⟨g, q * 3 + 2, none⟩) hgr).trans HS.out.2.2.1; have f3 := (HBr.out.cell (p := ⟨g, j * 3, none⟩) hgr).trans HS.out.2.2.2.1; have f4 := (HBr.out.cell (p := ⟨g, j * 3 + 1, none⟩) hgr).trans HS.out.2.2.2.2.1; have f5 := (HBr.out.cell (p := ⟨g, j * 3 + 2, none⟩) hgr).trans HS.out.2.2.2.2.2; clear hb))
        have Q3' := Lib.hid (Q3.out.below HBr.out)
        have Q4' := Lib.hid (grown_below Q4.out HBr.out)
        by_cases hc : cv < 0
        · have k0 := Q3'.out.frz (q * 3)
          have k1 := Q3'.out.frz (q * 3 + 1)
          have k2 := Q3'.out.frz (q * 3 + 2)
          have k3 := Q3'.out.frz (j * 3)
          have k4 := Q3'.out.frz (j * 3 + 1)
          have k5 := Q3'.out.frz (j * 3 + 2)
          have hSt := Lib.hid (hst.out hc)
          clear r0 r1 r2 s0 s1 s2 hst hsp
          have nn0 : q * 3 ≠ j * 3 + 1 := by omega
          have nn1 : q * 3 ≠ j * 3 + 2 := by omega
          have nn2 : q * 3 + 1 ≠ j * 3 := by omega
          have nn3 : q * 3 + 2 ≠ j * 3 := by omega
          have nn4 : q * 3 + 1 ≠ j * 3 + 2 := by omega
          have nn5 : q * 3 + 2 ≠ j * 3 + 1 := by omega
          have nn6 : q ≠ j := by have := hjh.out; omega
          have nn7 : q * 3 ≠ j * 3 := by have := hjh.out; omega
          have nn8 : j * 3 ≠ q * 3 + 1 := by omega
          have nn9 : j * 3 ≠ q * 3 + 2 := by omega
          have nn10 : j * 3 + 1 ≠ q * 3 := by omega
          have nn11 : j * 3 + 2 ≠ q * 3 := by omega
          have nn12 : j * 3 + 1 ≠ q * 3 + 2 := by omega
          have nn13 : j * 3 + 2 ≠ q * 3 + 1 := by omega
          have nn14 : j ≠ q := by have := hjh.out; omega
          have nn15 : j * 3 ≠ q * 3 := by have := hjh.out; omega
          go_wp2_with fail
          go_region
          clear k0 k1 k2 k3 k4 k5 f0 f1 f2 f3 f4 f5 nn0 nn1 nn2 nn3 nn4 nn5 nn6 nn7 nn8 nn9 nn10 nn11 nn12 nn13 nn14 nn15
          have hI := Lib.hid (show InR B w (.slice (some ⟨g, 0, none⟩) n cap) g ps k j ((((((w'.setCell ⟨g, q * 3, none⟩ (.int .i64 d2)).setCell ⟨g, q * 3 + 1, none⟩ (.string ⟨z2.toArray⟩)).setCell ⟨g, q * 3 + 2, none⟩ (.slice A2 n2 c2)).setCell ⟨g, j * 3, none⟩ (.int .i64 d1)).setCell ⟨g, j * 3 + 1, none⟩ (.string ⟨z1.toArray⟩)).setCell ⟨g, j * 3 + 2, none⟩ (.slice A1 n1 c1)) by
            obtain ⟨o1, t1⟩ := Q3'.out.set3 rowE_ok.hk rfl q ((d2, z2, A2, n2, c2), y2) (.int .i64 d2) (.string ⟨z2.toArray⟩) (.slice A2 n2 c2) (by omega) rfl
            obtain ⟨o2, t2⟩ := o1.set3 rowE_ok.hk rfl j ((d1, z1, A1, n1, c1), x2) (.int .i64 d1) (.string ⟨z1.toArray⟩) (.slice A1 n1 c1) (by rw [List.length_set]; omega) rfl
            rw [← hex.out] at o2
            exact ⟨_, hpm.out, hSt.out, o2, grown_tr Q4'.out (grown_tr t1 t2)⟩)
          go_wp2_with fail
          go_roundw
          case rel => exact ⟨j, by have := hjh.out; omega, by go_num, InR.dr hI⟩
          case measure => (have := hjh.out; have := hw; simp [intOf]; omega)
        · have hU := Lib.hid (hsp.out (by omega))
          have hO := Lib.hid (show OutR B w (.slice (some ⟨g, 0, none⟩) n cap) g ps (k + 1) w' from ⟨qs, Q1.out, hU.out, Q3'.out, Q4'.out⟩)
          go_wp2_with fail
          exact ⟨⟨k + 1, by omega, .inl (by omega), by go_num, hO⟩, by simp [intOf]; omega⟩
theorem SortP.nil (B : Nat) (w : World) (A : Option Addr) (c : Nat) (h : rowE.Own B w (.slice A 0 c) []) : SortP B w (.slice A 0 c) [] (.returned (.tuple #[])) w :=
  ⟨rfl, [], List.Perm.refl _, List.Pairwise.nil, h, grown_refl w _⟩
set_option maxRecDepth 100000 in
theorem insort_nil (A : Option Addr) (c : Nat) (w : World) : Calls Tryz.prog 150 #[.slice A 0 c, .int .i64 0, .int .i64 0, .func (.func 63) #[] #[]] w fun e w' => e = .returned (.tuple #[]) ∧ w = w' := by
  go_enter Tryz.func150, Tryz.ntmps150
  go_wp2_with fail
  refine wp_loop_rounds 1 ?_
  rw [rounds_succ]
  go_wp2_with fail
  go_end0
  exact ⟨rfl, rfl⟩
theorem insort_all (B : Nat) (v : Value) (n : Nat) (w0 w : World) (ps : List RE) (hown : rowE.Own B w v ps) (hr : ∀ p ∈ ps, RdE w0 p) (hb0 : Below w0.heap.size w0 w) (hB : w0.heap.size ≤ B) (hn : n ≤ 1000) (hlen : ps.length = n) :
    Calls Tryz.prog 150 #[v, .int .i64 0, .int .i64 (n : Int), .func (.func 63) #[] #[]] w (SortP B w v ps) := by
  by_cases h0 : 0 < ps.length
  · obtain ⟨g, cap, rfl, hg, hgs, _⟩ := hown.pos h0
    rw [hlen] at hown ⊢
    exact insort_any B g cap n w0 w ps hown hr hb0 hB hg hgs hn hlen
  · have hp : ps = [] := List.eq_nil_of_length_eq_zero (by omega)
    subst hp
    obtain ⟨A, c, rfl⟩ := hown.slice
    simp only [List.length_nil] at hlen hown ⊢
    subst hlen
    exact (insort_nil A c w).mono fun e w' ⟨he, hw⟩ => by subst he hw; exact SortP.nil B w A c hown
set_option maxRecDepth 100000 in
theorem pdq_any (B : Nat) (A : Option Addr) (n c : Nat) (lim : Int) (w0 w : World) (ps : List RE) (hown : rowE.Own B w (.slice A n c) ps) (hr : ∀ p ∈ ps, RdE w0 p) (hb0 : Below w0.heap.size w0 w) (hB : w0.heap.size ≤ B) (hn : n ≤ 12) (hlen : ps.length = n) :
    Calls Tryz.prog 105 #[.slice A n c, .int .i64 0, .int .i64 (n : Int), .int .i64 lim, .func (.func 63) #[] #[]] w (SortP B w (.slice A n c) ps) := by
  have HI := Lib.hid (insort_all B (.slice A n c) n w0 w ps hown hr hb0 hB (by omega) hlen)
  clear hown hr hb0 hlen hB
  have hd : decide ((n : Int) ≤ 12) = true := by rw [decide_eq_true_iff]; omega
  unfold SortP at *
  go_enter Tryz.func105, Tryz.ntmps105
  go_wp2_with fail
  refine wp_loop_rounds 1 ?_
  rw [rounds_succ]
  go_wp2_with fail
  refine HI.out.mono ?_
  rintro e w1 ⟨rfl, h⟩
  have HH := Lib.hid h
  clear h
  go_wp2_with fail
  (try simp only [Exit.inBlock, Exit.then]); refine bodyPost_ret (results_none rfl _ _ _) rfl ?_
  exact ⟨rfl, HH.out⟩
theorem len_any (n : Nat) (hn : n ≤ 12) (w : World) : Calls Tryz.prog 106 #[.int .u64 (n : Int)] w fun e w' => ∃ i : Int, e = .returned (.int .i64 i) ∧ w = w' := by
  have hl := fun W => Any.bits_Len (SlLaysF0.n15.bits (P := Tryz.prog) (ρ := Tryz.laysSortK_ren) { Tryz.laysSortK with }) n W (by omega) (by omega)
  exact Calls.mono (show Calls Tryz.prog 106 #[.int .u64 (n : Int)] w _ from hl w) fun e w' h => ⟨_, h.1, h.2.symm⟩
set_option maxRecDepth 100000 in
theorem sortE_any (B : Nat) (v : Value) (w0 w : World) (ps : List RE) (hown : rowE.Own B w v ps) (hr : ∀ p ∈ ps, RdE w0 p) (hb0 : Below w0.heap.size w0 w) (hB : w0.heap.size ≤ B) (hn : ps.length ≤ 12) :
    Calls Tryz.prog 62 #[v, .func (.func 63) #[] #[]] w (SortP B w v ps) := by
  obtain ⟨A, c, rfl⟩ := hown.slice
  obtain ⟨n, hlen⟩ : ∃ n, ps.length = n := ⟨_, rfl⟩
  rw [hlen] at hown hn ⊢
  have HI := Lib.hid (fun lim => pdq_any B A n c lim w0 w ps hown hr hb0 hB hn hlen)
  have HL := Lib.hid (fun W => len_any n hn W)
  clear hown hr hb0 hlen hB
  unfold SortP at *
  go_enter Tryz.func62, Tryz.ntmps62
  go_wp2_with fail
  refine (HL.out _).mono ?_
  rintro e w1 ⟨lim, rfl, rfl⟩
  go_wp2_with fail
  refine (HI.out _).mono ?_
  rintro e w1 ⟨rfl, h⟩
  have HH := Lib.hid h
  clear h HI HL
  go_wp2_with fail
  go_end0
  exact ⟨rfl, HH.out⟩
end Go.Proofs.YtohdpidlilhnjaaGreatDoor

/- Contracts of slices.IndexFunc and ContainsFunc at the closure 101: an entry that is not valid (printed by gen_idx.py). -/
namespace Go.Proofs.YtohdpidlilhnjaaGreatDoor
open Go.RowKit Go.Maps Num

/-- the entry is not valid -/
def badR (p : RE) : Bool := decide (chkE p.2.1 p.2.2.1 p.2.2.2 ≠ 0)
theorem any_snoc (l : List RE) (k : Nat) (h : k < l.length) : (l.take (k + 1)).any badR = ((l.take k).any badR || badR (l.getD k re0)) := by
  rw [List.take_succ_eq_append_getElem h, List.any_append, List.getD_eq_getElem?_getD, List.getElem?_eq_getElem h]
  simp
theorem any_hit (l : List RE) (k : Nat) (h : k < l.length) (hb : badR (l.getD k re0) = true) : l.any badR = true := List.any_eq_true.2 ⟨_, getD_mem re0 l k h, hb⟩
def IdxP (b : Bool) (w : World) (e : Ending) (w' : World) : Prop := ∃ i : Int, e = .returned (.int .i64 i) ∧ decide (0 ≤ i) = b ∧ Below w.heap.size w w'
set_option maxRecDepth 100000 in
theorem clo101_any (p : RE) (w : World) (hp : RdE w p) (hz : p.2.2.1.length ≤ 1000) (ht : Tab w) (hm : ML w) : Calls Tryz.prog 101 #[.agg (encE p).toArray] w (BoolPost (badR p) w) := by
  obtain ⟨⟨d1, z1, A1, n1, c1⟩, e1, f1, k1⟩ := p
  obtain ⟨h1, h2, h3⟩ := hp
  simp only at h1 h2 hz
  subst h1 h2
  have hb := Lib.hid (show badR ((d1, z1, A1, n1, c1), d1, z1, k1) = decide (chkE d1 z1 k1 ≠ 0) from rfl)
  have hB0 : Below w.heap.size w (w.alloc (.cells #[.int .i64 d1, .string ⟨z1.toArray⟩, .slice A1 n1 c1] 39)) := (Below.refl _ w).alloc (Nat.le_refl _) _
  have hc := Chk_any d1 z1 A1 n1 c1 k1 _ (Lns.below h3 hB0) (by unfold maxLen; omega) (ht.below hB0) (hm.below hB0)
  unfold IntPost enV at hc
  have HC := Lib.hid hc
  have HB := Lib.hid hB0
  generalize badR ((d1, z1, A1, n1, c1), d1, z1, k1) = r at *
  generalize chkE d1 z1 k1 = v at *
  clear hc hB0 h3
  unfold encE rawA rawN rawC
  simp only
  go_enter Tryz.func101, Tryz.ntmps101
  go_wp2_with fail
  refine HC.out.mono ?_
  rintro e w1 ⟨rfl, hb1⟩
  have HB2 := Lib.hid (below_next HB.out hb1 ⟨rfl, rfl, rfl, rfl⟩)
  clear hb1 HC
  go_wp2_with fail
  go_ret
  refine ⟨?_, HB2.out⟩
  rw [hb.out]
  by_cases h : v = 0
  · subst h; rfl
  · have : (v != 0) = true := by rw [bne_iff_ne]; exact h
    rw [this, decide_eq_true h]; rfl
set_option maxRecDepth 100000 in
set_option maxHeartbeats 4000000 in
theorem idx101 (A : Option Addr) (n c : Nat) (ps : List RE) (w : World) (h : Res w A n c ps) (hz : ∀ p ∈ ps, p.2.2.1.length ≤ 1000) (hn : n ≤ 1000) (ht : Tab w) (hm : ML w) :
    Calls Tryz.prog 96 #[.slice A n c, .func (.func 101) #[] #[]] w (IdxP (ps.any badR) w) := by
  have ll := Lib.hid h.rds.len
  have L1 := Lib.hid h
  have HT := Lib.hid ht
  have HM := Lib.hid hm
  have HZ := Lib.hid hz
  have HS := Lib.hid (any_snoc ps)
  have HH := Lib.hid (any_hit ps)
  have HP := Lib.hid (show ∀ i W, decide (0 ≤ i) = ps.any badR → Below w.heap.size w W → IdxP (ps.any badR) w (.returned (.int .i64 i)) W from fun i W h1 h2 => ⟨i, rfl, h1, h2⟩)
  clear h ht hm hz
  generalize IdxP (ps.any badR) w = Post at *
  go_enter Tryz.func96, Tryz.ntmps96
  go_wp2_with fail
  have R0 := Lib.hid (show (ps.take 0).any badR = false ∧ Below w.heap.size w w from ⟨by simp, Below.refl _ _⟩)
  go_loopw [8, 5] (fun i _ wr => ∃ k : Nat, k ≤ n ∧ i = .int .i64 (k : Int) ∧ Hid ((ps.take k).any badR = false ∧ Below w.heap.size w wr)) (fun i _ _ => n - (intOf i).toNat)
  case atStart => exact ⟨0, by omega, rfl, R0⟩
  case round =>
    obtain ⟨k, hk, rfl, hR⟩ := hrel
    have HE := Lib.hid hR.out.1
    have HB := Lib.hid hR.out.2
    clear hR R0
    by_cases hlt : k < n
    · have hkl : k < ps.length := by rw [ll.out]; exact hlt
      have hmem := getD_mem re0 ps k hkl
      have hs1 := Lib.hid (HS.out k hkl)
      have hh1 := Lib.hid (HH.out k hkl)
      obtain ⟨b1, o1, rfl, hb1, _⟩ := L1.out.rds.at_ (by omega)
      have q0 := (L1.out.rds.below HB.out).cell rowE_ok re0 k 0 _ hlt rfl
      have q1 := (L1.out.rds.below HB.out).cell rowE_ok re0 k 1 _ hlt rfl
      have q2 := (L1.out.rds.below HB.out).cell rowE_ok re0 k 2 _ hlt rfl
      have cl := clo101_any (ps.getD k re0) wr ((L1.out.all _ hmem).below HB.out) (HZ.out _ hmem) (HT.out.below HB.out) (HM.out.below HB.out)
      have hki : (k : Int) < (n : Int) := by omega
      have hk0 : (0 : Int) ≤ (k : Int) := by omega
      generalize badR (ps.getD k re0) = bd at *
      generalize ps.getD k re0 = p at *
      obtain ⟨⟨d1, z1, A1, n1, c1⟩, e1, f1, k1⟩ := p
      unfold encE rawA rawN rawC at cl
      simp only [rawA, rawN, rawC, Nat.add_zero] at q0 q1 q2 cl
      have CL := Lib.hid cl
      clear cl hmem hkl
      go_wp2_with fail
      refine CL.out.mono ?_
      rintro e w1 ⟨rfl, hb⟩
      have HB2 := Lib.hid (below_next HB.out hb ⟨rfl, rfl, rfl, rfl⟩)
      clear hb CL
      cases bd
      · have HE2 := Lib.hid (show (ps.take (k + 1)).any badR = false by rw [hs1.out, HE.out]; rfl)
        go_wp2_with fail
        go_roundw
        case rel => exact ⟨k + 1, by omega, by go_num, Lib.hid ⟨HE2.out, HB2.out⟩⟩
        case measure => simp [intOf]; omega
      · have hv := Lib.hid (HP.out (k : Int) w1 (by rw [hh1.out rfl]; exact decide_eq_true hk0) HB2.out)
        go_wp2_with fail
        exact hv.out
    · have hki : decide ((k : Int) < (n : Int)) = false := by rw [decide_eq_false_iff_not]; omega
      have hv := Lib.hid (HP.out (-1) wr (by
        have e := HE.out
        rw [List.take_of_length_le (by rw [ll.out]; omega)] at e
        rw [e]; rfl) HB.out)
      go_wp2_with fail
      exact hv.out
set_option maxRecDepth 100000 in
theorem con101 (A : Option Addr) (n c : Nat) (ps : List RE) (w : World) (h : Res w A n c ps) (hz : ∀ p ∈ ps, p.2.2.1.length ≤ 1000) (hn : n ≤ 1000) (ht : Tab w) (hm : ML w) :
    Calls Tryz.prog 47 #[.slice A n c, .func (.func 101) #[] #[]] w (BoolPost (ps.any badR) w) := by
  have HI := Lib.hid (idx101 A n c ps w h hz hn ht hm)
  clear h hz ht hm
  go_enter Tryz.func47, Tryz.ntmps47
  go_wp2_with fail
  refine HI.out.mono ?_
  rintro e w1 ⟨i, rfl, hi, hb⟩
  have HI2 := Lib.hid hi
  have HB := Lib.hid hb
  clear hi hb HI
  go_wp2_with fail
  go_ret
  exact ⟨by rw [HI2.out]; rfl, HB.out⟩
end Go.Proofs.YtohdpidlilhnjaaGreatDoor

/- Contracts of ledger.during at the closures of Trial and Activity, ledger.valid, areEntries (printed by gen_dur.py). -/
namespace Go.Proofs.YtohdpidlilhnjaaGreatDoor
open Go.RowKit Go.Maps Num

def valD (d : Int) : Bool := decide (-25567 ≤ d) && decide (d ≤ 84005)
set_option maxRecDepth 100000 in
theorem valid_any (d : Int) (w : World) : Calls Tryz.prog 54 #[.int .i64 d] w (RetP (.bool (valD d)) w) := by
  unfold valD
  by_cases h1 : -25567 ≤ d
  · have e1 := decide_eq_true h1
    by_cases h2 : d ≤ 84005
    · have e2 := decide_eq_true h2
      go_enter Tryz.func54, Tryz.ntmps54
      go_wp2_with fail
      go_ret
      exact ⟨by rw [e1, e2]; rfl, rfl⟩
    · have e2 := decide_eq_false h2
      go_enter Tryz.func54, Tryz.ntmps54
      go_wp2_with fail
      go_ret
      exact ⟨rfl, rfl⟩
  · have e1 := decide_eq_false h1
    go_enter Tryz.func54, Tryz.ntmps54
    go_wp2_with fail
    go_ret
    exact ⟨rfl, rfl⟩
set_option maxRecDepth 100000 in
theorem areEn_any (A : Option Addr) (n c : Nat) (ps : List RE) (w : World) (h : Res w A n c ps) (hz : ∀ p ∈ ps, p.2.2.1.length ≤ 1000) (hn : n ≤ 1000) (ht : Tab w) (hm : ML w) :
    Calls Tryz.prog 53 #[.slice A n c] w (BoolPost (!ps.any badR) w) := by
  have HI := Lib.hid (con101 A n c ps w h hz hn ht hm)
  clear h hz ht hm
  go_enter Tryz.func53, Tryz.ntmps53
  go_wp2_with fail
  refine HI.out.mono ?_
  rintro e w1 ⟨rfl, hb⟩
  have HB := Lib.hid hb
  clear hb HI
  go_wp2_with fail
  go_ret
  exact ⟨rfl, HB.out⟩
theorem areEn_ok {ps : List RE} : (!ps.any badR) = true ↔ OkL (ps.map Prod.snd) := by
  rw [Bool.not_eq_true', List.any_eq_false]
  constructor
  · intro h e he
    obtain ⟨p, hp, rfl⟩ := List.mem_map.1 he
    have := h p hp
    unfold badR at this
    rw [decide_eq_true_iff] at this
    exact decide_eq_true (Classical.not_not.1 this)
  · intro h p hp hb
    have := of_decide_eq_true (h _ (List.mem_map_of_mem hp))
    unfold badR at hb
    rw [decide_eq_true_iff] at hb
    exact hb this
theorem flat_take (ps : List RE) (k : Nat) (h : k < ps.length) (p : Int → Bool) : flat ((ps.take (k + 1)).map Prod.snd) p = flat ((ps.take k).map Prod.snd) p ++ if p (ps.getD k re0).2.1 then (ps.getD k re0).2.2.2 else [] := by
  rw [List.take_succ_eq_append_getElem h, List.map_append, flat_append, List.getD_eq_getElem?_getD, List.getElem?_eq_getElem h]
  simp [flat]
theorem flatE_len (l : List En) (p : Int → Bool) (h : ∀ e ∈ l, e.2.2.length ≤ 64) : (flat l p).length ≤ 64 * l.length := by
  induction l with
  | nil => simp [flat]
  | cons e r ih =>
    have h1 := h e (by simp)
    have h2 := ih fun x hx => h x (List.mem_cons_of_mem _ hx)
    rw [flat_cons, List.length_append, List.length_cons, Nat.mul_add]
    split
    · omega
    · simp; omega
theorem OkL.len {l : List En} (h : OkL l) : ∀ e ∈ l, e.2.2.length ≤ 64 := fun e he => (chkE_parts (of_decide_eq_true (h e he))).2.2.1
/-- what the loop over the entries keeps -/
structure DurR (w : World) (L : List Ln) (W : World) : Prop where
  map : SumM L w.heap.size W
  bel : Below w.heap.size w W
theorem DurR.next {w W W' : World} {L : List Ln} (h : DurR w L W) (hb : Below W.heap.size W W') : DurR w L W' := ⟨h.map.below hb, below_next h.bel hb ⟨rfl, rfl, rfl, rfl⟩⟩
theorem DurR.al {w W : World} {L : List Ln} (h : DurR w L W) (o : Obj) : DurR w L (W.alloc o) := h.next ((Below.refl _ W).alloc (Nat.le_refl _) o)
theorem DurR.add {w W W' : World} {L L' : List Ln} (h : DurR w L W) (h1 : SumM L' w.heap.size W') (hg : W.grownBy W' (some w.heap.size)) : DurR w L' W' := ⟨h1, below_grown h.bel (Nat.le_refl _) hg (Nat.le_refl _)⟩
theorem DurR.start (w : World) : DurR w [] (w.alloc (.map #[] 0)) := ⟨SumM.zero w, (Below.refl _ w).alloc (Nat.le_refl _) _⟩

set_option maxRecDepth 100000 in
set_option maxHeartbeats 8000000 in
theorem during56 (bp : Nat) (acc : Int → Bool) (A : Option Addr) (n c : Nat) (ps : List RE) (w : World) (h : Res w A n c ps) (hok : OkL (ps.map Prod.snd)) (hn : n ≤ 20) (ht : Tab w)
    (hacc : ∀ W d, Below w.heap.size w W → Calls Tryz.prog 56 #[.int .i64 d, .pointer (some ⟨bp, 0, none⟩)] W (RetP (.bool (acc d)) W)) :
    Calls Tryz.prog 55 #[.slice A n c, .func (.func 56) #[] #[.pointer (some ⟨bp, 0, none⟩)]] w (ListP (nrmL (flat (ps.map Prod.snd) acc)) w) := by
  have ll := Lib.hid h.rds.len
  have L1 := Lib.hid h
  have HT := Lib.hid ht
  have HOK := Lib.hid hok
  have HA := Lib.hid hacc
  have HFT := Lib.hid (fun k hk => flat_take ps k hk acc)
  have HFL := Lib.hid (show ∀ k, (flat ((ps.take k).map Prod.snd) acc).length ≤ 1280 from fun k => by
    have h1 := flatE_len ((ps.take k).map Prod.snd) acc fun e he => by
      obtain ⟨p, hp, rfl⟩ := List.mem_map.1 he
      exact hok.len _ (List.mem_map_of_mem (List.mem_of_mem_take hp))
    have h2 : ((ps.take k).map Prod.snd).length ≤ 20 := by rw [List.length_map, List.length_take]; have := h.rds.len; omega
    omega)
  have HSM := Lib.hid (show ∀ k, ∀ x ∈ flat ((ps.take k).map Prod.snd) acc, Sml x from fun k x hx => by
    obtain ⟨e, he, _, hx⟩ := flat_mem hx
    obtain ⟨p, hp, rfl⟩ := List.mem_map.1 he
    exact (h.all p (List.mem_of_mem_take hp)).2.2.sml x hx)
  have HP := Lib.hid (fun W v (h1 : rowB.Own w.heap.size W v (nrmL (flat (ps.map Prod.snd) acc))) (h2 : Below w.heap.size w W) => (show ListP (nrmL (flat (ps.map Prod.snd) acc)) w (.returned v) W from ⟨v, rfl, h1, h2⟩))
  clear h hok ht hacc
  generalize ListP (nrmL (flat (ps.map Prod.snd) acc)) w = Post at *
  have R0 := Lib.hid (show DurR w (flat ((ps.take 0).map Prod.snd) acc) (w.alloc (.map #[] 0)) from DurR.start w)
  have hmm := @run_makeMap Tryz.prog
  go_enter Tryz.func55, Tryz.ntmps55
  go_wp2_with fail
  go_loopw [13, 7] (fun i _ wr => ∃ k : Nat, k ≤ n ∧ i = .int .i64 (k : Int) ∧ Hid (DurR w (flat ((ps.take k).map Prod.snd) acc) wr)) (fun i _ _ => n - (intOf i).toNat)
  case atStart => exact ⟨0, by omega, rfl, R0⟩
  case round =>
    clear R0
    obtain ⟨k, hk, rfl, hR⟩ := hrel
    by_cases hlt : k < n
    · have hkl : k < ps.length := by rw [ll.out]; exact hlt
      have hmem := getD_mem re0 ps k hkl
      have hft := Lib.hid (HFT.out k hkl)
      have hfl := Lib.hid (HFL.out k)
      have hfs := Lib.hid (HSM.out k)
      have hfs1 := Lib.hid (HSM.out (k + 1))
      obtain ⟨b1, o1, rfl, hb1, _⟩ := L1.out.rds.at_ (by omega)
      have q0 := (L1.out.rds.below hR.out.bel).cell rowE_ok re0 k 0 _ hlt rfl
      have q1 := (L1.out.rds.below hR.out.bel).cell rowE_ok re0 k 1 _ hlt rfl
      have q2 := (L1.out.rds.below hR.out.bel).cell rowE_ok re0 k 2 _ hlt rfl
      have hrd := Lib.hid ((L1.out.all _ hmem))
      have hlen := Lib.hid (HOK.out.len _ (List.mem_map_of_mem hmem))
      have hki : (k : Int) < (n : Int) := by omega
      generalize ps.getD k re0 = p at *
      obtain ⟨⟨d1, z1, A1, n1, c1⟩, e1, f1, k1⟩ := p
      simp only [rawA, rawN, rawC, Nat.add_zero] at q0 q1 q2
      obtain ⟨h1, h2, h3⟩ := hrd.out
      simp only [rawA, rawN, rawC] at h1 h2 h3
      subst h1 h2
      have hlen1 : k1.length ≤ 64 := hlen.out
      have hlen2 := Lib.hid h3.len
      have hnn : n1 ≤ 64 := by rw [← h3.len]; exact hlen1
      have H3 := Lib.hid h3
      simp only at hft
      have HR1 := Lib.hid (hR.out.al (.cells #[.int .i64 d1, .string ⟨z1.toArray⟩, .slice A1 n1 c1] 39))
      have X0 := Lib.hid (heap_alloc_new wr (.cells #[.int .i64 d1, .string ⟨z1.toArray⟩, .slice A1 n1 c1] 39))
      have hsz : (wr.alloc (.cells #[.int .i64 d1, .string ⟨z1.toArray⟩, .slice A1 n1 c1] 39)).heap.size = wr.heap.size + 1 := by simp
      have HSZ := Lib.hid hsz
      have HCL := Lib.hid (fun W (hb : Below w.heap.size w W) => HA.out W d1 hb)
      clear h3 hrd hlen hmem hR hsz
      go_wp2_with fail
      refine (HCL.out _ HR1.out.bel).mono ?_
      rintro e w1 ⟨rfl, hw1⟩
      obtain ⟨⟨x0, x1, x2⟩, _⟩ := cells3 X0.out
      subst hw1
      generalize wr.alloc (.cells #[.int .i64 d1, .string ⟨z1.toArray⟩, .slice A1 n1 c1] 39) = w1 at *
      cases hac : acc d1
      · have hRk := Lib.hid (show DurR w (flat ((ps.take (k + 1)).map Prod.snd) acc) w1 by rw [hft.out, hac, if_neg (by decide), List.append_nil]; exact HR1.out)
        clear HCL
        go_wp2_with fail
        exact ⟨⟨k + 1, by omega, by go_num, hRk⟩, by simp [intOf]; omega⟩
      · have HK := Lib.hid (show flat ((ps.take (k + 1)).map Prod.snd) acc = flat ((ps.take k).map Prod.snd) acc ++ k1 by rw [hft.out, hac, if_pos rfl])
        have hs1 := Lib.hid (show ∀ x ∈ flat ((ps.take k).map Prod.snd) acc ++ k1, Sml x by rw [← HK.out]; exact hfs1.out)
        clear hft hfs hfs1 HCL
        generalize flat ((ps.take k).map Prod.snd) acc = F0 at *
        have R1 := Lib.hid (show DurR w (F0 ++ k1.take 0) w1 by rw [List.take_zero, List.append_nil]; exact HR1.out)
        go_wp2_with fail
        go_loopw [24, 9] (fun i _ wr => ∃ j : Nat, j ≤ n1 ∧ i = .int .i64 (j : Int) ∧ Hid (DurR w (F0 ++ k1.take j) wr)) (fun i _ _ => n1 - (intOf i).toNat)
        case atStart => exact ⟨0, by omega, rfl, R1⟩
        case round =>
          clear R1
          obtain ⟨j, hj, rfl, hR2⟩ := hrel
          by_cases hltj : j < n1
          · have hjl : j < k1.length := by rw [hlen2.out]; exact hltj
            have HL2 := Lib.hid (H3.out.below hR2.out.bel)
            obtain ⟨b2, o2, rfl, hb2, hc2⟩ := HL2.out.at_ (by omega)
            obtain ⟨u0, u1, u2⟩ := hc2 j hltj
            have hji : (j : Int) < (n1 : Int) := by omega
            have htk := Lib.hid (take_ln k1 j hjl)
            generalize k1.getD j ln0 = x at *
            obtain ⟨a, cu, m⟩ := x
            simp only at u0 u1 u2
            have hsx := Lib.hid (show ∀ x ∈ (F0 ++ k1.take j) ++ [(a, cu, m)], Sml x from fun x hx => hs1.out x (by
              rw [List.append_assoc, ← htk.out] at hx
              rcases List.mem_append.1 hx with h | h
              · exact List.mem_append_left _ h
              · exact List.mem_append_right _ (List.mem_of_mem_take h)))
            have hll := Lib.hid (show (F0 ++ k1.take j).length < 10000 by
              rw [List.length_append, List.length_take]
              have := hfl.out
              omega)
            have HR3 := Lib.hid (hR2.out.al (.cells #[.string ⟨a.toArray⟩, .string ⟨cu.toArray⟩, .string ⟨m.toArray⟩] 40))
            have Y0 := cells3 (heap_alloc_new wr (.cells #[.string ⟨a.toArray⟩, .string ⟨cu.toArray⟩, .string ⟨m.toArray⟩] 40))
            obtain ⟨⟨y0, y1, y2⟩, _⟩ := Y0
            have HAD := Lib.hid (add_s w.heap.size (F0 ++ k1.take j) a cu m _ HR3.out.map hsx.out hll.out (HT.out.below HR3.out.bel))
            have HRX := Lib.hid (fun W h1 h2 => (show DurR w (F0 ++ k1.take (j + 1)) W by rw [htk.out, ← List.append_assoc]; exact HR3.out.add h1 h2))
            clear hR2 htk q0 q1 q2 x0 x1 x2 hc2
            go_wp2_with fail
            refine HAD.out.mono ?_
            rintro e w2 ⟨rfl, h1, h2⟩
            have RR := Lib.hid (HRX.out w2 h1 h2)
            clear h1 h2 HAD
            go_wp2_with fail
            exact ⟨⟨j + 1, by omega, by go_num, RR⟩, by simp [intOf]; omega⟩
          · have hjn : j = n1 := by omega
            subst hjn
            have hji : ¬ (j : Int) < (j : Int) := by omega
            have hRk := Lib.hid (show DurR w (flat ((ps.take (k + 1)).map Prod.snd) acc) wr by
              have := hR2.out
              rw [List.take_of_length_le (by rw [hlen2.out]; exact Nat.le_refl _), ← HK.out] at this
              exact this)
            clear hR2
            go_wp2_with fail
            exact ⟨⟨k + 1, by omega, by go_num, hRk⟩, by simp [intOf]; omega⟩
    · have hkn : k = n := by omega
      subst hkn
      have hki : ¬ (k : Int) < (k : Int) := by omega
      have e : ps.take k = ps := List.take_of_length_le (by rw [ll.out]; exact Nat.le_refl _)
      have hsm := HSM.out k
      have hfl := HFL.out k
      have hRk := hR.out
      rw [e] at hsm hfl hRk
      have HLS := Lib.hid (list_s w.heap.size _ wr hRk.map hsm (by omega) (HOK.out.can acc))
      have HB := Lib.hid hRk.bel
      clear hR hRk hsm hfl e
      go_wp2_with fail
      refine HLS.out.mono ?_
      rintro e w2 ⟨v, rfl, h1, h2⟩
      have H1 := Lib.hid (Row.Own.mono h1 HB.out.size)
      have H2 := Lib.hid (HB.out.trans (h2.mono HB.out.size))
      clear h1 h2 HLS
      go_wp2_with fail
      exact HP.out _ _ H1.out H2.out

set_option maxRecDepth 100000 in
set_option maxHeartbeats 8000000 in
theorem during88 (bp : Nat) (acc : Int → Bool) (A : Option Addr) (n c : Nat) (ps : List RE) (w : World) (h : Res w A n c ps) (hok : OkL (ps.map Prod.snd)) (hn : n ≤ 20) (ht : Tab w)
    (hacc : ∀ W d, Below w.heap.size w W → Calls Tryz.prog 88 #[.int .i64 d, .pointer (some ⟨bp, 0, none⟩)] W (RetP (.bool (acc d)) W)) :
    Calls Tryz.prog 55 #[.slice A n c, .func (.func 88) #[] #[.pointer (some ⟨bp, 0, none⟩)]] w (ListP (nrmL (flat (ps.map Prod.snd) acc)) w) := by
  have ll := Lib.hid h.rds.len
  have L1 := Lib.hid h
  have HT := Lib.hid ht
  have HOK := Lib.hid hok
  have HA := Lib.hid hacc
  have HFT := Lib.hid (fun k hk => flat_take ps k hk acc)
  have HFL := Lib.hid (show ∀ k, (flat ((ps.take k).map Prod.snd) acc).length ≤ 1280 from fun k => by
    have h1 := flatE_len ((ps.take k).map Prod.snd) acc fun e he => by
      obtain ⟨p, hp, rfl⟩ := List.mem_map.1 he
      exact hok.len _ (List.mem_map_of_mem (List.mem_of_mem_take hp))
    have h2 : ((ps.take k).map Prod.snd).length ≤ 20 := by rw [List.length_map, List.length_take]; have := h.rds.len; omega
    omega)
  have HSM := Lib.hid (show ∀ k, ∀ x ∈ flat ((ps.take k).map Prod.snd) acc, Sml x from fun k x hx => by
    obtain ⟨e, he, _, hx⟩ := flat_mem hx
    obtain ⟨p, hp, rfl⟩ := List.mem_map.1 he
    exact (h.all p (List.mem_of_mem_take hp)).2.2.sml x hx)
  have HP := Lib.hid (fun W v (h1 : rowB.Own w.heap.size W v (nrmL (flat (ps.map Prod.snd) acc))) (h2 : Below w.heap.size w W) => (show ListP (nrmL (flat (ps.map Prod.snd) acc)) w (.returned v) W from ⟨v, rfl, h1, h2⟩))
  clear h hok ht hacc
  generalize ListP (nrmL (flat (ps.map Prod.snd) acc)) w = Post at *
  have R0 := Lib.hid (show DurR w (flat ((ps.take 0).map Prod.snd) acc) (w.alloc (.map #[] 0)) from DurR.start w)
  have hmm := @run_makeMap Tryz.prog
  go_enter Tryz.func55, Tryz.ntmps55
  go_wp2_with fail
  go_loopw [13, 7] (fun i _ wr => ∃ k : Nat, k ≤ n ∧ i = .int .i64 (k : Int) ∧ Hid (DurR w (flat ((ps.take k).map Prod.snd) acc) wr)) (fun i _ _ => n - (intOf i).toNat)
  case atStart => exact ⟨0, by omega, rfl, R0⟩
  case round =>
    clear R0
    obtain ⟨k, hk, rfl, hR⟩ := hrel
    by_cases hlt : k < n
    · have hkl : k < ps.length := by rw [ll.out]; exact hlt
      have hmem := getD_mem re0 ps k hkl
      have hft := Lib.hid (HFT.out k hkl)
      have hfl := Lib.hid (HFL.out k)
      have hfs := Lib.hid (HSM.out k)
      have hfs1 := Lib.hid (HSM.out (k + 1))
      obtain ⟨b1, o1, rfl, hb1, _⟩ := L1.out.rds.at_ (by omega)
      have q0 := (L1.out.rds.below hR.out.bel).cell rowE_ok re0 k 0 _ hlt rfl
      have q1 := (L1.out.rds.below hR.out.bel).cell rowE_ok re0 k 1 _ hlt rfl
      have q2 := (L1.out.rds.below hR.out.bel).cell rowE_ok re0 k 2 _ hlt rfl
      have hrd := Lib.hid ((L1.out.all _ hmem))
      have hlen := Lib.hid (HOK.out.len _ (List.mem_map_of_mem hmem))
      have hki : (k : Int) < (n : Int) := by omega
      generalize ps.getD k re0 = p at *
      obtain ⟨⟨d1, z1, A1, n1, c1⟩, e1, f1, k1⟩ := p
      simp only [rawA, rawN, rawC, Nat.add_zero] at q0 q1 q2
      obtain ⟨h1, h2, h3⟩ := hrd.out
      simp only [rawA, rawN, rawC] at h1 h2 h3
      subst h1 h2
      have hlen1 : k1.length ≤ 64 := hlen.out
      have hlen2 := Lib.hid h3.len
      have hnn : n1 ≤ 64 := by rw [← h3.len]; exact hlen1
      have H3 := Lib.hid h3
      simp only at hft
      have HR1 := Lib.hid (hR.out.al (.cells #[.int .i64 d1, .string ⟨z1.toArray⟩, .slice A1 n1 c1] 39))
      have X0 := Lib.hid (heap_alloc_new wr (.cells #[.int .i64 d1, .string ⟨z1.toArray⟩, .slice A1 n1 c1] 39))
      have hsz : (wr.alloc (.cells #[.int .i64 d1, .string ⟨z1.toArray⟩, .slice A1 n1 c1] 39)).heap.size = wr.heap.size + 1 := by simp
      have HSZ := Lib.hid hsz
      have HCL := Lib.hid (fun W (hb : Below w.heap.size w W) => HA.out W d1 hb)
      clear h3 hrd hlen hmem hR hsz
      go_wp2_with fail
      refine (HCL.out _ HR1.out.bel).mono ?_
      rintro e w1 ⟨rfl, hw1⟩
      obtain ⟨⟨x0, x1, x2⟩, _⟩ := cells3 X0.out
      subst hw1
      generalize wr.alloc (.cells #[.int .i64 d1, .string ⟨z1.toArray⟩, .slice A1 n1 c1] 39) = w1 at *
      cases hac : acc d1
      · have hRk := Lib.hid (show DurR w (flat ((ps.take (k + 1)).map Prod.snd) acc) w1 by rw [hft.out, hac, if_neg (by decide), List.append_nil]; exact HR1.out)
        clear HCL
        go_wp2_with fail
        exact ⟨⟨k + 1, by omega, by go_num, hRk⟩, by simp [intOf]; omega⟩
      · have HK := Lib.hid (show flat ((ps.take (k + 1)).map Prod.snd) acc = flat ((ps.take k).map Prod.snd) acc ++ k1 by rw [hft.out, hac, if_pos rfl])
        have hs1 := Lib.hid (show ∀ x ∈ flat ((ps.take k).map Prod.snd) acc ++ k1, Sml x by rw [← HK.out]; exact hfs1.out)
        clear hft hfs hfs1 HCL
        generalize flat ((ps.take k).map Prod.snd) acc = F0 at *
        have R1 := Lib.hid (show DurR w (F0 ++ k1.take 0) w1 by rw [List.take_zero, List.append_nil]; exact HR1.out)
        go_wp2_with fail
        go_loopw [24, 9] (fun i _ wr => ∃ j : Nat, j ≤ n1 ∧ i = .int .i64 (j : Int) ∧ Hid (DurR w (F0 ++ k1.take j) wr)) (fun i _ _ => n1 - (intOf i).toNat)
        case atStart => exact ⟨0, by omega, rfl, R1⟩
        case round =>
          clear R1
          obtain ⟨j, hj, rfl, hR2⟩ := hrel
          by_cases hltj : j < n1
          · have hjl : j < k1.length := by rw [hlen2.out]; exact hltj
            have HL2 := Lib.hid (H3.out.below hR2.out.bel)
            obtain ⟨b2, o2, rfl, hb2, hc2⟩ := HL2.out.at_ (by omega)
            obtain ⟨u0, u1, u2⟩ := hc2 j hltj
            have hji : (j : Int) < (n1 : Int) := by omega
            have htk := Lib.hid (take_ln k1 j hjl)
            generalize k1.getD j ln0 = x at *
            obtain ⟨a, cu, m⟩ := x
            simp only at u0 u1 u2
            have hsx := Lib.hid (show ∀ x ∈ (F0 ++ k1.take j) ++ [(a, cu, m)], Sml x from fun x hx => hs1.out x (by
              rw [List.append_assoc, ← htk.out] at hx
              rcases List.mem_append.1 hx with h | h
              · exact List.mem_append_left _ h
              · exact List.mem_append_right _ (List.mem_of_mem_take h)))
            have hll := Lib.hid (show (F0 ++ k1.take j).length < 10000 by
              rw [List.length_append, List.length_take]
              have := hfl.out
              omega)
            have HR3 := Lib.hid (hR2.out.al (.cells #[.string ⟨a.toArray⟩, .string ⟨cu.toArray⟩, .string ⟨m.toArray⟩] 40))
            have Y0 := cells3 (heap_alloc_new wr (.cells #[.string ⟨a.toArray⟩, .string ⟨cu.toArray⟩, .string ⟨m.toArray⟩] 40))
            obtain ⟨⟨y0, y1, y2⟩, _⟩ := Y0
            have HAD := Lib.hid (add_s w.heap.size (F0 ++ k1.take j) a cu m _ HR3.out.map hsx.out hll.out (HT.out.below HR3.out.bel))
            have HRX := Lib.hid (fun W h1 h2 => (show DurR w (F0 ++ k1.take (j + 1)) W by rw [htk.out, ← List.append_assoc]; exact HR3.out.add h1 h2))
            clear hR2 htk q0 q1 q2 x0 x1 x2 hc2
            go_wp2_with fail
            refine HAD.out.mono ?_
            rintro e w2 ⟨rfl, h1, h2⟩
            have RR := Lib.hid (HRX.out w2 h1 h2)
            clear h1 h2 HAD
            go_wp2_with fail
            exact ⟨⟨j + 1, by omega, by go_num, RR⟩, by simp [intOf]; omega⟩
          · have hjn : j = n1 := by omega
            subst hjn
            have hji : ¬ (j : Int) < (j : Int) := by omega
            have hRk := Lib.hid (show DurR w (flat ((ps.take (k + 1)).map Prod.snd) acc) wr by
              have := hR2.out
              rw [List.take_of_length_le (by rw [hlen2.out]; exact Nat.le_refl _), ← HK.out] at this
              exact this)
            clear hR2
            go_wp2_with fail
            exact ⟨⟨k + 1, by omega, by go_num, hRk⟩, by simp [intOf]; omega⟩
    · have hkn : k = n := by omega
      subst hkn
      have hki : ¬ (k : Int) < (k : Int) := by omega
      have e : ps.take k = ps := List.take_of_length_le (by rw [ll.out]; exact Nat.le_refl _)
      have hsm := HSM.out k
      have hfl := HFL.out k
      have hRk := hR.out
      rw [e] at hsm hfl hRk
      have HLS := Lib.hid (list_s w.heap.size _ wr hRk.map hsm (by omega) (HOK.out.can acc))
      have HB := Lib.hid hRk.bel
      clear hR hRk hsm hfl e
      go_wp2_with fail
      refine HLS.out.mono ?_
      rintro e w2 ⟨v, rfl, h1, h2⟩
      have H1 := Lib.hid (Row.Own.mono h1 HB.out.size)
      have H2 := Lib.hid (HB.out.trans (h2.mono HB.out.size))
      clear h1 h2 HLS
      go_wp2_with fail
      exact HP.out _ _ H1.out H2.out

end Go.Proofs.YtohdpidlilhnjaaGreatDoor

/- Contracts of ledger.Trial, Activity, Balance. -/
namespace Go.Proofs.YtohdpidlilhnjaaGreatDoor
open Go.RowKit Go.Maps Num

/-- a list and a code are returned -/
def ListC (l : List Ln) (i : Int) (w : World) (e : Ending) (w' : World) : Prop := ∃ v, e = .returned (.tuple #[v, .int .i64 i]) ∧ rowB.Own w.heap.size w' v l ∧ Below w.heap.size w w'
def trL (es : List En) (d : Int) : List Ln := if es.all okE ∧ valD d = true then nrmL (flat es fun x => decide (x ≤ d)) else []
def trI (es : List En) (d : Int) : Int := if es.all okE = false then 1 else if valD d = false then 13 else 0
theorem bad_all (ps : List RE) : (!ps.any badR) = (ps.map Prod.snd).all okE := by
  induction ps with
  | nil => rfl
  | cons p r ih =>
    rw [List.any_cons, Bool.not_or, ih, List.map_cons, List.all_cons]
    congr 1
    unfold badR okE
    rw [decide_not, Bool.not_not]
theorem okL_all {es : List En} : es.all okE = true ↔ OkL es := List.all_eq_true
set_option maxRecDepth 100000 in
theorem clo56 (bp : Nat) (d x : Int) (W : World) (h : W.cell? ⟨bp, 0, none⟩ = some (.int .i64 d)) : Calls Tryz.prog 56 #[.int .i64 x, .pointer (some ⟨bp, 0, none⟩)] W (RetP (.bool (decide (x ≤ d))) W) := by
  generalize hr : decide (x ≤ d) = r
  go_enter Tryz.func56, Tryz.ntmps56
  go_wp2_with fail
  go_ret
  exact ⟨by simp, rfl⟩
set_option maxRecDepth 100000 in
set_option maxHeartbeats 4000000 in
theorem Trial_any (A : Option Addr) (n c : Nat) (ps : List RE) (d : Int) (w : World) (h : Res w A n c ps) (hz : ∀ p ∈ ps, p.2.2.1.length ≤ 1000) (hn : n ≤ 20) (ht : Tab w) (hm : ML w) :
    Calls Tryz.prog 14 #[.slice A n c, .int .i64 d] w (ListC (trL (ps.map Prod.snd) d) (trI (ps.map Prod.snd) d) w) := by
  have hB0 : Below w.heap.size w (w.alloc (.cells #[.int .i64 d] 23)) := (Below.refl _ w).alloc (Nat.le_refl _) _
  have x0 : (w.alloc (.cells #[.int .i64 d] 23)).cell? ⟨w.heap.size, 0, none⟩ = some (.int .i64 d) := by go_simp
  have hsz : (w.alloc (.cells #[.int .i64 d] 23)).heap.size = w.heap.size + 1 := by simp
  have HAE := Lib.hid (areEn_any A n c ps _ ⟨h.rds.below hB0, fun p hp => (h.all p hp).below hB0⟩ hz (by omega) (ht.below hB0) (hm.below hB0))
  have L1 := Lib.hid h
  have HT := Lib.hid ht
  have HP := Lib.hid (fun v i W (h1 : rowB.Own w.heap.size W v (trL (ps.map Prod.snd) d)) (h2 : Below w.heap.size w W) (hi : trI (ps.map Prod.snd) d = i) => (show ListC (trL (ps.map Prod.snd) d) (trI (ps.map Prod.snd) d) w (.returned (.tuple #[v, .int .i64 i])) W from ⟨v, by rw [hi], h1, h2⟩))
  have HL := Lib.hid (show trL (ps.map Prod.snd) d = if (ps.map Prod.snd).all okE ∧ valD d = true then nrmL (flat (ps.map Prod.snd) fun x => decide (x ≤ d)) else [] from rfl)
  have HI := Lib.hid (show trI (ps.map Prod.snd) d = if (ps.map Prod.snd).all okE = false then 1 else if valD d = false then 13 else 0 from rfl)
  have HOK := Lib.hid (okL_all (es := ps.map Prod.snd)).1
  rw [bad_all] at HAE
  have HVA := Lib.hid (fun W => valid_any d W)
  have HB0 := Lib.hid hB0
  clear h hz ht hm hB0
  generalize ListC (trL (ps.map Prod.snd) d) (trI (ps.map Prod.snd) d) w = Post at *
  generalize trI (ps.map Prod.snd) d = ri at *
  generalize trL (ps.map Prod.snd) d = rl at *
  generalize (ps.map Prod.snd).all okE = ok at *
  generalize valD d = vd at *
  go_enter Tryz.func14, Tryz.ntmps14
  go_wp2_with fail
  refine HAE.out.mono ?_
  rintro e w1 ⟨rfl, hb⟩
  have HB1 := Lib.hid (below_next HB0.out hb ⟨rfl, rfl, rfl, rfl⟩)
  have y0 := (hb.cell (p := ⟨w.heap.size, 0, none⟩) (by show w.heap.size < _; omega)).trans x0
  have hs1 : w.heap.size + 1 ≤ w1.heap.size := by have := hb.size; omega
  clear hb HAE x0 hsz HB0
  cases ok
  · have hv := Lib.hid (HP.out (.slice none 0 0) 1 w1 (by rw [HL.out, if_neg (by simp)]; exact Row.Own.nil _ _) HB1.out (by rw [HI.out, if_pos rfl]))
    go_wp2_with fail
    exact hv.out
  · go_wp2_with fail
    refine (HVA.out w1).mono ?_
    rintro e w2 ⟨rfl, rfl⟩
    cases vd
    · have hv := Lib.hid (HP.out (.slice none 0 0) 13 w1 (by rw [HL.out, if_neg (by simp)]; exact Row.Own.nil _ _) HB1.out (by rw [HI.out, if_neg (by decide), if_pos rfl]))
      go_wp2_with fail
      exact hv.out
    · have HDU := Lib.hid (during56 w.heap.size (fun x => decide (x ≤ d)) A n c ps w1 ⟨L1.out.rds.below HB1.out, fun p hp => (L1.out.all p hp).below HB1.out⟩ (HOK.out (by trivial)) hn (HT.out.below HB1.out) (fun W x hb => clo56 _ d x W ((hb.cell (p := ⟨w.heap.size, 0, none⟩) (by show w.heap.size < _; omega)).trans y0)))
      go_wp2_with fail
      refine HDU.out.mono ?_
      rintro e w3 ⟨v, rfl, h1, h2⟩
      have hv := Lib.hid (HP.out v 0 w3 (by rw [HL.out, if_pos (by simp)]; exact h1.mono HB1.out.size) (HB1.out.trans (h2.mono HB1.out.size)) (by rw [HI.out, if_neg (by decide), if_neg (by decide)]))
      clear h1 h2
      go_wp2_with fail
      exact hv.out
end Go.Proofs.YtohdpidlilhnjaaGreatDoor

/- Contracts of ledger.Activity, Balance. -/
namespace Go.Proofs.YtohdpidlilhnjaaGreatDoor
open Go.RowKit Go.Maps Num

def acB (f t x : Int) : Bool := decide (f ≤ x) && decide (x < t)
def acI (es : List En) (f t : Int) : Int := if es.all okE = false then 1 else if (valD f && valD t) = false then 13 else if t < f then 8 else 0
def acL (es : List En) (f t : Int) : List Ln := if acI es f t = 0 then nrmL (flat es (acB f t)) else []
set_option maxRecDepth 100000 in
theorem clo88 (bp : Nat) (f t x : Int) (W : World) (h0 : W.cell? ⟨bp, 0, none⟩ = some (.int .i64 f)) (h1 : W.cell? ⟨bp, 1, none⟩ = some (.int .i64 t)) : Calls Tryz.prog 88 #[.int .i64 x, .pointer (some ⟨bp, 0, none⟩)] W (RetP (.bool (acB f t x)) W) := by
  unfold acB
  by_cases e1 : f ≤ x
  · by_cases e2 : x < t
    · rw [decide_eq_true e1, decide_eq_true e2]
      go_enter Tryz.func88, Tryz.ntmps88
      go_wp2_with fail
      go_ret
      exact ⟨rfl, rfl⟩
    · rw [decide_eq_true e1, decide_eq_false e2]
      go_enter Tryz.func88, Tryz.ntmps88
      go_wp2_with fail
      go_ret
      exact ⟨rfl, rfl⟩
  · rw [decide_eq_false e1]
    go_enter Tryz.func88, Tryz.ntmps88
    go_wp2_with fail
    go_ret
    exact ⟨rfl, rfl⟩
set_option maxRecDepth 100000 in
set_option maxHeartbeats 4000000 in
theorem Activity_any (A : Option Addr) (n c : Nat) (ps : List RE) (f t : Int) (w : World) (h : Res w A n c ps) (hz : ∀ p ∈ ps, p.2.2.1.length ≤ 1000) (hn : n ≤ 20) (ht : Tab w) (hm : ML w) :
    Calls Tryz.prog 36 #[.slice A n c, .agg #[.int .i64 f, .int .i64 t]] w (ListC (acL (ps.map Prod.snd) f t) (acI (ps.map Prod.snd) f t) w) := by
  have hB0 : Below w.heap.size w (w.alloc (.cells #[.int .i64 f, .int .i64 t] 59)) := (Below.refl _ w).alloc (Nat.le_refl _) _
  have x0 : (w.alloc (.cells #[.int .i64 f, .int .i64 t] 59)).cell? ⟨w.heap.size, 0, none⟩ = some (.int .i64 f) := by go_simp
  have x1 : (w.alloc (.cells #[.int .i64 f, .int .i64 t] 59)).cell? ⟨w.heap.size, 1, none⟩ = some (.int .i64 t) := by go_simp
  have hsz : (w.alloc (.cells #[.int .i64 f, .int .i64 t] 59)).heap.size = w.heap.size + 1 := by simp
  have HAE := Lib.hid (areEn_any A n c ps _ ⟨h.rds.below hB0, fun p hp => (h.all p hp).below hB0⟩ hz (by omega) (ht.below hB0) (hm.below hB0))
  have L1 := Lib.hid h
  have HT := Lib.hid ht
  have HP := Lib.hid (fun v i W (h1 : rowB.Own w.heap.size W v (acL (ps.map Prod.snd) f t)) (h2 : Below w.heap.size w W) (hi : acI (ps.map Prod.snd) f t = i) => (show ListC (acL (ps.map Prod.snd) f t) (acI (ps.map Prod.snd) f t) w (.returned (.tuple #[v, .int .i64 i])) W from ⟨v, by rw [hi], h1, h2⟩))
  have HL := Lib.hid (show acL (ps.map Prod.snd) f t = if acI (ps.map Prod.snd) f t = 0 then nrmL (flat (ps.map Prod.snd) (acB f t)) else [] from rfl)
  have HI := Lib.hid (show acI (ps.map Prod.snd) f t = if (ps.map Prod.snd).all okE = false then 1 else if (valD f && valD t) = false then 13 else if t < f then 8 else 0 from rfl)
  have HOK := Lib.hid (okL_all (es := ps.map Prod.snd)).1
  rw [bad_all] at HAE
  have HVF := Lib.hid (fun W => valid_any f W)
  have HVT := Lib.hid (fun W => valid_any t W)
  have HB0 := Lib.hid hB0
  clear h hz ht hm hB0
  generalize ListC (acL (ps.map Prod.snd) f t) (acI (ps.map Prod.snd) f t) w = Post at *
  generalize acI (ps.map Prod.snd) f t = ri at *
  generalize acL (ps.map Prod.snd) f t = rl at *
  generalize (ps.map Prod.snd).all okE = ok at *
  generalize valD f = vf at *
  generalize valD t = vt at *
  go_enter Tryz.func36, Tryz.ntmps36
  go_wp2_with fail
  refine HAE.out.mono ?_
  rintro e w1 ⟨rfl, hb⟩
  have HB1 := Lib.hid (below_next HB0.out hb ⟨rfl, rfl, rfl, rfl⟩)
  have y0 := (hb.cell (p := ⟨w.heap.size, 0, none⟩) (by show w.heap.size < _; omega)).trans x0
  have y1 := (hb.cell (p := ⟨w.heap.size, 1, none⟩) (by show w.heap.size < _; omega)).trans x1
  have hs1 : w.heap.size + 1 ≤ w1.heap.size := by have := hb.size; omega
  clear hb HAE x0 x1 hsz HB0
  cases ok
  · have hr := Lib.hid (show ri = 1 by rw [HI.out, if_pos rfl])
    have hv := Lib.hid (HP.out (.slice none 0 0) 1 w1 (by rw [HL.out, if_neg (by rw [hr.out]; decide)]; exact Row.Own.nil _ _) HB1.out hr.out)
    go_wp2_with fail
    exact hv.out
  have HI2 := Lib.hid (show ri = if (vf && vt) = false then 13 else if t < f then 8 else 0 by rw [HI.out, if_neg (by decide)])
  have hokl := Lib.hid (HOK.out rfl)
  clear HI HOK
  cases vf
  · have hr := Lib.hid (show ri = 13 from HI2.out.trans (if_pos (by simp)))
    have hv := Lib.hid (HP.out (.slice none 0 0) 13 w1 (by rw [HL.out, if_neg (by rw [hr.out]; decide)]; exact Row.Own.nil _ _) HB1.out hr.out)
    go_wp2_with fail
    refine (HVF.out w1).mono ?_
    rintro e w2 ⟨rfl, rfl⟩
    go_wp2_with fail
    exact hv.out
  cases vt
  · have hr := Lib.hid (show ri = 13 from HI2.out.trans (if_pos (by simp)))
    have hv := Lib.hid (HP.out (.slice none 0 0) 13 w1 (by rw [HL.out, if_neg (by rw [hr.out]; decide)]; exact Row.Own.nil _ _) HB1.out hr.out)
    go_wp2_with fail
    refine (HVF.out w1).mono ?_
    rintro e w2 ⟨rfl, rfl⟩
    go_wp2_with fail
    refine (HVT.out w1).mono ?_
    rintro e w2 ⟨rfl, rfl⟩
    go_wp2_with fail
    exact hv.out
  have HI3 := Lib.hid (show ri = if t < f then 8 else 0 by rw [HI2.out, if_neg (by decide)])
  clear HI2
  by_cases hlt : t < f
  · have hr := Lib.hid (show ri = 8 by rw [HI3.out, if_pos hlt])
    have hv := Lib.hid (HP.out (.slice none 0 0) 8 w1 (by rw [HL.out, if_neg (by rw [hr.out]; decide)]; exact Row.Own.nil _ _) HB1.out hr.out)
    have hdt : decide (t < f) = true := decide_eq_true hlt
    go_wp2_with fail
    refine (HVF.out w1).mono ?_
    rintro e w2 ⟨rfl, rfl⟩
    go_wp2_with fail
    refine (HVT.out w1).mono ?_
    rintro e w2 ⟨rfl, rfl⟩
    go_wp2_with fail
    exact hv.out
  · have hr := Lib.hid (show ri = 0 by rw [HI3.out, if_neg hlt])
    have hdt : decide (t < f) = false := decide_eq_false hlt
    have HDU := Lib.hid (during88 w.heap.size (acB f t) A n c ps w1 ⟨L1.out.rds.below HB1.out, fun p hp => (L1.out.all p hp).below HB1.out⟩ hokl.out hn (HT.out.below HB1.out) (fun W x hb => clo88 _ f t x W ((hb.cell (p := ⟨w.heap.size, 0, none⟩) (by show w.heap.size < _; omega)).trans y0) ((hb.cell (p := ⟨w.heap.size, 1, none⟩) (by show w.heap.size < _; omega)).trans y1)))
    go_wp2_with fail
    refine (HVF.out w1).mono ?_
    rintro e w2 ⟨rfl, rfl⟩
    go_wp2_with fail
    refine (HVT.out w1).mono ?_
    rintro e w2 ⟨rfl, rfl⟩
    go_wp2_with fail
    refine HDU.out.mono ?_
    rintro e w3 ⟨v, rfl, h1, h2⟩
    have hv := Lib.hid (HP.out v 0 w3 (by rw [HL.out, if_pos hr.out]; exact h1.mono HB1.out.size) (HB1.out.trans (h2.mono HB1.out.size)) hr.out)
    clear h1 h2
    go_wp2_with fail
    exact hv.out
theorem bal_hit {t : List Ln} {k : Ky} {j : Nat} (h : ∀ b ∈ t.take j, key b ≠ k) (hj : j < t.length) (hk : key (t.getD j ln0) = k) : balOf t k = (t.getD j ln0).2.2 := by
  unfold balOf
  have e : t = t.take j ++ t.getD j ln0 :: t.drop (j + 1) := by
    conv => lhs; rw [← List.take_append_drop j t, drop_ln t j hj]
  have h1 : (t.take j).find? (fun b => decide (key b = k)) = none := List.find?_eq_none.2 fun b hb e => h b hb (of_decide_eq_true e)
  generalize t.getD j ln0 = x at *
  rw [e, List.find?_append, h1, List.find?_cons_of_pos (by exact decide_eq_true hk)]
  rfl
theorem bal_none {t : List Ln} {k : Ky} (h : ∀ b ∈ t, key b ≠ k) : balOf t k = [] := by
  unfold balOf
  rw [List.find?_eq_none.2 fun b hb e => h b hb (of_decide_eq_true e)]
/-- a string and a code are returned -/
def StrC (s : List UInt8) (i : Int) (w : World) (e : Ending) (w' : World) : Prop := e = .returned (.tuple #[.string ⟨s.toArray⟩, .int .i64 i]) ∧ Below w.heap.size w w'
theorem key_snoc {t : List Ln} {k : Ky} {j : Nat} (hj : j < t.length) (h : ∀ b ∈ t.take j, key b ≠ k) (hk : key (t.getD j ln0) ≠ k) : ∀ b ∈ t.take (j + 1), key b ≠ k := fun b hb => by
  rw [take_ln t j hj] at hb
  rcases List.mem_append.1 hb with h' | h'
  · exact h b h'
  · rw [List.mem_singleton.1 h']; exact hk
theorem putL_len (l : List Ln) (x : Ln) : (putL l x).length ≤ l.length + 1 := by
  induction l with
  | nil => unfold putL; split <;> simp
  | cons y r ih =>
    unfold putL
    split
    · simp only [List.length_cons]; omega
    · split
      · split <;> simp only [List.length_cons] <;> omega
      · split <;> simp only [List.length_cons] <;> omega
theorem fold_len (m l : List Ln) : (m.foldl putL l).length ≤ l.length + m.length := by
  induction m generalizing l with
  | nil => simp
  | cons x r ih =>
    have h1 := ih (putL l x)
    have h2 := putL_len l x
    rw [List.foldl_cons, List.length_cons]
    omega
theorem nrmL_len (l : List Ln) : (nrmL l).length ≤ l.length := by
  have := fold_len l []
  rw [List.length_nil, Nat.zero_add] at this
  exact this
theorem tr_len {es : List En} {d : Int} (hn : es.length ≤ 20) : (trL es d).length ≤ 1280 := by
  unfold trL
  split
  · rename_i h
    have h1 := nrmL_len (flat es fun x => decide (x ≤ d))
    have h2 := flatE_len es (fun x => decide (x ≤ d)) (okL_all.1 h.1).len
    omega
  · simp
set_option maxRecDepth 100000 in
set_option maxHeartbeats 4000000 in
theorem Balance_any (A : Option Addr) (n c : Nat) (ps : List RE) (ka kc : List UInt8) (d : Int) (w : World) (h : Res w A n c ps) (hz : ∀ p ∈ ps, p.2.2.1.length ≤ 1000) (hn : n ≤ 20) (ht : Tab w) (hm : ML w) :
    Calls Tryz.prog 16 #[.slice A n c, .string ⟨ka.toArray⟩, .string ⟨kc.toArray⟩, .int .i64 d] w (StrC (balOf (trL (ps.map Prod.snd) d) (ka, kc)) (trI (ps.map Prod.snd) d) w) := by
  have HTR := Lib.hid (Trial_any A n c ps d w h hz hn ht hm)
  have HP := Lib.hid (fun s i W (h1 : balOf (trL (ps.map Prod.snd) d) (ka, kc) = s) (hi : trI (ps.map Prod.snd) d = i) (h2 : Below w.heap.size w W) => (show StrC (balOf (trL (ps.map Prod.snd) d) (ka, kc)) (trI (ps.map Prod.snd) d) w (.returned (.tuple #[.string ⟨s.toArray⟩, .int .i64 i])) W from ⟨by rw [h1, hi], h2⟩))
  have HE := Lib.hid (show trI (ps.map Prod.snd) d ≠ 0 → trL (ps.map Prod.snd) d = [] from fun h => by
    unfold trI at h
    unfold trL
    by_cases h1 : (ps.map Prod.snd).all okE = true
    · by_cases h2 : valD d = true
      · rw [if_neg (by rw [h1]; decide), if_neg (by rw [h2]; decide)] at h; exact absurd rfl h
      · rw [if_neg (fun e => h2 e.2)]
    · rw [if_neg (fun e => h1 e.1)])
  have HLN := Lib.hid (show (trL (ps.map Prod.snd) d).length ≤ 10000 from Nat.le_trans (tr_len (by rw [List.length_map, h.rds.len]; exact hn)) (by decide))
  clear h hz ht hm
  generalize StrC (balOf (trL (ps.map Prod.snd) d) (ka, kc)) (trI (ps.map Prod.snd) d) w = Post at *
  generalize trI (ps.map Prod.snd) d = ri at *
  generalize trL (ps.map Prod.snd) d = t at *
  go_enter Tryz.func16, Tryz.ntmps16
  go_wp2_with fail
  refine HTR.out.mono ?_
  rintro e w1 ⟨v, rfl, h1, h2⟩
  have HB1 := Lib.hid h2
  have HO := Lib.hid h1
  clear h1 h2 HTR
  by_cases hri : ri = 0
  case neg =>
    have hne : (ri != 0) = true := by rw [bne_iff_ne]; exact hri
    have hv := Lib.hid (HP.out [] ri w1 (by rw [HE.out hri]; rfl) rfl HB1.out)
    go_wp2_with fail
    exact hv.out
  subst hri
  obtain ⟨A1, c1, rfl, hrd⟩ := HO.out.rds
  have HR := Lib.hid hrd
  obtain ⟨q, hq⟩ : ∃ q, t.length = q := ⟨_, rfl⟩
  have HQ := Lib.hid hq
  have hq1 : q ≤ 10000 := by rw [← hq]; exact HLN.out
  rw [hq] at HR ⊢
  clear hq hrd HO
  have R0 := Lib.hid (show (∀ b ∈ t.take 0, key b ≠ (ka, kc)) ∧ Below w1.heap.size w1 w1 from ⟨fun b hb => by simp at hb, Below.refl _ _⟩)
  go_wp2_with fail
  go_loopw [25, 13] (fun i _ wr => ∃ k : Nat, k ≤ q ∧ i = .int .i64 (k : Int) ∧ Hid ((∀ b ∈ t.take k, key b ≠ (ka, kc)) ∧ Below w1.heap.size w1 wr)) (fun i _ _ => q - (intOf i).toNat)
  case atStart => exact ⟨0, by omega, rfl, R0⟩
  case round =>
    clear R0
    obtain ⟨k, hk, rfl, hR⟩ := hrel
    have HN := Lib.hid hR.out.1
    have HB := Lib.hid hR.out.2
    clear hR
    by_cases hlt : k < q
    · have hkl : k < t.length := by rw [HQ.out]; exact hlt
      obtain ⟨b1, o1, rfl, hb1, _⟩ := HR.out.at_ (by omega)
      have q0 := (HR.out.below HB.out).cell rowB_ok ln0 k 0 _ hlt rfl
      have q1 := (HR.out.below HB.out).cell rowB_ok ln0 k 1 _ hlt rfl
      have q2 := (HR.out.below HB.out).cell rowB_ok ln0 k 2 _ hlt rfl
      have hki : (k : Int) < (q : Int) := by omega
      have hit := Lib.hid (fun h => bal_hit HN.out hkl h)
      have mis := Lib.hid (fun h => key_snoc hkl HN.out h)
      generalize t.getD k ln0 = x at *
      obtain ⟨a, cu, m⟩ := x
      simp only [Nat.add_zero] at q0 q1 q2
      have HB2 := Lib.hid (HB.out.alloc HB.out.size (.cells #[.string ⟨a.toArray⟩, .string ⟨cu.toArray⟩, .string ⟨m.toArray⟩] 33))
      by_cases ha : a = ka
      · by_cases hcu : cu = kc
        · subst ha hcu
          have hv := Lib.hid (HP.out m 0 _ (hit.out rfl) rfl (HB1.out.trans (HB2.out.mono HB1.out.size)))
          go_wp2_with fail
          exact hv.out
        · have t2 : (cu == kc) = false := beq_eq_false_iff_ne.2 hcu
          subst ha
          have RR := Lib.hid (And.intro (mis.out (fun e => hcu (congrArg Prod.snd e))) HB2.out)
          clear hit mis
          go_wp2_with fail
          exact ⟨⟨k + 1, by omega, by go_num, RR⟩, by simp [intOf]; omega⟩
      · have t1 : (a == ka) = false := beq_eq_false_iff_ne.2 ha
        have RR := Lib.hid (And.intro (mis.out (fun e => ha (congrArg Prod.fst e))) HB2.out)
        clear hit mis
        go_wp2_with fail
        exact ⟨⟨k + 1, by omega, by go_num, RR⟩, by simp [intOf]; omega⟩
    · have hkn : k = q := by omega
      subst hkn
      have hki : ¬ (k : Int) < (k : Int) := by omega
      have e : t.take k = t := List.take_of_length_le (by rw [HQ.out]; exact Nat.le_refl _)
      have hv := Lib.hid (HP.out [] 0 wr (bal_none (by have := HN.out; rwa [e] at this)) rfl (HB1.out.trans (HB.out.mono HB1.out.size)))
      clear e
      go_wp2_with fail
      exact hv.out
end Go.Proofs.YtohdpidlilhnjaaGreatDoor

/- Contract of ledger.isList. -/
namespace Go.Proofs.YtohdpidlilhnjaaGreatDoor
open Go.RowKit Go.Maps Num

set_option maxRecDepth 100000 in
set_option maxHeartbeats 2000000 in
theorem kcmpL_any (a b : Ky) (w : World) : Calls Tryz.prog 126 #[.agg (keyV a), .agg (keyV b)] w (IntPost (cmpKy a b) w) := by
  obtain ⟨a1, a2⟩ := a
  obtain ⟨b1, b2⟩ := b
  have hv := Lib.hid (show cmpKy (a1, a2) (b1, b2) = orI [cmpS a1 b1, cmpS a2 b2] by rw [orI2]; rfl)
  unfold keyV
  simp only
  go_enter Tryz.func126, Tryz.ntmps126
  go_wp2_with fail
  have hB0 : Below w.heap.size w ((w.alloc (.cells #[.string ⟨a1.toArray⟩, .string ⟨a2.toArray⟩] 111)).alloc (.cells #[.string ⟨b1.toArray⟩, .string ⟨b2.toArray⟩] 111)) := ((Below.refl _ w).alloc (Nat.le_refl _) _).alloc (by simp) _
  have x0 : ((w.alloc (.cells #[.string ⟨a1.toArray⟩, .string ⟨a2.toArray⟩] 111)).alloc (.cells #[.string ⟨b1.toArray⟩, .string ⟨b2.toArray⟩] 111)).cell? ⟨w.heap.size, 0, none⟩ = some (.string ⟨a1.toArray⟩) := by go_simp
  have x1 : ((w.alloc (.cells #[.string ⟨a1.toArray⟩, .string ⟨a2.toArray⟩] 111)).alloc (.cells #[.string ⟨b1.toArray⟩, .string ⟨b2.toArray⟩] 111)).cell? ⟨w.heap.size, 1, none⟩ = some (.string ⟨a2.toArray⟩) := by go_simp
  have y0 : ((w.alloc (.cells #[.string ⟨a1.toArray⟩, .string ⟨a2.toArray⟩] 111)).alloc (.cells #[.string ⟨b1.toArray⟩, .string ⟨b2.toArray⟩] 111)).cell? ⟨w.heap.size + 1, 0, none⟩ = some (.string ⟨b1.toArray⟩) := by go_simp
  have y1 : ((w.alloc (.cells #[.string ⟨a1.toArray⟩, .string ⟨a2.toArray⟩] 111)).alloc (.cells #[.string ⟨b1.toArray⟩, .string ⟨b2.toArray⟩] 111)).cell? ⟨w.heap.size + 1, 1, none⟩ = some (.string ⟨b2.toArray⟩) := by go_simp
  have hsz : ((w.alloc (.cells #[.string ⟨a1.toArray⟩, .string ⟨a2.toArray⟩] 111)).alloc (.cells #[.string ⟨b1.toArray⟩, .string ⟨b2.toArray⟩] 111)).heap.size = w.heap.size + 2 := by simp
  generalize ((w.alloc (.cells #[.string ⟨a1.toArray⟩, .string ⟨a2.toArray⟩] 111)).alloc (.cells #[.string ⟨b1.toArray⟩, .string ⟨b2.toArray⟩] 111)) = W at *
  have HB := Lib.hid hB0
  have HSZ := Lib.hid hsz
  clear hsz hB0
  have ne0 := World.new_ne W ⟨w.heap.size, 0, none⟩ x0
  have ne1 := World.new_ne W ⟨w.heap.size, 1, none⟩ x1
  have ne2 := World.new_ne W ⟨w.heap.size + 1, 0, none⟩ y0
  have ne3 := World.new_ne W ⟨w.heap.size + 1, 1, none⟩ y1
  go_region_held3 (fun w' => w'.cell? ⟨w.heap.size, 0, none⟩ = some (.string ⟨a1.toArray⟩) ∧ w'.cell? ⟨w.heap.size, 1, none⟩ = some (.string ⟨a2.toArray⟩) ∧ w'.cell? ⟨w.heap.size + 1, 0, none⟩ = some (.string ⟨b1.toArray⟩) ∧ w'.cell? ⟨w.heap.size + 1, 1, none⟩ = some (.string ⟨b2.toArray⟩)) (go_keep)
    (first
      | (go_at_call 109; refine (cmpS_any _ _ _).mono ?_; rintro e w' ⟨rfl, rfl⟩)
      | (go_at_call 107; refine (Or_any _ _ _ [cmpS a1 b1, cmpS a2 b2] _ (ints2d _ _ _)).mono ?_; rintro e w' ⟨rfl, rfl⟩))
  go_wp2_with fail
  go_ret
  exact ⟨by rw [hv.out]; rfl, below_dr (HB.out.trans ((Below.refl _ _).alloc HB.out.size _)) 1⟩
theorem kcmpL3 (a1 a2 b1 b2 : List UInt8) (w : World) : Calls Tryz.prog 126 #[.agg #[.string ⟨a1.toArray⟩, .string ⟨a2.toArray⟩], .agg #[.string ⟨b1.toArray⟩, .string ⟨b2.toArray⟩]] w fun e w' => e = .returned (.int .i64 (cmpKy (a1, a2) (b1, b2))) ∧ Below w.heap.size w w' := kcmpL_any (a1, a2) (b1, b2) w
theorem accCheck_l (a : List UInt8) (w : World) (h : a.length ≤ 1000) (hm : ML w) : Calls Tryz.prog 74 #[.string ⟨a.toArray⟩] w (IntPost (if codeB a then 0 else 3) w) :=
  AccCheck_any ⟨a.toArray⟩ w (by show a.toArray.size < _; rw [List.size_toArray]; omega) hm
theorem lineI_parts {a cu m : List UInt8} (h1 : curB cu = true) (h2 : chkI m = 0) (h3 : codeB a = true) : lineI (a, cu, m) = 0 := by
  unfold lineI
  rw [if_pos h3, if_pos h1]; exact h2
theorem lineI_cur {a cu m : List UInt8} (h : (if curB cu = false then (23 : Int) else chkI m) ≠ 0) : lineI (a, cu, m) ≠ 0 := by
  unfold lineI
  split
  · split
    · rename_i h1
      simp only at h1 ⊢
      rw [if_neg (by rw [h1]; decide)] at h; exact h
    · decide
  · decide
theorem lineI_acc {a cu m : List UInt8} (h : codeB a = false) : lineI (a, cu, m) ≠ 0 := by
  unfold lineI
  rw [if_neg (by rw [h]; decide)]; decide
theorem chk_ok {cu m : List UInt8} (h : (if curB cu = false then (23 : Int) else chkI m) = 0) : curB cu = true ∧ chkI m = 0 := by
  split at h
  · omega
  · rename_i h1; exact ⟨by simpa using h1, h⟩
/-- what the loop has seen -/
def LisR (w : World) (l : List Ln) (k : Nat) (W : World) : Prop := chkLs none l = chkLs (prevAt l k) (l.drop k) ∧ Below w.heap.size w W
set_option maxRecDepth 100000 in
set_option maxHeartbeats 8000000 in
theorem isList_any (A : Option Addr) (n c : Nat) (l : List Ln) (w : World) (hl : rowB.Rds w A n c l) (hs : ∀ x ∈ l, Sml x) (hn : n ≤ 10000) (ht : Tab w) (hm : ML w) :
    Calls Tryz.prog 69 #[.slice A n c] w (BoolPost (listB l) w) := by
  have ll := Lib.hid hl.len
  have L1 := Lib.hid hl
  have HS := Lib.hid hs
  have HT := Lib.hid ht
  have HM := Lib.hid hm
  have hv := Lib.hid (show listB l = decide (chkLs none l = 0) from rfl)
  have HP := Lib.hid (fun W (h : Below w.heap.size w W) => (show BoolPost (listB l) w (.returned (.bool (listB l))) W from ⟨rfl, h⟩))
  clear hl hs ht hm
  generalize BoolPost (listB l) w = Post at *
  generalize listB l = r at *
  have R0 := Lib.hid (show LisR w l 0 w from ⟨by rw [List.drop_zero]; rfl, Below.refl _ _⟩)
  go_enter Tryz.func69, Tryz.ntmps69
  go_wp2_with fail
  go_loopw [9, 3, 4, 5, 6] (fun i _ _ _ _ wr => ∃ k : Nat, k ≤ n ∧ i = .int .i64 (k : Int) ∧ Hid (LisR w l k wr)) (fun i _ _ _ _ _ => n - (intOf i).toNat)
  case atStart => exact ⟨0, by omega, rfl, R0⟩
  case round =>
    clear R0
    obtain ⟨k, hk, rfl, hR⟩ := hrel
    have hch := Lib.hid hR.out.1
    have HB := Lib.hid hR.out.2
    clear hR
    by_cases hlt : k < n
    · have hkl : k < l.length := by rw [ll.out]; exact hlt
      obtain ⟨b1, o1, rfl, hb1, _⟩ := L1.out.at_ (by omega)
      have q0 := (L1.out.below HB.out).cell rowB_ok ln0 k 0 _ hlt rfl
      have q1 := (L1.out.below HB.out).cell rowB_ok ln0 k 1 _ hlt rfl
      have q2 := (L1.out.below HB.out).cell rowB_ok ln0 k 2 _ hlt rfl
      have hsx := Lib.hid (HS.out _ (lnAt_mem l k hkl))
      have hki : (k : Int) < (n : Int) := by omega
      have hdr := drop_ln l k hkl
      have hch2 := hch.out
      rw [hdr, chkLs_cons] at hch2
      have HC2 := Lib.hid hch2
      have hpk := Lib.hid (show prevAt l (k + 1) = some (key (l.getD k ln0)) from rfl)
      clear hdr hch2 hch
      generalize hxe : l.getD k ln0 = x at *
      obtain ⟨a, cu, m⟩ := x
      simp only [Nat.add_zero] at q0 q1 q2
      have HB2 := Lib.hid (show Below w.heap.size w (wr.alloc (.cells #[.string ⟨a.toArray⟩, .string ⟨cu.toArray⟩, .string ⟨m.toArray⟩] 33)) from HB.out.alloc HB.out.size _)
      have HX := Lib.hid (cells3 (heap_alloc_new wr (.cells #[.string ⟨a.toArray⟩, .string ⟨cu.toArray⟩, .string ⟨m.toArray⟩] 33))).1
      obtain ⟨x0, x1, x2⟩ := HX.out
      have l3 := Lib.hid (block_lt_of_cell x0)
      have hT := Lib.hid (HT.out.below HB2.out)
      have hM := Lib.hid (HM.out.below HB2.out)
      have HPU := Lib.hid (Put2_any cu m _ (by have := hsx.out.2.1; unfold maxLen; simp only at this; omega) (by have := hsx.out.2.2; simp only at this; omega) hT.out)
      unfold PutQ at HPU
      have HACC := Lib.hid (fun W hW => accCheck_l a W hsx.out.1 hW)
      generalize hpc : (if curB cu = false then (23 : Int) else chkI m) = pc at *
      go_wp2_with fail
      refine HPU.out.mono ?_
      rintro e w2 ⟨⟨vp, rfl⟩, hb⟩
      have HB3 := Lib.hid (below_next HB2.out hb ⟨rfl, rfl, rfl, rfl⟩)
      have d0 := (hb.cell l3.out).trans HX.out.1
      have d1 := (hb.cell (p := ⟨wr.heap.size, 1, none⟩) l3.out).trans HX.out.2.1
      have d2 := (hb.cell (p := ⟨wr.heap.size, 2, none⟩) l3.out).trans HX.out.2.2
      clear hb HPU
      by_cases hz : pc = 0
      case neg =>
        have hzb : (pc != 0) = true := by rw [bne_iff_ne]; exact hz
        have hr := Lib.hid (show r = false by
          rw [hv.out, HC2.out, if_pos (lineI_cur (by rw [hpc]; exact hz))]
          exact decide_eq_false (lineI_cur (by rw [hpc]; exact hz)))
        have hv1 := Lib.hid (HP.out w2 HB3.out)
        rw [hr.out] at hv1
        go_wp2_with fail
        exact hv1.out
      subst hz
      obtain ⟨g1, g2⟩ := chk_ok hpc
      rcases m with _ | ⟨m0, mr⟩
      · have hr := Lib.hid (show r = false by
          rw [hv.out, HC2.out]
          split
          · exact decide_eq_false (by assumption)
          · exact decide_eq_false (by rw [if_pos rfl]; decide))
        have hv1 := Lib.hid (HP.out w2 HB3.out)
        rw [hr.out] at hv1
        go_wp2_with fail
        exact hv1.out
      have HAC := Lib.hid (HACC.out w2 (HM.out.below HB3.out))
      clear HACC
      cases hcb : codeB a
      · rw [hcb] at HAC
        have hr := Lib.hid (show r = false by
          rw [hv.out, HC2.out, if_pos (lineI_acc hcb)]
          exact decide_eq_false (lineI_acc hcb))
        rw [hr.out] at HP
        go_wp2_with fail
        refine HAC.out.mono ?_
        rintro e w3 ⟨rfl, hb⟩
        have hv1 := Lib.hid (HP.out w3 (below_next HB3.out hb ⟨rfl, rfl, rfl, rfl⟩))
        clear hb
        go_wp2_with fail
        exact hv1.out
      rw [hcb] at HAC
      have HC3 := Lib.hid (show chkLs none l = if ordB (prevAt l k) (key (a, cu, m0 :: mr)) then 8 else chkLs (some (key (a, cu, m0 :: mr))) (l.drop (k + 1)) by
        rw [HC2.out, if_neg (by rw [lineI_parts g1 g2 hcb]; decide), if_neg (by simp)])
      clear HC2 hpc g1 g2 hcb x0 x1 x2 hT hM
      go_wp2_with fail
      refine HAC.out.mono ?_
      rintro e w3 ⟨rfl, hb⟩
      have HB4 := Lib.hid (below_next HB3.out hb ⟨rfl, rfl, rfl, rfl⟩)
      have HB5 := Lib.hid hb
      have ld := block_lt_of_cell d0
      have f0 := (hb.cell (p := ⟨wr.heap.size, 0, none⟩) ld).trans d0
      have f1 := (hb.cell (p := ⟨wr.heap.size, 1, none⟩) ld).trans d1
      have f2 := (hb.cell (p := ⟨wr.heap.size, 2, none⟩) ld).trans d2
      clear hb HAC d0 d1 d2 HX
      go_upto_region 7 with fail
      by_cases hk0 : k = 0
      · have hf : ordB (prevAt l k) (key (a, cu, m0 :: mr)) = false := by rw [hk0]; rfl
        have hch2 := HC3.out
        rw [hf, if_neg (by decide)] at hch2
        have hk0i : ¬ (0 : Int) < (k : Int) := by omega
        have hk0n : ¬ 0 < k := by omega
        have HCH := Lib.hid hch2
        clear hk0 hch2 hf HC3
        go_quiet (fail)
        have RR := Lib.hid (show LisR w l (k + 1) (w3.drewN nq) from ⟨by rw [hpk.out]; exact HCH.out, below_dr HB4.out nq⟩)
        clear hpk
        go_wp2_with fail
        exact ⟨⟨k + 1, by omega, by go_num, RR⟩, by simp [intOf]; omega⟩
      · obtain ⟨j, hj⟩ : ∃ j, k = j + 1 := ⟨k - 1, by omega⟩
        have hHj := Lib.hid hj
        have q0 := (L1.out.below HB4.out).cell rowB_ok ln0 j 0 _ (by omega) rfl
        have q1 := (L1.out.below HB4.out).cell rowB_ok ln0 j 1 _ (by omega) rfl
        have hpv : prevAt l k = some (key (l.getD j ln0)) := by rw [hj]; rfl
        have hch2 := HC3.out
        rw [hpv] at hch2
        have hw : IntKind.i64.wrap ((k : Int) - 1) = (j : Int) := (IntWalk.i64_in _ (by omega)).trans (by omega)
        have hji : (j : Int) < (n : Int) := by omega
        have hk0i : (0 : Int) < (k : Int) := by omega
        have hk0n : 0 < k := by omega
        clear hpv hj hk0 HC3
        generalize l.getD j ln0 = y at *
        obtain ⟨ya, yc, ym⟩ := y
        simp only [Nat.add_zero] at q0 q1
        have HCH := Lib.hid hch2
        clear hch2
        have HSS := Lib.hid (And.intro q0 (And.intro q1 (And.intro f0 (And.intro f1 f2))))
        have ly := block_lt_of_cell q0
        have lx := block_lt_of_cell f0
        have HD := Lib.hid (Below.refl w3.heap.size w3)
        generalize hcv : cmpKy (ya, yc) (a, cu) = cv at *
        go_region_held3 (fun w' => w'.cell? ⟨b1, o1 + j * 3, none⟩ = some (.string ⟨ya.toArray⟩) ∧ w'.cell? ⟨b1, o1 + j * 3 + 1, none⟩ = some (.string ⟨yc.toArray⟩) ∧ w'.cell? ⟨wr.heap.size, 0, none⟩ = some (.string ⟨a.toArray⟩) ∧ w'.cell? ⟨wr.heap.size, 1, none⟩ = some (.string ⟨cu.toArray⟩) ∧ w'.cell? ⟨wr.heap.size, 2, none⟩ = some (.string ⟨(m0 :: mr).toArray⟩))
          (first | exact ⟨g0, g1, g2, g3, g4⟩ | exact ⟨q0, q1, f0, f1, f2⟩ | go_keep)
          (first
            | (go_at_call 126; refine (kcmpL3 _ _ _ _ _).mono ?_; rintro e w' ⟨rfl, hb⟩; have HD := Lib.hid (below_next HD.out hb ⟨rfl, rfl, rfl, rfl⟩); have g0 := (HD.out.cell ly).trans HSS.out.1; have g1 := (HD.out.cell (p := ⟨b1, o1 + j * 3 + 1, none⟩) ly).trans HSS.out.2.1; have g2 := (HD.out.cell lx).trans HSS.out.2.2.1; have g3 := (HD.out.cell (p := ⟨wr.heap.size, 1, none⟩) lx).trans HSS.out.2.2.2.1; have g4 := (HD.out.cell (p := ⟨wr.heap.size, 2, none⟩) lx).trans HSS.out.2.2.2.2; clear hb))
        have hf : ordB (some (key (ya, yc, ym))) (key (a, cu, m0 :: mr)) = decide (0 ≤ cv) := by
          show decide (0 ≤ cmpKy (ya, yc) (a, cu)) = _
          rw [hcv]
        have hch2 := HCH.out
        rw [hf] at hch2
        have HB6 := Lib.hid (HB4.out.trans (HD.out.mono HB4.out.size))
        by_cases hc0 : 0 ≤ cv
        · rw [decide_eq_true hc0, if_pos rfl] at hch2
          have hr := Lib.hid (show r = false by rw [hv.out, hch2]; rfl)
          have hv1 := Lib.hid (HP.out _ HB6.out)
          rw [hr.out] at hv1
          clear hch2 HCH
          go_wp2_with fail
          exact hv1.out
        · rw [decide_eq_false hc0, if_neg (by decide)] at hch2
          have RR := Lib.hid (show LisR w l (k + 1) w' from ⟨by rw [hpk.out]; exact hch2, HB6.out⟩)
          clear hch2 hpk HCH
          go_wp2_with fail
          exact ⟨⟨k + 1, by omega, by go_num, RR⟩, by simp [intOf]; omega⟩
    · have hkn : k = n := by omega
      subst hkn
      have hki : ¬ (k : Int) < (k : Int) := by omega
      have hr := Lib.hid (show r = true by
        rw [hv.out, hch.out, List.drop_of_length_le (by rw [ll.out]; exact Nat.le_refl _)]
        rfl)
      have hv1 := Lib.hid (HP.out wr HB.out)
      rw [hr.out] at hv1
      go_wp2_with fail
      exact hv1.out
end Go.Proofs.YtohdpidlilhnjaaGreatDoor

/- Contract of ledger.Rollup: a loop whose rounds each range over a function; each leaves a mark among the deferred calls. -/
namespace Go.Proofs.YtohdpidlilhnjaaGreatDoor
open Go.RowKit Go.Shelf Go.Maps Num
attribute [local go_sem] Oper.semAt_some

def mkD (D : Nat) : Deferred := { target := .collected D, args := #[] }
/-- the marks of ranges over functions are taken in, whatever stays while their blocks are shut -/
theorem leaves_marks {F : Fence} {n : Nat} {P : Program} {fn : Func} {tmps : Array Value} {R : Ending → World → Prop} (I : World → Prop) : ∀ (ds : List Nat) (W : World), ds.Nodup → (∀ D ∈ ds, W.heap[D]? = some (.deferred (some []))) →
    (∀ D ∈ ds, ∀ X Y, I X → X.grownBy Y (some D) → I Y) → I W → (∀ W', I W' → LeavesIn F n P fn tmps R [] .returning W') → LeavesInM F n P fn tmps R (ds.map mkD) .returning W
  | [], W, _, _, _, h0, h => h W h0
  | D :: ds, W, hnd, hmk, hI, h0, h => by
    rw [List.nodup_cons] at hnd
    refine ⟨by simp, .inl ⟨D, _, rfl, run_takeDeferred (hmk D (by simp)), ?_⟩⟩
    refine leaves_marks I ds _ hnd.2 (fun E hE => ?_) (fun E hE => hI E (by simp [hE])) (hI D (by simp) _ _ h0 (grownBy_putObj' W D _)) h
    exact (World.putObj_heap_other (fun e => hnd.1 (by rw [← e]; exact hE))).trans (hmk E (by simp [hE]))
/-- what the loop keeps: the sums, the variable's box, the marks -/
structure RolR (w : World) (L : List Ln) (ds : List Nat) (W : World) : Prop where
  map : SumM L w.heap.size W
  bel : Below w.heap.size w W
  box : W.heap[w.heap.size + 1]? = some (.cells #[.map (some w.heap.size)] 105)
  nd : ds.Nodup
  mks : ∀ D ∈ ds, w.heap.size + 1 < D ∧ W.heap[D]? = some (.deferred (some []))
theorem some_lt {W : World} {b : Nat} {o : Obj} (h : W.heap[b]? = some o) : b < W.heap.size := by
  rcases Nat.lt_or_ge b W.heap.size with h' | h'
  · exact h'
  · rw [Array.getElem?_eq_none h'] at h; cases h
theorem RolR.lt {w W : World} {L : List Ln} {ds : List Nat} (h : RolR w L ds W) : w.heap.size + 1 < W.heap.size := some_lt h.box
theorem RolR.grown {w W W' : World} {L : List Ln} {ds : List Nat} {row : Option Nat} {top : Nat} (h : RolR w L ds W) (hg : W.grownBy W' row) (ht : w.heap.size + 1 < top) (hd : ∀ D ∈ ds, D < top) (hr : ∀ r, row = some r → top ≤ r) : RolR w L ds W' :=
  ⟨h.map.kept hg (fun e => by have := hr _ e.symm; omega), below_own h.bel (Nat.le_refl _) hg (fun k e => by have := hr k e; omega),
    (hg.block _ h.lt (fun e => by have := hr _ e.symm; omega)).trans h.box, h.nd, fun D hD => ⟨(h.mks D hD).1, (hg.block _ (some_lt (h.mks D hD).2) (fun e => by have := hr _ e.symm; have := hd D hD; omega)).trans (h.mks D hD).2⟩⟩
theorem RolR.next {w W W' : World} {L : List Ln} {ds : List Nat} (h : RolR w L ds W) (hb : Below W.heap.size W W') : RolR w L ds W' :=
  ⟨h.map.below hb, below_next h.bel hb ⟨rfl, rfl, rfl, rfl⟩, (hb.block _ h.lt).trans h.box, h.nd, fun D hD => ⟨(h.mks D hD).1, (hb.block _ (some_lt (h.mks D hD).2)).trans (h.mks D hD).2⟩⟩
theorem RolR.add {w W W' : World} {L L' : List Ln} {ds : List Nat} (h : RolR w L ds W) (h1 : SumM L' w.heap.size W') (hg : W.grownBy W' (some w.heap.size)) : RolR w L' ds W' :=
  ⟨h1, below_grown h.bel (Nat.le_refl _) hg (Nat.le_refl _), (hg.block _ h.lt (fun e => by have := Option.some.inj e; omega)).trans h.box, h.nd,
    fun D hD => ⟨(h.mks D hD).1, (hg.block _ (some_lt (h.mks D hD).2) (fun e => by have := Option.some.inj e; have := (h.mks D hD).1; omega)).trans (h.mks D hD).2⟩⟩
theorem RolR.mark {w W : World} {L : List Ln} {ds : List Nat} {D : Nat} (h : RolR w L ds W) (hD : W.heap[D]? = some (.deferred (some []))) (hn : D ∉ ds) (h1 : w.heap.size + 1 < D) : RolR w L (D :: ds) W :=
  ⟨h.map, h.bel, h.box, List.nodup_cons.2 ⟨hn, h.nd⟩, fun E hE => by
    rcases List.mem_cons.1 hE with rfl | hE
    · exact ⟨h1, hD⟩
    · exact h.mks E hE⟩
theorem RolR.start (w : World) : RolR w [] [] ((w.alloc (.map #[] 0)).alloc (.cells #[.map (some w.heap.size)] 105)) :=
  ⟨(SumM.zero w).kept (World.grownBy_alloc _ _ none) (by simp), ((Below.refl _ w).alloc (Nat.le_refl _) _).alloc (by simp) _, by
    have := heap_alloc_new (w.alloc (.map #[] 0)) (.cells #[.map (some w.heap.size)] 105)
    rwa [World.size_alloc] at this, List.nodup_nil, fun D hD => by cases hD⟩
theorem above_at (s : ByteArray) (w : World) (H : Nat) (hH : w.heap.size = H) : Calls Tryz.prog 70 #[.string s] w fun e w' => e = .returned (.func (.func 127) #[] #[.pointer (some ⟨H, 0, none⟩)]) ∧ w' = w.alloc (.cells #[.string s] 9) := by
  subst hH
  exact above_any s w
def rolI (l : List Ln) : Int := if listB l = true then 0 else 1
def rolL (l : List Ln) : List Ln := if listB l = true then rollN l else []
theorem upL_take (l : List Ln) (k : Nat) (h : k < l.length) : roll (l.take (k + 1)) = roll (l.take k) ++ upL (l.getD k ln0) := by
  rw [take_ln l k h, roll_append]
  simp [roll]
set_option maxRecDepth 100000 in
set_option maxHeartbeats 8000000 in
theorem Rollup_in (d : Nat) (hd : 1 ≤ d) (A : Option Addr) (n c : Nat) (l : List Ln) (w : World) (hl : rowB.Rds w A n c l) (hs : ∀ x ∈ l, Sml x) (hn : n ≤ 1500) (ht : Tab w) (hm : ML w) :
    CallsIn Fence.wide d Tryz.prog 22 #[.slice A n c] w (ListC (rolL l) (rolI l) w) := by
  have ll := Lib.hid hl.len
  have HLI := Lib.hid (isList_any A n c l w hl hs (by omega) ht hm)
  have L1 := Lib.hid hl
  have HS := Lib.hid hs
  have HT := Lib.hid ht
  have HM := Lib.hid hm
  have HP := Lib.hid (fun v i W (h1 : rowB.Own w.heap.size W v (rolL l)) (h2 : Below w.heap.size w W) (hi : rolI l = i) => (show ListC (rolL l) (rolI l) w (.returned (.tuple #[v, .int .i64 i])) W from ⟨v, by rw [hi], h1, h2⟩))
  have HLL := Lib.hid (show rolL l = if listB l = true then rollN l else [] from rfl)
  have HLJ := Lib.hid (show rolI l = if listB l = true then 0 else 1 from rfl)
  have hmm := @run_makeMap Tryz.prog
  clear hl hs ht hm
  generalize ListC (rolL l) (rolI l) w = Post at *
  generalize rolI l = ri at *
  generalize rolL l = rl at *
  refine callsIn_of_wp_marks Tryz.func22 rfl trivial ?_ rfl
  simp only [Tryz.ntmps22, List.size_toArray, List.length_cons, List.length_nil, Nat.reduceAdd, Nat.reduceSub, Array.replicate_succ, Array.replicate_zero, List.push_toArray, List.append_toArray, List.nil_append, List.cons_append]
  cases hb : listB l
  · have hv := Lib.hid (fun W hb' => HP.out (.slice none 0 0) 1 W (by rw [HLL.out, hb, if_neg (by simp)]; exact Row.Own.nil _ _) hb' (by rw [HLJ.out, hb, if_neg (by simp)]))
    rw [hb] at HLI
    clear hb HLL HLJ HP
    gi_wp2_with (refine ⟨trivial, ?_⟩; refine (callsIn_wide.2 HLI.out).mono ?_; rintro e w1 ⟨rfl, hb1⟩)
    exact ⟨.tuple #[.slice none 0 0, .int .i64 1], by simp [results, Tryz.f22, go_sem], hv.out _ hb1⟩
  · have HCN := Lib.hid (listB_code hb)
    have HCA := Lib.hid (listB_can hb)
    have hv := Lib.hid (fun v W (h1 : rowB.Own w.heap.size W v (rollN l)) hb' => HP.out v 0 W (by rw [HLL.out, hb, if_pos rfl]; exact h1) hb' (by rw [HLJ.out, hb, if_pos rfl]))
    rw [hb] at HLI
    clear hb HLL HLJ HP
    gi_wp2_with (refine ⟨trivial, ?_⟩; refine (callsIn_wide.2 HLI.out).mono ?_; rintro e w1 ⟨rfl, hb1⟩)
    have HB1 := Lib.hid hb1
    have hpos : 0 < w1.heap.size := Nat.lt_of_lt_of_le HM.out.lt hb1.size
    have R0 := Lib.hid (show RolR w1 (roll (l.take 0)) [] ((w1.alloc (.map #[] 0)).alloc (.cells #[.map (some w1.heap.size)] 105)) from RolR.start w1)
    clear hb1 HLI
    refine wpIn_loop (fun a W => ∃ (k : Nat) (ds : List Nat) (u6 u15 u16 u17 u18 u19 u20 u30 : Value), k ≤ n ∧ Hid (RolR w1 (roll (l.take k)) ds W) ∧ a = { tmps := #[.slice A n c, undef, .slice none 0 0, .int .i64 0, .pointer (some ⟨w1.heap.size + 1, 0, none⟩), undef, u6, undef, .slice A n c, .bool true, .bool false, .map (some w1.heap.size), .slice A n c, .int .i64 (n : Int), .int .i64 (k : Int), u15, u16, u17, u18, u19, u20, undef, undef, undef, undef, undef, undef, undef, undef, undef, u30, undef, undef], defers := ds.map mkD }) (fun a _ => n - (intOf (a.tmps.getD 14 undef)).toNat) ⟨0, [], undef, undef, undef, undef, undef, undef, undef, undef, by omega, R0, rfl⟩ ?_
    rintro a wr ⟨k, ds, u6, u15, u16, u17, u18, u19, u20, u30, hk, hR, rfl⟩
    clear R0
    dsimp only
    by_cases hlt : k < n
    · have hkl : k < l.length := by rw [ll.out]; exact hlt
      have htk := Lib.hid (upL_take l k hkl)
      have hmem := lnAt_mem l k hkl
      have hcd := Lib.hid (HCN.out _ hmem)
      have hsx := Lib.hid (HS.out _ hmem)
      have HBk := Lib.hid (HB1.out.trans (hR.out.bel.mono HB1.out.size))
      obtain ⟨b1, o1, rfl, hbl1, _⟩ := L1.out.at_ (by omega)
      have q0 := (L1.out.below HBk.out).cell rowB_ok ln0 k 0 _ hlt rfl
      have q1 := (L1.out.below HBk.out).cell rowB_ok ln0 k 1 _ hlt rfl
      have q2 := (L1.out.below HBk.out).cell rowB_ok ln0 k 2 _ hlt rfl
      have hki : (k : Int) < (n : Int) := by omega
      generalize l.getD k ln0 = x at *
      obtain ⟨xa, xc, xm⟩ := x
      simp only [Nat.add_zero] at q0 q1 q2
      gi_wp2
      have h5 : (wr.alloc (.cells #[.string ⟨xa.toArray⟩, .string ⟨xc.toArray⟩, .string ⟨xm.toArray⟩] 33)).heap.size = wr.heap.size + 1 := by simp
      refine ⟨trivial, ?_⟩
      refine (callsIn_wide.2 (above_at ⟨xa.toArray⟩ _ (wr.heap.size + 1) h5)).mono ?_
      rintro e wq ⟨rfl, hwq⟩
      have hbq : Below wr.heap.size wr wq := by rw [hwq]; exact ((Below.refl _ wr).alloc (Nat.le_refl _) _).alloc (by simp) _
      have hsq : wq.heap.size = wr.heap.size + 2 := by rw [hwq]; simp
      have bbox : wq.heap[wr.heap.size]? = some (.cells #[.string ⟨xa.toArray⟩, .string ⟨xc.toArray⟩, .string ⟨xm.toArray⟩] 33) := by
        rw [hwq, heap_alloc_old _ _ (by simp)]; exact heap_alloc_new wr _
      have sbox : Boxed wq (wr.heap.size + 1) 9 (.string ⟨xa.toArray⟩) := by
        have := Boxed.new (wr.alloc (.cells #[.string ⟨xa.toArray⟩, .string ⟨xc.toArray⟩, .string ⟨xm.toArray⟩] 33)) 9 (.string ⟨xa.toArray⟩)
        rw [h5] at this
        rw [hwq]; exact this
      have HRq := Lib.hid (hR.out.next hbq)
      have HMq := Lib.hid ((HM.out.below HBk.out).below hbq)
      have hlr := hR.out.lt
      have HDS := Lib.hid (fun D (hD : D ∈ ds) => some_lt (hR.out.mks D hD).2)
      clear hwq hbq h5 q0 q1 q2 hR hmem
      gi_wp2
      refine range_box rfl hd (gf := 127) (lb := #[.pointer (some ⟨wr.heap.size + 1, 0, none⟩)]) rfl trivial (enters_of Tryz.func127 (by kernel_rfl) rfl) (wr.heap.size + 1) (by omega) (by omega)
        (above_stops (d - 1) (wr.heap.size + 1) xa wq sbox (by have := hsx.out.1; simp only at this; omega) HMq.out (by omega) (by omega)) (fun _ => rfl)
        (fun pre W => RolR w1 (roll (l.take k) ++ pre.map fun p : Cod => (p.1, xc, xm)) ds W ∧ W.heap[wr.heap.size]? = some (.cells #[.string ⟨xa.toArray⟩, .string ⟨xc.toArray⟩, .string ⟨xm.toArray⟩] 33) ∧ wq.heap.size ≤ W.heap.size)
        (fun _ _ => False)
        (fun s A B row hs hg hr => ⟨hs.1.grown hg (top := wr.heap.size + 1) (by omega) (fun D hD => by have := HDS.out D hD; omega) (fun r e => by have := (hr r e).1; omega), (hg.block _ (some_lt hs.2.1) (fun e => by have := (hr _ e.symm).1; omega)).trans hs.2.1, Nat.le_trans hs.2.2 hg.size⟩)
        (fun s A B row hs hg hr => hs)
        (fun s A B hs hg => ⟨hs.1.grown hg (top := wr.heap.size + 1) (by omega) (fun D hD => by have := HDS.out D hD; omega) (fun r e => by have := Option.some.inj e; omega), (hg.block _ (some_lt hs.2.1) (fun e => by have := Option.some.inj e; omega)).trans hs.2.1, Nat.le_trans hs.2.2 hg.size⟩)
        (fun s A B hs hg => hs)
        ⟨by rw [List.map_nil, List.append_nil]; exact HRq.out, bbox, Nat.le_refl _⟩
        ?a1 ?assign ?body ?done ?stop
      case assign =>
        intro l' x W K hK
        gi_wp2
        exact hK
      case body =>
        rintro lp pre x W ⟨hRp, hbx, hsz⟩ hlt'
        have c4 : W.cell? ⟨w1.heap.size + 1, 0, none⟩ = some (.map (some w1.heap.size)) := by rw [cell_of_row _ _ _ _ _ _ hRp.box]; rfl
        obtain ⟨⟨y0, y1, y2⟩, _⟩ := cells3 hbx
        have hsm : ∀ y ∈ (roll (l.take k) ++ pre.map fun p : Cod => (p.1, xc, xm)) ++ [(x.1, xc, xm)], Sml y := fun y hy => by
          rcases List.mem_append.1 hy with h | h
          · rcases List.mem_append.1 h with h | h
            · exact roll_sml (fun z hz => HS.out z (List.mem_of_mem_take hz)) y h
            · obtain ⟨p, _, rfl⟩ := List.mem_map.1 h
              exact ⟨p.2, hsx.out.2.1, hsx.out.2.2⟩
          · rw [List.mem_singleton.1 h]
            exact ⟨x.2, hsx.out.2.1, hsx.out.2.2⟩
        have hll : (roll (l.take k) ++ pre.map fun p : Cod => (p.1, xc, xm)).length < 10000 := by
          have h1 := roll_len (l := l.take k) (fun z hz => HCN.out z (List.mem_of_mem_take hz))
          have h2 := ups_six hcd.out
          rw [List.length_append, List.length_map]
          rw [List.length_take] at h1
          omega
        have HAD := Lib.hid (add_s w1.heap.size _ x.1 xc xm W hRp.map hsm hll (HT.out.below (HB1.out.trans (hRp.bel.mono HB1.out.size))))
        have HRX := Lib.hid (fun W' h1 h2 => hRp.add (L' := (roll (l.take k) ++ pre.map fun p : Cod => (p.1, xc, xm)) ++ [(x.1, xc, xm)]) (W' := W') h1 h2)
        have hsw := some_lt hbx
        clear hsm hll hRp htk HRq HMq HDS bbox sbox
        gi_wp2
        refine ⟨trivial, fun h => (by cases h), ?_⟩
        refine (CallsIn.inRound lp (callsIn_wide.2 HAD.out)).mono ?_
        rintro e W3 ⟨rfl, h1, h2⟩
        have HR3 := Lib.hid (HRX.out W3 h1 h2)
        gi_wp2
        refine ⟨⟨h2.size, fun i o hi ho _ => (h2.block i (some_lt ho) (fun e => by have := Option.some.inj e; omega)).trans ho⟩, ⟨h2.block _ (by omega) (fun e => by have := Option.some.inj e; omega), h2.block _ (by omega) (fun e => by have := Option.some.inj e; omega)⟩, ?_, (h2.block _ hsw (fun e => by have := Option.some.inj e; omega)).trans hbx, Nat.le_trans hsz h2.size⟩
        rw [List.map_append, ← List.append_assoc]
        exact HR3.out
      case done =>
        rintro D xs W hD hxs ⟨hRp, hbx, _⟩ hmk
        have RR := Lib.hid (show RolR w1 (roll (l.take (k + 1))) (D :: ds) W by
          rw [htk.out]
          have e : upL (xa, xc, xm) = xs.map fun p : Cod => (p.1, xc, xm) := by
            unfold upL
            rw [← hxs, List.map_map]; rfl
          rw [e]
          exact hRp.mark hmk (fun h => by have := HDS.out D h; omega) (by omega))
        clear hRp hbx htk HRq HMq HDS bbox sbox hxs
        gi_wp2
        exact ⟨⟨k + 1, D :: ds, _, _, _, _, _, _, _, _, by omega, RR, rfl⟩, by simp [intOf]; omega⟩
      case stop =>
        rintro D pre W _ _ h _
        exact h.elim
    · have hkn : k = n := by omega
      subst hkn
      have hki : ¬ (k : Int) < (k : Int) := by omega
      have e : l.take k = l := List.take_of_length_le (by rw [ll.out]; exact Nat.le_refl _)
      have hRk := hR.out
      rw [e] at hRk
      have HRk := Lib.hid hRk
      have hc4 : wr.cell? ⟨w1.heap.size + 1, 0, none⟩ = some (.map (some w1.heap.size)) := by rw [cell_of_row _ _ _ _ _ _ hRk.box]; rfl
      have HLS := Lib.hid (list_s w1.heap.size (roll l) wr hRk.map (roll_sml HS.out) (Nat.le_trans (roll_len HCN.out) (by rw [ll.out]; omega)) (roll_can HCA.out))
      clear hR e hRk
      gi_wp2
      refine ⟨trivial, ?_⟩
      refine (callsIn_wide.2 HLS.out).mono ?_
      rintro e w3 ⟨v, rfl, h1, h2⟩
      have H1 := Lib.hid (show rowB.Own wr.heap.size w3 v (rollN l) ∧ Below w1.heap.size w1 w3 from ⟨h1, HRk.out.bel.trans (h2.mono HRk.out.bel.size)⟩)
      have HMK := Lib.hid (show ∀ D ∈ ds, w1.heap.size < D ∧ D < wr.heap.size ∧ w3.heap[D]? = some (.deferred (some [])) from fun D hD => ⟨by have := (HRk.out.mks D hD).1; omega, some_lt (HRk.out.mks D hD).2, (h2.block D (some_lt (HRk.out.mks D hD).2)).trans (HRk.out.mks D hD).2⟩)
      have hsz := Lib.hid (Nat.le_trans HB1.out.size HRk.out.bel.size)
      clear h1 h2 HLS
      gi_wp2
      refine leaves_marks (fun W => rowB.Own wr.heap.size W v (rollN l) ∧ Below w1.heap.size w1 W) ds w3 HRk.out.nd (fun D hD => (HMK.out D hD).2.2) ?_ H1.out ?_
      · intro D hD X Y hX hg
        have hD2 := HMK.out D hD
        exact ⟨hX.1.kept hg (fun k e => by have := Option.some.inj e; omega), below_own hX.2 (Nat.le_refl _) hg (fun k e => by have := Option.some.inj e; omega)⟩
      · intro W' hW'
        exact ⟨.tuple #[v, .int .i64 0], by simp [results, Tryz.f22, go_sem], hv.out v W' (hW'.1.mono hsz.out) (HB1.out.trans (hW'.2.mono HB1.out.size))⟩
theorem Rollup_any (A : Option Addr) (n c : Nat) (l : List Ln) (w : World) (hl : rowB.Rds w A n c l) (hs : ∀ x ∈ l, Sml x) (hn : n ≤ 1500) (ht : Tab w) (hm : ML w) :
    Calls Tryz.prog 22 #[.slice A n c] w (ListC (rolL l) (rolI l) w) := (callsIn_wide (n := 4)).1 (Rollup_in 4 (by omega) A n c l w hl hs hn ht hm)
end Go.Proofs.YtohdpidlilhnjaaGreatDoor
