/- LedgerRows: the walk (printed by gen_lgc.py). -/
import Derived.Test.YtohdpidlilhnjaaGreatDoorQ12
namespace Go.Proofs.YtohdpidlilhnjaaGreatDoor
open Go.RowKit Go.Maps Num

theorem cells4 {W : World} {b : Nat} {x y z u : Value} {t : TypeId} (h : W.heap[b]? = some (.cells #[x, y, z, u] t)) : W.cell? ⟨b, 0, none⟩ = some x ∧ W.cell? ⟨b, 1, none⟩ = some y ∧ W.cell? ⟨b, 2, none⟩ = some z ∧ W.cell? ⟨b, 3, none⟩ = some u := by
  refine ⟨?_, ?_, ?_, ?_⟩ <;> rw [cell_of_row _ _ _ _ _ _ h] <;> rfl
/-- what the law asks of the rows R; bal: the balances of the days -/
structure RowsF (R : List Rw) (bal : Int → List UInt8) : Prop where
  run : ∀ i, i < R.length → (R.getD i rw0).2.2.2 = txt (rsum (R.take (i + 1)))
  ne : ∀ i, i < R.length → (R.getD i rw0).2.2.1 ≠ []
  srt : ∀ i, i + 1 < R.length → (R.getD i rw0).1 ≤ (R.getD (i + 1) rw0).1
  at_ : ∀ i, i < R.length → (i + 1 = R.length ∨ (R.getD i rw0).1 < (R.getD (i + 1) rw0).1) → bal (R.getD i rw0).1 = (R.getD i rw0).2.2.2
  day : ∀ i, i < R.length → -25567 ≤ (R.getD i rw0).1 ∧ (R.getD i rw0).1 ≤ 84005
  last : txt (rsum R) = bal 84005
theorem getD_rw (R : List Rw) (i : Nat) (h : i < R.length) : R.getD i rw0 = R[i] := by rw [List.getD_eq_getElem?_getD, List.getElem?_eq_getElem h]; rfl
theorem head_rng {d : Int} {c : List UInt8} (h : headI d c = 0) : -25567 ≤ d ∧ d ≤ 84005 := by
  unfold headI at h
  split at h
  · omega
  · omega
theorem rows_fit {es : List En} (h : OkL es) (k : Ky) : RowsF (rowsL es k) (fun d => txt (tot (flat es fun x => decide (x ≤ d)) k)) := by
  have hs := rows_srt k 0 (srtE es) srtE_days
  have hpw := List.pairwise_iff_getElem.1 hs
  have hrun := rows_run k 0 (srtE es)
  have hfl := fun d => rows_flat k d 0 (srtE es)
  have hpm := fun d => flat_perm (srtE_perm es) (fun x => decide (x ≤ d)) k
  have hday : ∀ i, i < (rowsL es k).length → -25567 ≤ ((rowsL es k).getD i rw0).1 ∧ ((rowsL es k).getD i rw0).1 ≤ 84005 := fun i hi => by
    rw [getD_rw _ _ hi]
    obtain ⟨e, he, e1⟩ := rows_day k 0 (srtE es) _ (List.getElem_mem hi)
    rw [e1]
    exact head_rng (h.vld ((srtE_perm es).mem_iff.1 he)).head
  refine ⟨fun i hi => ?_, fun i hi => ?_, fun i hi => ?_, fun i hi hn => ?_, hday, ?_⟩
  · have := hrun i hi
    rw [Int.zero_add] at this
    exact this
  · rw [getD_rw _ _ hi]
    exact rows_ne k 0 (srtE es) _ (List.getElem_mem hi)
  · rw [getD_rw _ _ hi, getD_rw _ _ (by omega)]
    exact hpw i (i + 1) (Nat.lt_of_succ_lt hi) hi (Nat.lt_succ_self i)
  · have e1 := rows_take hs hi hn
    have e2 := hfl ((rowsL es k).getD i rw0).1
    have e3 := hrun i hi
    rw [Int.zero_add] at e3
    show txt (tot (flat es fun x => decide (x ≤ ((rowsL es k).getD i rw0).1)) k) = _
    rw [← hpm, ← e2]
    exact ((congrArg (fun z => txt (rsum z)) e1).trans e3.symm)
  · have e2 := hfl 84005
    show _ = txt (tot (flat es fun x => decide (x ≤ 84005)) k)
    rw [← hpm, ← e2]
    refine congrArg (fun z => txt (rsum z)) (rows_last fun x hx => ?_).symm
    obtain ⟨i, hi, rfl⟩ := List.mem_iff_getElem.1 hx
    have := (hday i hi).2
    rw [getD_rw _ _ hi] at this
    exact this
theorem rsum_bd {es : List En} (h : ∀ e ∈ es, e.2.2.length ≤ 64 ∧ ∀ x ∈ e.2.2, Sml x) (k : Ky) (s : Int) : ∀ i, (rsum ((rowsE k s es).take i)).natAbs ≤ 64 * es.length * big ∧ ∀ x ∈ rowsE k s es, x.2.2.1.length ≤ 110 := by
  induction es generalizing s with
  | nil => exact fun i => ⟨by simp [rowsE, rsum], fun x hx => (by cases hx)⟩
  | cons e r ih =>
    intro i
    have h0 := h e (by simp)
    have hb := tot_bd e.2.2 h0.2 k
    have h3 : e.2.2.length * big ≤ 64 * big := Nat.mul_le_mul_right _ h0.1
    rw [rowsE]
    split
    · obtain ⟨h1, h2⟩ := ih (fun x hx => h x (by simp [hx])) s i
      refine ⟨?_, h2⟩
      rw [List.length_cons, Nat.mul_add, Nat.add_mul]; omega
    · cases i with
      | zero =>
        obtain ⟨_, h2⟩ := ih (fun x hx => h x (by simp [hx])) (s + tot e.2.2 k) 0
        refine ⟨by simp [rsum], fun x hx => ?_⟩
        rcases List.mem_cons.1 hx with rfl | hx
        · exact bd_txt4 hb (by have := h0.1; omega)
        · exact h2 x hx
      | succ i =>
        obtain ⟨h1, h2⟩ := ih (fun x hx => h x (by simp [hx])) (s + tot e.2.2 k) i
        refine ⟨?_, fun x hx => ?_⟩
        · rw [List.take_succ_cons, rsum_cons, val_txt, List.length_cons, Nat.mul_add, Nat.add_mul]; omega
        · rcases List.mem_cons.1 hx with rfl | hx
          · exact bd_txt4 hb (by have := h0.1; omega)
          · exact h2 x hx
theorem take_rw (R : List Rw) (i : Nat) (h : i < R.length) : rsum (R.take (i + 1)) = rsum (R.take i) + val (R.getD i rw0).2.2.1 := by
  rw [take_gen rw0 R i h, rsum_snoc]
theorem rowsc_rds {l : List Rw} {i : Int} {w w' : World} {e : Ending} (h : RowsC l i w e w') : ∃ A c, e = .returned (.tuple #[.slice A l.length c, .int .i64 i]) ∧ rowR.Rds w' A l.length c l ∧ Below w.heap.size w w' := by
  obtain ⟨v, rfl, ho, hb⟩ := h
  obtain ⟨A, c, rfl, hr⟩ := ho.rds
  exact ⟨A, c, rfl, hr, hb⟩
set_option maxRecDepth 100000 in
set_option maxHeartbeats 8000000 in
theorem lrows_in (A : Option Addr) (n c : Nat) (ps : List RE) (ka kc : List UInt8) (w : World) (hl : rowE.Rds w A n c ps) (hr : ∀ p ∈ ps, RdG w p) (ht : Tab w) (hm : ML w)
    (hf : fineB ps = true) : Calls Tryz.prog 4 #[.slice A n c, .string ⟨ka.toArray⟩, .string ⟨kc.toArray⟩] w (BoolPost true w) := by
  obtain ⟨hg, hok⟩ := fine_parts hf
  have hres := great_res hl hr hg
  have hn : n ≤ 10 := by rw [← hl.len]; exact (great_parts hg).1
  have HF := Lib.hid (fine_any A n c ps w hl hr ht hm)
  rw [hf] at HF
  unfold BoolPost at HF
  have HP := Lib.hid (fun W (h : Below w.heap.size w W) => (show BoolPost true w (.returned (.bool true)) W from ⟨rfl, h⟩))
  have HW := Lib.hid (fun W (h : Below w.heap.size w W) => awake_any W (ht.below h) (hm.below h))
  unfold BoolPost at HW
  have HFT := rows_fit hok (ka, kc)
  have HBR := rsum_bd (es := srtE (ps.map Prod.snd)) (fun e he => ⟨hok.len e ((srtE_perm _).mem_iff.1 he), fun x hx => by
    obtain ⟨q, hq, rfl⟩ := List.mem_map.1 ((srtE_perm _).mem_iff.1 he)
    exact ((great_parts hg).2 q hq).sml x hx⟩) (ka, kc) 0
  have hsl : (srtE (ps.map Prod.snd)).length ≤ 10 := by rw [(srtE_perm _).length_eq, List.length_map, hl.len]; exact hn
  have T1 := fun W (h : Below w.heap.size w W) => Rows_any A n c ps ka kc W (hres.below h) (fit_z hg) (by omega) (ht.below h) (hm.below h)
  rw [show rwL (ps.map Prod.snd) (ka, kc) = rowsL (ps.map Prod.snd) (ka, kc) from if_pos (okL_all.2 hok), show rwI (ps.map Prod.snd) = 0 from if_pos (okL_all.2 hok)] at T1
  have T2 := fun (d : Int) (h0 : -25567 ≤ d) (h1 : d ≤ 84005) W (h : Below w.heap.size w W) => (show Calls Tryz.prog 16 #[.slice A n c, .string ⟨ka.toArray⟩, .string ⟨kc.toArray⟩, .int .i64 d] W fun e w' => e = .returned (.tuple #[.string ⟨(txt (tot (flat (ps.map Prod.snd) fun x => decide (x ≤ d)) (ka, kc))).toArray⟩, .int .i64 0]) ∧ Below W.heap.size W w' by
    have hb := Balance_any A n c ps ka kc d W (hres.below h) (fit_z hg) (by omega) (ht.below h) (hm.below h)
    obtain ⟨ta, ia⟩ := tr_ok hok h0 h1
    rw [ta, ia, balOf_norm (hok.of fun x => decide (x ≤ d))] at hb
    exact hb)
  have hlr : (rowsL (ps.map Prod.snd) (ka, kc)).length ≤ 10 := Nat.le_trans (rowsE_len _ _ _) hsl
  have HBD := Lib.hid (show ∀ i, (txt (rsum ((rowsL (ps.map Prod.snd) (ka, kc)).take i))).length ≤ 110 from fun i => bd_txt4 (HBR i).1 (by omega))
  have HBA := Lib.hid (show ∀ i, i < (rowsL (ps.map Prod.snd) (ka, kc)).length → ((rowsL (ps.map Prod.snd) (ka, kc)).getD i rw0).2.2.1.length ≤ 110 from fun i hi => by
    rw [getD_rw _ _ hi]; exact (HBR 0).2 _ (List.getElem_mem hi))
  obtain ⟨bal, hbal⟩ : ∃ bal : Int → List UInt8, (fun d => txt (tot (flat (ps.map Prod.snd) fun x => decide (x ≤ d)) (ka, kc))) = bal := ⟨_, rfl⟩
  have HBL := Lib.hid (fun (d : Int) (h0 : -25567 ≤ d) (h1 : d ≤ 84005) W (h : Below w.heap.size w W) => (show Calls Tryz.prog 16 #[.slice A n c, .string ⟨ka.toArray⟩, .string ⟨kc.toArray⟩, .int .i64 d] W fun e w' => e = .returned (.tuple #[.string ⟨(bal d).toArray⟩, .int .i64 0]) ∧ Below W.heap.size W w' by
    have h2 := T2 d h0 h1 W h
    rwa [show txt (tot (flat (ps.map Prod.snd) fun x => decide (x ≤ d)) (ka, kc)) = bal d from congrFun hbal d] at h2))
  rw [hbal] at HFT
  generalize rowsL (ps.map Prod.snd) (ka, kc) = R at *
  have HT1 := Lib.hid T1
  have HR := Lib.hid HFT
  have HT := Lib.hid ht
  clear T1 T2 hbal HFT HBR hl hr ht hm hg hok hres hf hsl
  generalize BoolPost true w = Post at *
  go_enter Tryz.func4, Tryz.ntmps4
  go_wp2_with fail
  refine HF.out.mono ?_
  rintro e w3 ⟨rfl, hb⟩
  have B3 := Lib.hid hb
  clear hb HF
  go_wp2_with fail
  refine (HT1.out _ B3.out).mono ?_
  intro e w4 hq
  obtain ⟨A1, c1, rfl, hr, hb⟩ := rowsc_rds hq
  have R4 := Lib.hid hr
  have B4 := Lib.hid (below_next B3.out hb ⟨rfl, rfl, rfl, rfl⟩)
  clear hq hr hb HT1 B3
  go_wp2_with fail
  refine (HBL.out 84005 (by omega) (by omega) _ B4.out).mono ?_
  rintro e w5 ⟨rfl, hb⟩
  have B5 := Lib.hid (below_next B4.out hb ⟨rfl, rfl, rfl, rfl⟩)
  have R5 := Lib.hid (R4.out.below hb)
  clear hb B4 R4
  have HLA := Lib.hid HR.out.last
  obtain ⟨q, hq⟩ : ∃ q, R.length = q := ⟨_, rfl⟩
  have HQ := Lib.hid hq
  rw [hq] at R5 hlr ⊢
  clear hq
  generalize bal 84005 = bl at *
  have L0 := Lib.hid (Below.refl w5.heap.size w5)
  go_wp2_with fail
  have hs0 : ([] : List UInt8) = txt (rsum (R.take 0)) := by rw [List.take_zero]; exact txt_zero.symm
  have HS0 := Lib.hid hs0
  clear hs0
  go_loopw [42, 11] (fun i v wr => ∃ (k : Nat) (s : List UInt8), k ≤ q ∧ i = .int .i64 (k : Int) ∧ v = .string ⟨s.toArray⟩ ∧ Hid (s = txt (rsum (R.take k))) ∧ Hid (Below w5.heap.size w5 wr)) (fun i _ _ => q - (intOf i).toNat)
  case atStart => exact ⟨0, [], by omega, rfl, rfl, HS0, L0⟩
  case round =>
    clear L0 HS0
    obtain ⟨k, s, hk, rfl, rfl, HSS, HB⟩ := hrel
    by_cases hlt : k < q
    · have hkl : k < R.length := by rw [HQ.out]; exact hlt
      obtain ⟨b1, o1, rfl, hb1, _⟩ := R5.out.at_ (by omega)
      have p0 := (R5.out.below HB.out).cell rowR_ok rw0 k 0 _ hlt rfl
      have p1 := (R5.out.below HB.out).cell rowR_ok rw0 k 1 _ hlt rfl
      have p2 := (R5.out.below HB.out).cell rowR_ok rw0 k 2 _ hlt rfl
      have p3 := (R5.out.below HB.out).cell rowR_ok rw0 k 3 _ hlt rfl
      have hrun := HR.out.run k hkl
      have hne := HR.out.ne k hkl
      have hdy := HR.out.day k hkl
      have hat := Lib.hid (HR.out.at_ k hkl)
      have hst := Lib.hid (fun j (hj : j + 1 = k) => HR.out.srt j (by omega))
      have htk := take_rw R k hkl
      have hba := Lib.hid (HBA.out k hkl)
      have hsb := Lib.hid (show s.length ≤ 110 by rw [HSS.out]; exact HBD.out k)
      have hki : (k : Int) < (q : Int) := by omega
      generalize hxe : R.getD k rw0 = x at *
      obtain ⟨xd, xz, xa, xr⟩ := x
      simp only [Nat.add_zero] at p0 p1 p2 p3
      simp only at hrun hne hdy htk hba
      have HB2 := Lib.hid (HB.out.alloc HB.out.size (.cells #[.int .i64 xd, .string ⟨xz.toArray⟩, .string ⟨xa.toArray⟩, .string ⟨xr.toArray⟩] 48))
      have HX := Lib.hid (cells4 (heap_alloc_new wr (.cells #[.int .i64 xd, .string ⟨xz.toArray⟩, .string ⟨xa.toArray⟩, .string ⟨xr.toArray⟩] 48)))
      obtain ⟨x0, x1, x2, x3⟩ := HX.out
      have lx := block_lt_of_cell x0
      have had : Calls Tryz.prog 21 #[.string ⟨s.toArray⟩, .string ⟨xa.toArray⟩] (wr.alloc (.cells #[.int .i64 xd, .string ⟨xz.toArray⟩, .string ⟨xa.toArray⟩, .string ⟨xr.toArray⟩] 48)) (StrPost (txt (val s + val xa)) (wr.alloc (.cells #[.int .i64 xd, .string ⟨xz.toArray⟩, .string ⟨xa.toArray⟩, .string ⟨xr.toArray⟩] 48))) :=
        Add_any ⟨s.toArray⟩ ⟨xa.toArray⟩ _ (by show s.toArray.size ≤ 120; rw [List.size_toArray]; have := hsb.out; omega) (by show xa.toArray.size ≤ 120; rw [List.size_toArray]; have := hba.out; omega) (HT.out.below (below_ah B5.out HB2.out))
      rw [show txt (val s + val xa) = xr by rw [hrun, htk, HSS.out, val_txt]] at had
      have HAD := Lib.hid had
      have HS2 := Lib.hid (show xr = txt (rsum (R.take (k + 1))) from hrun)
      have HDY := Lib.hid hdy
      clear had hrun hdy htk hsb hba
      rcases xa with _ | ⟨m0, mr⟩
      · exact absurd rfl hne
      clear hne
      go_wp2_with fail
      generalize wr.alloc (.cells #[.int .i64 xd, .string ⟨xz.toArray⟩, .string ⟨(m0 :: mr).toArray⟩, .string ⟨xr.toArray⟩] 48) = w6 at *
      generalize wr.heap.size = bx at *
      refine HAD.out.mono ?_
      rintro e w7 ⟨rfl, hb⟩
      have HB7 := Lib.hid (below_next HB2.out hb ⟨rfl, rfl, rfl, rfl⟩)
      have y0 := (hb.cell lx).trans HX.out.1
      have y2 := (hb.cell (p := ⟨bx, 2, none⟩) lx).trans HX.out.2.2.1
      have y3 := (hb.cell (p := ⟨bx, 3, none⟩) lx).trans HX.out.2.2.2
      have R7 := Lib.hid (R5.out.below HB7.out)
      clear hb HAD x0 x1 x2 x3 HX lx p0 p1 p2 p3 HB2 HB
      go_upto_region 12 with fail
      go_cut [74] (fun t wx => Hid (t = .bool false ∧ Below w7.heap.size w7 wx))
      case first =>
        clear HSS HS2 hat
        by_cases hk0 : k = 0
        · subst hk0
          have g0 : decide ((0 : Int) < ((0 : Nat) : Int)) = false := by decide
          have g1 : ¬ (0 : Int) < ((0 : Nat) : Int) := by omega
          go_quiet (fail)
          go_wp2_with fail
          go_meet
          exact Lib.hid ⟨rfl, below_dr (Below.refl _ _) nq⟩
        · obtain ⟨j, hj⟩ : ∃ j, k = j + 1 := ⟨k - 1, by omega⟩
          have hjq : j < q := by omega
          have d0 := R7.out.cell rowR_ok rw0 j 0 _ hjq rfl
          have hle := hst.out j hj.symm
          rw [← hj, hxe] at hle
          simp only [Nat.add_zero] at d0
          generalize (R.getD j rw0).1 = pd at *
          have hw : IntKind.i64.wrap ((k : Int) - 1) = (j : Int) := (IntWalk.i64_in _ (by omega)).trans (by omega)
          have g0 : decide ((0 : Int) < (k : Int)) = true := decide_eq_true (by omega)
          have g0n : decide (0 < k) = true := decide_eq_true (by omega)
          have hk0i : (0 : Int) < (k : Int) := by omega
          have hk0n : 0 < k := by omega
          have g2 : decide (xd < pd) = false := decide_eq_false (by simp only at hle; omega)
          have hji : (j : Int) < (q : Int) := by omega
          clear hle hj
          go_quiet (fail)
          go_wp2_with fail
          go_meet
          exact Lib.hid ⟨rfl, below_dr (Below.refl _ _) nq⟩
      case rest =>
      obtain ⟨rfl, hbc⟩ := hcut.out
      have HB8 := Lib.hid (below_next HB7.out hbc ⟨rfl, rfl, rfl, rfl⟩)
      have R8 := Lib.hid (R7.out.below hbc)
      have z0 := (hbc.cell (block_lt_of_cell y0)).trans y0
      clear hbc hcut y0 y2 y3 HB7 R7 hst
      go_wp2_with fail
      go_upto_region 14 with fail
      go_cut [90] (fun t wx => Hid (∃ bb : Bool, t = .bool bb ∧ (bb = true → bal xd = xr) ∧ Below wc.heap.size wc wx))
      case first =>
        obtain ⟨k2, hk2⟩ : ∃ k2 : Nat, k2 = k + 1 := ⟨_, rfl⟩
        have hw2 : IntKind.i64.wrap ((k : Int) + 1) = (k2 : Int) := (IntWalk.i64_in _ (by omega)).trans (by omega)
        have hat2 := hat.out
        rw [← hk2, HQ.out] at hat2
        clear hat HSS HS2
        by_cases hkq : k2 = q
        · have g0 : ((k2 : Int) == (q : Int)) = true := beq_iff_eq.2 (by omega)
          have g1 : (k2 == q) = true := beq_iff_eq.2 hkq
          have hfin := Lib.hid (hat2 (.inl hkq))
          clear hat2 hk2
          subst hkq
          go_quiet (fail)
          go_wp2_with fail
          go_meet
          exact Lib.hid ⟨true, rfl, fun _ => hfin.out, below_dr (Below.refl _ _) nq⟩
        · have g0 : ((k2 : Int) == (q : Int)) = false := beq_eq_false_iff_ne.2 (by omega)
          have g1 : (k2 == q) = false := beq_eq_false_iff_ne.2 hkq
          have hk2q : k2 < q := by omega
          have hk2i : (k2 : Int) < (q : Int) := by omega
          have d0 := R8.out.cell rowR_ok rw0 k2 0 _ hk2q rfl
          simp only [Nat.add_zero] at d0
          generalize (R.getD k2 rw0).1 = nd at *
          by_cases hlt2 : xd < nd
          · have g2 : decide (xd < nd) = true := decide_eq_true hlt2
            have hfin := Lib.hid (hat2 (.inr hlt2))
            clear hat2 hk2
            go_quiet (fail)
            go_wp2_with fail
            go_meet
            exact Lib.hid ⟨true, rfl, fun _ => hfin.out, below_dr (Below.refl _ _) nq⟩
          · have g2 : decide (xd < nd) = false := decide_eq_false hlt2
            clear hat2 hk2
            go_quiet (fail)
            go_wp2_with fail
            go_meet
            exact Lib.hid ⟨false, rfl, fun h => (by cases h), below_dr (Below.refl _ _) nq⟩
      case rest =>
      obtain ⟨bb, rfl, hbal, hbc⟩ := hcut.out
      have HB9 := Lib.hid (below_next HB8.out hbc ⟨rfl, rfl, rfl, rfl⟩)
      have z1 := (hbc.cell (block_lt_of_cell z0)).trans z0
      clear hbc hcut z0 HB8 R8 hat
      cases bb
      · clear hbal z1
        go_wp2_with fail
        exact ⟨⟨k + 1, xr, by omega, by go_num, rfl, HS2, HB9⟩, by simp [intOf]; omega⟩
      · have hbx := HBL.out xd HDY.out.1 HDY.out.2 _ (below_ah B5.out HB9.out)
        rw [hbal rfl] at hbx
        have HBX := Lib.hid hbx
        clear hbx hbal
        go_wp2_with fail
        refine HBX.out.mono ?_
        rintro e w9 ⟨rfl, hb⟩
        have HB10 := Lib.hid (below_next HB9.out hb ⟨rfl, rfl, rfl, rfl⟩)
        clear hb HBX z1 HB9
        go_wp2_with fail
        exact ⟨⟨k + 1, xr, by omega, by go_num, rfl, HS2, HB10⟩, by simp [intOf]; omega⟩
    · have hkq : k = q := by omega
      have hfin : s = bl := by
        rw [HSS.out, List.take_of_length_le (by rw [HQ.out, hkq]; exact Nat.le_refl _)]
        exact HLA.out
      subst hkq
      have hki : ¬ (k : Int) < (k : Int) := by omega
      subst hfin
      have BW := Lib.hid (below_ah B5.out HB.out)
      clear HB HSS
      go_wp2_with fail
      refine (HW.out _ BW.out).mono ?_
      rintro e w9 ⟨rfl, hb⟩
      have B9 := Lib.hid (below_next BW.out hb ⟨rfl, rfl, rfl, rfl⟩)
      clear hb
      go_wp2_with fail
      exact HP.out _ B9.out
set_option maxRecDepth 100000 in
theorem lrows_row (A : Option Addr) (n c : Nat) (ps : List RE) (ka kc : ByteArray) (w : World) (hl : rowE.Rds w A n c ps) (hr : ∀ p ∈ ps, RdG w p ∧ p.2.2.1.length ≤ maxLen) (ht : Tab w) (hm : ML w) :
    Calls Tryz.prog 4 #[.slice A n c, .string ka, .string kc] w (BoolPost true w) := by
  have hr2 := fun p hp => (hr p hp).1
  suffices H : ∀ ka kc : List UInt8, Calls Tryz.prog 4 #[.slice A n c, .string ⟨ka.toArray⟩, .string ⟨kc.toArray⟩] w (BoolPost true w) from H ka.data.toList kc.data.toList
  intro ka kc
  cases hf : fineB ps
  case true => exact lrows_in A n c ps ka kc w hl hr2 ht hm hf
  have HFa := Lib.hid (fine_any A n c ps w hl hr2 ht hm)
  rw [hf] at HFa
  unfold BoolPost at HFa
  have HW := Lib.hid (fun W (h : Below w.heap.size w W) => awake_any W (ht.below h) (hm.below h))
  unfold BoolPost at HW
  have HP := Lib.hid (fun W (h : Below w.heap.size w W) => (show BoolPost true w (.returned (.bool true)) W from ⟨rfl, h⟩))
  clear hl hr hr2 ht hm hf
  generalize BoolPost true w = Post at *
  go_enter Tryz.func4, Tryz.ntmps4
  go_wp2_with fail
  refine HFa.out.mono ?_
  rintro e w1 ⟨rfl, hb⟩
  have B1 := Lib.hid hb
  clear hb
  go_wp2_with fail
  refine (HW.out _ B1.out).mono ?_
  rintro e w2 ⟨rfl, hb⟩
  have B2 := Lib.hid (below_next B1.out hb ⟨rfl, rfl, rfl, rfl⟩)
  clear hb B1
  go_wp2_with fail
  exact HP.out _ B2.out
end Go.Proofs.YtohdpidlilhnjaaGreatDoor
