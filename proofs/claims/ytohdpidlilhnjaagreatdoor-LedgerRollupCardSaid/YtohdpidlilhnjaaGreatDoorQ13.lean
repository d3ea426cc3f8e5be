/- LedgerZero: the walk. -/
import Derived.Test.YtohdpidlilhnjaaGreatDoorQ12
namespace Go.Proofs.YtohdpidlilhnjaaGreatDoor
open Go.RowKit Go.Maps Num

theorem balOf_mem {t : List Ln} (h : listB t = true) {b : Ln} (hb : b ∈ t) : balOf t (key b) = b.2.2 := by
  rw [balOf_norm (listB_of h)]
  exact (((listB_of h).mem b).1 hb).1.symm
theorem sml_5 {x : Ln} (h : Sml x) : x.1.length ≤ 100000 ∧ x.2.1.length ≤ 100000 ∧ x.2.2.length ≤ 100000 := ⟨by have := h.1; omega, by have := h.2.1; omega, by have := h.2.2; omega⟩
/-- what both of zero's loops need of the trial balance T -/
structure ZeroC (w : World) (A : Option Addr) (n c : Nat) (d : Int) (T : List Ln) : Prop where
  bal : ∀ (ka kc : List UInt8) (W : World), Below w.heap.size w W → Calls Tryz.prog 16 #[.slice A n c, .string ⟨ka.toArray⟩, .string ⟨kc.toArray⟩, .int .i64 d] W fun e w' => e = .returned (.tuple #[.string ⟨(balOf T (ka, kc)).toArray⟩, .int .i64 0]) ∧ Below W.heap.size W w'
  tot : ∀ (cu : List UInt8) (A1 : Option Addr) (c1 : Nat) (W : World), Below w.heap.size w W → rowB.Rds W A1 T.length c1 T → Calls Tryz.prog 17 #[.slice A1 T.length c1, .string ⟨cu.toArray⟩] W fun e w' => e = .returned (.string ⟨#[]⟩) ∧ Below W.heap.size W w'
  has : ∀ (bp : Nat) (ka kc : List UInt8) (A1 : Option Addr) (c1 : Nat) (W : World), W.cell? ⟨bp, 0, none⟩ = some (.string ⟨ka.toArray⟩) → W.cell? ⟨bp, 1, none⟩ = some (.string ⟨kc.toArray⟩) → rowB.Rds W A1 T.length c1 T →
    Calls Tryz.prog 18 #[.slice A1 T.length c1, .func (.func 19) #[] #[.pointer (some ⟨bp, 0, none⟩)]] W fun e w' => e = .returned (.bool (T.any fun b => decide (key b = (ka, kc)))) ∧ Below W.heap.size W w'
set_option maxRecDepth 100000 in
set_option maxHeartbeats 8000000 in
theorem zero_in (A : Option Addr) (n c : Nat) (ps : List RE) (d : Int) (w : World) (hl : rowE.Rds w A n c ps) (hr : ∀ p ∈ ps, RdG w p) (ht : Tab w) (hm : ML w)
    (hf : fineB ps = true) (h0 : -25567 ≤ d) (h1 : d ≤ 84005) : Calls Tryz.prog 3 #[.slice A n c, .int .i64 d] w (BoolPost true w) := by
  obtain ⟨hg, hok⟩ := fine_parts hf
  have hres := great_res hl hr hg
  have hn : n ≤ 20 := by rw [← hl.len]; have := (great_parts hg).1; omega
  have HF := Lib.hid (fine_any A n c ps w hl hr ht hm)
  rw [hf] at HF
  unfold BoolPost at HF
  have HP := Lib.hid (fun W (h : Below w.heap.size w W) => (show BoolPost true w (.returned (.bool true)) W from ⟨rfl, h⟩))
  have HW := Lib.hid (fun W (h : Below w.heap.size w W) => awake_any W (ht.below h) (hm.below h))
  unfold BoolPost at HW
  obtain ⟨ta, ia⟩ := tr_ok hok h0 h1
  have T1 := fun W (h : Below w.heap.size w W) => Trial_any A n c ps d W (hres.below h) (fit_z hg) hn (ht.below h) (hm.below h)
  have T2 := fun (ka kc : List UInt8) W (h : Below w.heap.size w W) => Balance_any A n c ps ka kc d W (hres.below h) (fit_z hg) hn (ht.below h) (hm.below h)
  rw [ta, ia] at T1 T2
  obtain ⟨s1, z1⟩ := fit_nrm hg hok (fun x => decide (x ≤ d))
  have hla := hok.list (fun x => decide (x ≤ d))
  have hhas := trial_has hok (fun x => decide (x ≤ d))
  have hcur := trial_cur hok (fun x => decide (x ≤ d))
  have hbn := fun k => balOf_norm (hok.of fun x => decide (x ≤ d)) k
  generalize nrmL (flat (ps.map Prod.snd) fun x => decide (x ≤ d)) = T at *
  have HHB := Lib.hid (show ∀ k, decide (balOf T k ≠ []) = T.any fun b => decide (key b = k) from fun k => by rw [hbn k]; exact hhas k)
  have HZ := Lib.hid (show ZeroC w A n c d T from ⟨fun ka kc W h => T2 ka kc W h, fun cu A1 c1 W hW r => by
      have h := total_any A1 _ c1 T cu W r (fun x hx => (s1 x hx).1) (by omega) (ht.below hW)
      rw [hcur, txt_zero] at h
      exact h, fun bp ka kc A1 c1 W x0 x1 r => cont19 bp (fun b => decide (key b = (ka, kc))) A1 _ c1 T W r (by omega) fun W' x hW' _ => clo19_any bp x.1 x.2.1 x.2.2 ka kc W' ((hW'.cell (p := ⟨bp, 0, none⟩) (block_lt_of_cell x0)).trans x0) ((hW'.cell (p := ⟨bp, 1, none⟩) (block_lt_of_cell x1)).trans x1)⟩)
  have HCK := Lib.hid (fun (A1 : Option Addr) (c1 : Nat) (W : World) (r : rowB.Rds W A1 T.length c1 T) => (show Calls Tryz.prog 15 #[.slice A1 T.length c1] W fun e w' => e = .returned (.bool true) ∧ Below W.heap.size W w' by
    have h := rCheckB_any A1 _ c1 T W r (fun x hx => sml_5 (s1 x hx).1) (by omega)
    rw [hla] at h; exact h))
  have HMB := Lib.hid (fun b (hb : b ∈ T) => balOf_mem hla hb)
  have HT1 := Lib.hid T1
  have HE := Lib.hid (show ∀ p ∈ ps, RdE w p ∧ p.2.2.2.length ≤ 66 from fun p hp => ⟨hres.all p hp, ((great_parts hg).2 p hp).len⟩)
  have HR := Lib.hid hres.rds
  have hT6 : T.length ≤ 640 := z1
  have hpl := Lib.hid hl.len
  clear T1 T2 ta ia s1 z1 hla hhas hcur hbn hl hr ht hm hg hok hres hf
  generalize BoolPost true w = Post at *
  have e1 : decide (d < -25567) = false := decide_eq_false (by omega)
  have e2 : decide (84005 < d) = false := decide_eq_false (by omega)
  go_enter Tryz.func3, Tryz.ntmps3
  go_wp2_with fail
  refine HF.out.mono ?_
  rintro e w3 ⟨rfl, hb⟩
  have B3 := Lib.hid hb
  clear hb HF
  go_wp2_with fail
  refine (HT1.out _ B3.out).mono ?_
  intro e w4 hq
  obtain ⟨A1, c1, rfl, hr, hb⟩ := listc_rds hq
  have R4 := Lib.hid hr
  have B4 := Lib.hid (below_next B3.out hb ⟨rfl, rfl, rfl, rfl⟩)
  clear hq hr hb HT1 B3
  go_wp2_with fail
  refine (HCK.out _ _ _ R4.out).mono ?_
  rintro e w5 ⟨rfl, hb⟩
  have B5 := Lib.hid (below_next B4.out hb ⟨rfl, rfl, rfl, rfl⟩)
  have R5 := Lib.hid (R4.out.below hb)
  clear hb HCK B4 R4
  obtain ⟨q, hq⟩ : ∃ q, T.length = q := ⟨_, rfl⟩
  have HQ := Lib.hid hq
  rw [hq] at R5 hT6 ⊢
  clear hq
  have L0 := Lib.hid (Below.refl w5.heap.size w5)
  go_wp2_with fail
  go_loopw [45] (fun i wr => ∃ k : Nat, k ≤ q ∧ i = .int .i64 (k : Int) ∧ Hid (Below w5.heap.size w5 wr)) (fun i _ => q - (intOf i).toNat)
  case atStart => exact ⟨0, by omega, rfl, L0⟩
  case round =>
    obtain ⟨k, hk, rfl, HB⟩ := hrel
    by_cases hlt : k < q
    · have hkl : k < T.length := by rw [HQ.out]; exact hlt
      have hmb := Lib.hid (HMB.out _ (lnAt_mem T k hkl))
      obtain ⟨b1, o1, rfl, hb1, _⟩ := R5.out.at_ (by omega)
      have p0 := (R5.out.below HB.out).cell rowB_ok ln0 k 0 _ hlt rfl
      have p1 := (R5.out.below HB.out).cell rowB_ok ln0 k 1 _ hlt rfl
      have p2 := (R5.out.below HB.out).cell rowB_ok ln0 k 2 _ hlt rfl
      have hki : (k : Int) < (q : Int) := by omega
      generalize T.getD k ln0 = x at *
      obtain ⟨a, cu, m⟩ := x
      simp only [Nat.add_zero] at p0 p1 p2
      have HB2 := Lib.hid (HB.out.alloc HB.out.size (.cells #[.string ⟨a.toArray⟩, .string ⟨cu.toArray⟩, .string ⟨m.toArray⟩] 33))
      have HX := Lib.hid (cells3 (heap_alloc_new wr (.cells #[.string ⟨a.toArray⟩, .string ⟨cu.toArray⟩, .string ⟨m.toArray⟩] 33))).1
      obtain ⟨x0, x1, x2⟩ := HX.out
      have lx := block_lt_of_cell x0
      have hbl := HZ.out.bal a cu _ (below_ah B5.out HB2.out)
      rw [show balOf T (a, cu) = m from hmb.out] at hbl
      have HBL := Lib.hid hbl
      clear hbl hmb hkl
      go_wp2_with fail
      generalize wr.alloc (.cells #[.string ⟨a.toArray⟩, .string ⟨cu.toArray⟩, .string ⟨m.toArray⟩] 33) = w6 at *
      generalize wr.heap.size = bx at *
      refine HBL.out.mono ?_
      rintro e w7 ⟨rfl, hb⟩
      have HB7 := Lib.hid (below_next HB2.out hb ⟨rfl, rfl, rfl, rfl⟩)
      have y0 := (hb.cell lx).trans HX.out.1
      have y1 := (hb.cell (p := ⟨bx, 1, none⟩) lx).trans HX.out.2.1
      have y2 := (hb.cell (p := ⟨bx, 2, none⟩) lx).trans HX.out.2.2
      have htt := HZ.out.tot cu _ c1 _ (below_ah B5.out HB7.out) (by rw [HQ.out]; exact R5.out.below HB7.out)
      rw [HQ.out] at htt
      have HTT := Lib.hid htt
      clear hb HBL x0 x1 x2 HX lx p0 p1 p2 HB2 HB htt
      go_wp2_with fail
      refine HTT.out.mono ?_
      rintro e w8 ⟨rfl, hb⟩
      have HB8 := Lib.hid (below_next HB7.out hb ⟨rfl, rfl, rfl, rfl⟩)
      clear hb HTT HB7
      go_wp2_with fail
      exact ⟨⟨k + 1, by omega, by go_num, HB8⟩, by simp [intOf]; omega⟩
    · have hkn : k = q := by omega
      have HKQ := Lib.hid hkn
      subst hkn
      have hki : ¬ (k : Int) < (k : Int) := by omega
      have BR := Lib.hid (below_ah B5.out HB.out)
      have RT := Lib.hid (R5.out.below HB.out)
      clear HKQ HB L0 R5 B5
      go_wp2_with fail
      generalize wr = ws at *
      have L1 := Lib.hid (Below.refl ws.heap.size ws)
      go_loopw [77] (fun i wr => ∃ j : Nat, j ≤ n ∧ i = .int .i64 (j : Int) ∧ Hid (Below ws.heap.size ws wr)) (fun i _ => n - (intOf i).toNat)
      case atStart => exact ⟨0, by omega, rfl, L1⟩
      case round =>
        obtain ⟨j, hj, rfl, HB⟩ := hrel
        clear L1
        have HBw := Lib.hid (below_ah BR.out HB.out)
        by_cases hlj : j < n
        · have hjl : j < ps.length := by rw [hpl.out]; exact hlj
          have hmem := getD_mem re0 ps j hjl
          obtain ⟨b1, o1, rfl, hb1, _⟩ := HR.out.at_ (by omega)
          have q0 := (HR.out.below HBw.out).cell rowE_ok re0 j 0 _ hlj rfl
          have q1 := (HR.out.below HBw.out).cell rowE_ok re0 j 1 _ hlj rfl
          have q2 := (HR.out.below HBw.out).cell rowE_ok re0 j 2 _ hlj rfl
          have hqa := Lib.hid (HE.out _ hmem)
          have hji : (j : Int) < (n : Int) := by omega
          generalize ps.getD j re0 = p at *
          obtain ⟨⟨d1, z1, A4, n1, c4⟩, e1', f1, k1⟩ := p
          simp only [rawA, rawN, rawC, Nat.add_zero] at q0 q1 q2
          obtain ⟨⟨h1, h2, h3⟩, h66⟩ := hqa.out
          simp only [rawA, rawN, rawC] at h1 h2 h3 h66
          have HLN := Lib.hid h3
          have hl3 := Lib.hid h3.len
          have hn1 : n1 ≤ 66 := by rw [← h3.len]; exact h66
          have HB1 := Lib.hid (HB.out.alloc HB.out.size (.cells #[.int .i64 d1, .string ⟨z1.toArray⟩, .slice A4 n1 c4] 39))
          obtain ⟨⟨x0, x1, x2⟩, _⟩ := cells3 (heap_alloc_new wr (.cells #[.int .i64 d1, .string ⟨z1.toArray⟩, .slice A4 n1 c4] 39))
          clear hqa h1 h2 h3 h66 hmem hjl HB HBw
          go_wp2_with fail
          generalize wr.alloc (.cells #[.int .i64 d1, .string ⟨z1.toArray⟩, .slice A4 n1 c4] 39) = wt at *
          clear x0 x1 x2 q0 q1 q2
          go_loopw [84] (fun i wr => ∃ i' : Nat, i' ≤ n1 ∧ i = .int .i64 (i' : Int) ∧ Hid (Below ws.heap.size ws wr)) (fun i _ => n1 - (intOf i).toNat)
          case atStart => exact ⟨0, by omega, rfl, HB1⟩
          case round =>
            obtain ⟨i', hi', rfl, HBi⟩ := hrel
            clear HB1
            by_cases hli : i' < n1
            · have hil : i' < k1.length := by rw [hl3.out]; exact hli
              have HL2 := Lib.hid (HLN.out.below (below_ah BR.out HBi.out))
              obtain ⟨b2, o2, rfl, hb2, hc2⟩ := HL2.out.at_ (by omega)
              obtain ⟨u0, u1, u2⟩ := hc2 i' hli
              have hii : (i' : Int) < (n1 : Int) := by omega
              generalize k1.getD i' ln0 = y at *
              obtain ⟨a, cu, m⟩ := y
              simp only at u0 u1 u2
              have HB2 := Lib.hid (HBi.out.alloc HBi.out.size (.cells #[.string ⟨a.toArray⟩, .string ⟨cu.toArray⟩, .string ⟨m.toArray⟩] 40))
              have HX := Lib.hid (cells3 (heap_alloc_new wr (.cells #[.string ⟨a.toArray⟩, .string ⟨cu.toArray⟩, .string ⟨m.toArray⟩] 40))).1
              obtain ⟨x0, x1, x2⟩ := HX.out
              have lx := block_lt_of_cell x0
              have HBL := Lib.hid (HZ.out.bal a cu _ (below_ah BR.out HB2.out))
              have hhb := HHB.out (a, cu)
              have HHS := Lib.hid (fun W hx0 hx1 r => HZ.out.has wr.heap.size a cu A1 c1 W hx0 hx1 r)
              rw [HQ.out] at HHS
              generalize balOf T (a, cu) = bo at *
              generalize (T.any fun b => decide (key b = (a, cu))) = ba at *
              clear hc2 hil
              go_wp2_with fail
              generalize wr.alloc (.cells #[.string ⟨a.toArray⟩, .string ⟨cu.toArray⟩, .string ⟨m.toArray⟩] 40) = w6 at *
              generalize wr.heap.size = bx at *
              refine HBL.out.mono ?_
              rintro e w7 ⟨rfl, hb⟩
              have HB7 := Lib.hid (below_next HB2.out hb ⟨rfl, rfl, rfl, rfl⟩)
              have y0 := (hb.cell lx).trans HX.out.1
              have y1 := (hb.cell (p := ⟨bx, 1, none⟩) lx).trans HX.out.2.1
              have HTT := Lib.hid (HHS.out _ y0 y1 (RT.out.below HB7.out))
              clear hb HBL x0 x1 x2 HX lx u0 u1 u2 HB2 HBi HHS HL2
              go_wp2_with fail
              refine HTT.out.mono ?_
              rintro e w8 ⟨rfl, hb⟩
              have HB8 := Lib.hid (below_next HB7.out hb ⟨rfl, rfl, rfl, rfl⟩)
              clear hb HTT HB7 y0 y1
              rcases bo with _ | ⟨v0, vr⟩
              · have hba : ba = false := by rw [← hhb]; rfl
                subst hba
                clear hhb
                go_wp2_with fail
                exact ⟨⟨i' + 1, by omega, by go_num, HB8⟩, by simp [intOf]; omega⟩
              · have hba : ba = true := by rw [← hhb]; simp
                subst hba
                clear hhb
                go_wp2_with fail
                exact ⟨⟨i' + 1, by omega, by go_num, HB8⟩, by simp [intOf]; omega⟩
            · have hkn : i' = n1 := by omega
              subst hkn
              have hii : ¬ (i' : Int) < (i' : Int) := by omega
              go_wp2_with fail
              exact ⟨⟨j + 1, by omega, by go_num, HBi⟩, by simp [intOf]; omega⟩
        · have hkn : j = n := by omega
          subst hkn
          have hji : ¬ (j : Int) < (j : Int) := by omega
          go_wp2_with fail
          refine (HW.out _ HBw.out).mono ?_
          rintro e w9 ⟨rfl, hb⟩
          have B9 := Lib.hid (below_next HBw.out hb ⟨rfl, rfl, rfl, rfl⟩)
          clear hb
          go_wp2_with fail
          exact HP.out _ B9.out
set_option maxRecDepth 100000 in
set_option maxHeartbeats 4000000 in
theorem zero_out (A : Option Addr) (n c : Nat) (ps : List RE) (d : Int) (w : World) (hl : rowE.Rds w A n c ps) (hr : ∀ p ∈ ps, RdG w p) (ht : Tab w) (hm : ML w)
    (hc : ¬ (fineB ps = true ∧ -25567 ≤ d ∧ d ≤ 84005)) : Calls Tryz.prog 3 #[.slice A n c, .int .i64 d] w (BoolPost true w) := by
  have HFa := Lib.hid (fine_any A n c ps w hl hr ht hm)
  unfold BoolPost at HFa
  have HW := Lib.hid (fun W (h : Below w.heap.size w W) => awake_any W (ht.below h) (hm.below h))
  unfold BoolPost at HW
  have HP := Lib.hid (fun W (h : Below w.heap.size w W) => (show BoolPost true w (.returned (.bool true)) W from ⟨rfl, h⟩))
  clear hl hr ht hm
  generalize BoolPost true w = Post at *
  cases hf : fineB ps
  · rw [hf] at HFa
    clear hf hc
    go_enter Tryz.func3, Tryz.ntmps3
    go_wp2_with fail
    refine HFa.out.mono ?_
    rintro e w1 ⟨rfl, hb⟩
    have B1 := Lib.hid hb
    clear hb
    go_wp2_with fail
    refine (HW.out _ B1.out).mono ?_
    rintro e w2 ⟨rfl, hb⟩
    have B2 := Lib.hid (below_next B1.out hb ⟨rfl, rfl, rfl, rfl⟩)
    clear hb B1
    go_wp2_with fail
    exact HP.out _ B2.out
  rw [hf] at HFa hc
  by_cases h0 : -25567 ≤ d
  case neg =>
    have e1 : decide (d < -25567) = true := decide_eq_true (by omega)
    clear hf hc h0
    go_enter Tryz.func3, Tryz.ntmps3
    go_wp2_with fail
    refine HFa.out.mono ?_
    rintro e w1 ⟨rfl, hb⟩
    have B1 := Lib.hid hb
    clear hb
    go_wp2_with fail
    refine (HW.out _ B1.out).mono ?_
    rintro e w2 ⟨rfl, hb⟩
    have B2 := Lib.hid (below_next B1.out hb ⟨rfl, rfl, rfl, rfl⟩)
    clear hb B1
    go_wp2_with fail
    exact HP.out _ B2.out
  have e1 : decide (d < -25567) = false := decide_eq_false (by omega)
  have h1 : 84005 < d := by
    rcases Int.lt_or_le 84005 d with h | h
    · exact h
    · exact absurd ⟨rfl, h0, h⟩ hc
  have e2 : decide (84005 < d) = true := decide_eq_true h1
  clear hf hc h0 h1
  go_enter Tryz.func3, Tryz.ntmps3
  go_wp2_with fail
  refine HFa.out.mono ?_
  rintro e w1 ⟨rfl, hb⟩
  have B1 := Lib.hid hb
  clear hb
  go_wp2_with fail
  refine (HW.out _ B1.out).mono ?_
  rintro e w2 ⟨rfl, hb⟩
  have B2 := Lib.hid (below_next B1.out hb ⟨rfl, rfl, rfl, rfl⟩)
  clear hb B1
  go_wp2_with fail
  exact HP.out _ B2.out
theorem zero_row (A : Option Addr) (n c : Nat) (ps : List RE) (d : Int) (w : World) (hl : rowE.Rds w A n c ps) (hr : ∀ p ∈ ps, RdG w p ∧ p.2.2.1.length ≤ maxLen) (ht : Tab w) (hm : ML w) :
    Calls Tryz.prog 3 #[.slice A n c, .int .i64 d] w (BoolPost true w) := by
  have hr' := fun p hp => (hr p hp).1
  by_cases hc : fineB ps = true ∧ -25567 ≤ d ∧ d ≤ 84005
  · exact zero_in A n c ps d w hl hr' ht hm hc.1 hc.2.1 hc.2.2
  · exact zero_out A n c ps d w hl hr' ht hm hc
end Go.Proofs.YtohdpidlilhnjaaGreatDoor
