/- LedgerKinds: the walk (printed by gen_lgi.py). -/
import Derived.Test.YtohdpidlilhnjaaGreatDoorQ12
import Derived.Test.YtohdpidlilhnjaaGreatDoorQ8
import Derived.Test.YtohdpidlilhnjaaGreatDoorQ25
namespace Go.Proofs.YtohdpidlilhnjaaGreatDoor
open Go.RowKit Go.Maps Num

theorem trial_max (A : Option Addr) (n c : Nat) (ps : List RE) (w : World) (hg : greatB ps = false) (hok : OkL (ps.map Prod.snd)) (h : Res w A n c ps) (ht : Tab w) (hm : ML w) :
    Calls Tryz.prog 14 #[.slice A n c, .int .i64 84005] w (ListC (nrmL (flat (ps.map Prod.snd) fun x => decide (x ≤ 84005))) 0 w) := by
  have h1 := Trial_any A n c ps 84005 w h (fit_z hg) (by rw [← h.rds.len]; have := (great_parts hg).1; omega) ht hm
  obtain ⟨ta, ia⟩ := tr_ok hok (d := 84005) (by decide) (by decide)
  rwa [ta, ia] at h1
set_option maxRecDepth 100000 in
set_option maxHeartbeats 16000000 in
theorem kinds_in (A : Option Addr) (n c : Nat) (ps : List RE) (C : Option Addr) (q r : Nat) (ch : List Acc) (cu : List UInt8) (w : World) (hl : rowE.Rds w A n c ps) (hr : ∀ p ∈ ps, RdG w p) (hc : Accs w C q r ch) (hcl : ∀ a ∈ ch, a.1.length < 4294967281) (ht : Tab w) (hm : ML w) :
    Calls Tryz.prog 11 #[.slice A n c, .slice C q r, .string ⟨cu.toArray⟩] w (BoolPost true w) := by
  have HP := Lib.hid (fun W (h : Below w.heap.size w W) => (show BoolPost true w (.returned (.bool true)) W from ⟨rfl, h⟩))
  have HW := Lib.hid (fun W (h : Below w.heap.size w W) => awake_any W (ht.below h) (hm.below h))
  have HFI := Lib.hid (fine_any A n c ps w hl hr ht hm)
  have HCA := Lib.hid (fun W (h : Below w.heap.size w W) => rCheckAll_any C q r ch W (hc.below h) hcl)
  have HL := Lib.hid (And.intro hl hr)
  have HC := Lib.hid (And.intro hc hcl)
  have HT := Lib.hid (And.intro ht hm)
  unfold BoolPost at HW HFI
  clear hl hr hc hcl ht hm
  generalize BoolPost true w = Post at *
  cases hf : fineB ps
  case false =>
    rw [hf] at HFI
    clear HCA HL HC HT hf
    go_enter Tryz.func11, Tryz.ntmps11
    go_wp2_with fail
    refine (HFI.out).mono ?_
    rintro e w1 ⟨rfl, hx⟩
    have B1 := Lib.hid (hx)
    clear hx
    go_wp2_with fail
    refine (HW.out _ B1.out).mono ?_
    rintro e w2 ⟨rfl, hx⟩
    have B2 := Lib.hid (below_next B1.out hx ⟨rfl, rfl, rfl, rfl⟩)
    clear hx
    go_wp2_with fail
    exact HP.out _ B2.out
  rw [hf] at HFI
  by_cases hq : 20 < q
  case pos =>
    have hd : decide (20 < (q : Int)) = true := by simp; omega
    clear HCA HL HC HT hf
    go_enter Tryz.func11, Tryz.ntmps11
    go_wp2_with fail
    refine (HFI.out).mono ?_
    rintro e w1 ⟨rfl, hx⟩
    have B1 := Lib.hid (hx)
    clear hx
    go_wp2_with fail
    refine (HW.out _ B1.out).mono ?_
    rintro e w2 ⟨rfl, hx⟩
    have B2 := Lib.hid (below_next B1.out hx ⟨rfl, rfl, rfl, rfl⟩)
    clear hx
    go_wp2_with fail
    exact HP.out _ B2.out
  have hd : decide (20 < (q : Int)) = false := by simp; omega
  obtain ⟨ck, hck⟩ : ∃ ck, chkL ch = ck := ⟨_, rfl⟩
  rw [hck] at HCA
  by_cases h0 : ck = 0
  case neg =>
    have hb0 : (ck == 0) = false := beq_eq_false_iff_ne.2 h0
    have hb1 : (ck != 0) = true := by rw [bne_iff_ne]; exact h0
    clear HL HC HT hf hck h0
    go_enter Tryz.func11, Tryz.ntmps11
    go_wp2_with fail
    refine (HFI.out).mono ?_
    rintro e w1 ⟨rfl, hx⟩
    have B1 := Lib.hid (hx)
    clear hx
    go_wp2_with fail
    refine (HCA.out _ B1.out).mono ?_
    rintro e w2 ⟨rfl, hx⟩
    have B2 := Lib.hid (below_next B1.out hx ⟨rfl, rfl, rfl, rfl⟩)
    clear hx
    go_wp2_with fail
    refine (HW.out _ B2.out).mono ?_
    rintro e w3 ⟨rfl, hx⟩
    have B3 := Lib.hid (below_next B2.out hx ⟨rfl, rfl, rfl, rfl⟩)
    clear hx
    go_wp2_with fail
    exact HP.out _ B3.out
  subst h0
  obtain ⟨hg, hok⟩ := fine_parts hf
  have hres := great_res HL.out.1 HL.out.2 hg
  have hcur := trial_cur hok (fun x => decide (x ≤ 84005)) cu
  have hsl := hok.list fun x => decide (x ≤ 84005)
  obtain ⟨sS, lS⟩ := fit_nrm hg hok fun x => decide (x ≤ 84005)
  have KT := Lib.hid (fun W (h : Below w.heap.size w W) => trial_max A n c ps W hg hok (hres.below h) (HT.out.1.below h) (HT.out.2.below h))
  generalize nrmL (flat (ps.map Prod.snd) fun x => decide (x ≤ 84005)) = l at *
  have hs : ∀ x ∈ l, Sml x ∧ x.2.2.length ≤ 60 := fun x hx => ⟨(sS x hx).1, by have := (sS x hx).2; omega⟩
  have KK := Lib.hid (fun A1 d1 W (h : Below w.heap.size w W) (r1 : rowB.Rds W A1 l.length d1 l) => Kinds_any A1 C l.length d1 q r l ch cu W r1 (HC.out.1.below h) hs (by omega) HC.out.2 (HT.out.1.below h) (HT.out.2.below h))
  have K3 := Lib.hid (fun (code : List UInt8) W (h : Below w.heap.size w W) => Find_any C q r ch code W (HC.out.1.below h) (fun a ha => by have := HC.out.2 a ha; omega))
  have KA := Lib.hid (fun (a b : List UInt8) W (h : Below w.heap.size w W) (ha : a.length ≤ 120) (hb : b.length ≤ 120) => (show Calls Tryz.prog 21 #[.string ⟨a.toArray⟩, .string ⟨b.toArray⟩] W (StrPost (txt (val a + val b)) W) from Add_any ⟨a.toArray⟩ ⟨b.toArray⟩ W (by show a.toArray.size ≤ 120; rw [List.size_toArray]; exact ha) (by show b.toArray.size ≤ 120; rw [List.size_toArray]; exact hb) (HT.out.1.below h)))
  have HBD := Lib.hid (show ∀ k, ∀ v ∈ wantF ch cu (l.take k) zero5, v.natAbs < 10 ^ 70 from fun k v hv => by
    have h1 := want_bd (M := big60) ch cu (l := l.take k) (fun x hx => by
      have h1 := val_bd x.2.2
      have h2 : 10 ^ x.2.2.length ≤ big60 := Nat.pow_le_pow_right (by omega) (hs x (List.mem_of_mem_take hx)).2
      omega) v hv
    have h2 : (l.take k).length * big60 ≤ 4000 * big60 := Nat.mul_le_mul_right _ (by rw [List.length_take]; omega)
    have h3 : 4000 * big60 < 10 ^ 70 := by decide
    omega)
  have HS := Lib.hid (show ∀ x ∈ l, x.2.2.length ≤ 60 from fun x hx => (hs x hx).2)
  have HRG := Lib.hid (fun c (h : (findL ch c).2 = true) => find_rng hck h)
  have HZERO := Lib.hid (fun (h : knownB ch l = true) => want_zero hck cu h hcur)
  have HNO := Lib.hid (fun (h : knownB ch l = false) => knI_none (cu := cu) hsl hck h)
  have HYES := Lib.hid (fun (h : knownB ch l = true) => knI_ok (cu := cu) hsl hck h)
  obtain ⟨n1, ll⟩ : ∃ n1, l.length = n1 := ⟨_, rfl⟩
  have LL := Lib.hid ll
  have KKL := Lib.hid (knL_len ch cu l)
  clear hg hok hres hcur hsl sS hs hf HL HC HT hck hq
  generalize knI ch cu l = ki at *
  generalize knL ch cu l = KL at *
  obtain ⟨kl, hkl⟩ : ∃ kl, KL.length = kl := ⟨_, rfl⟩
  have HKL := Lib.hid hkl
  rw [hkl] at KKL
  rw [ll] at lS KK
  clear ll hkl
  go_enter Tryz.func11, Tryz.ntmps11
  go_wp2_with fail
  refine (HFI.out).mono ?_
  rintro e w1 ⟨rfl, hx⟩
  have B1 := Lib.hid (hx)
  clear hx
  go_wp2_with fail
  refine (HCA.out _ B1.out).mono ?_
  rintro e w2 ⟨rfl, hx⟩
  have B2 := Lib.hid (below_next B1.out hx ⟨rfl, rfl, rfl, rfl⟩)
  clear hx
  go_wp2_with fail
  clear HFI HCA
  refine (KT.out _ B2.out).mono ?_
  intro e w3 hx
  obtain ⟨A3, c3, rfl, hr3, hb⟩ := listc_rds hx
  rw [LL.out] at hr3 ⊢
  have R3 := Lib.hid hr3
  have B3 := Lib.hid (below_next B2.out hb ⟨rfl, rfl, rfl, rfl⟩)
  clear hx hr3 hb KT B2
  go_wp2_with fail
  refine (KK.out _ _ _ B3.out R3.out).mono ?_
  intro e w4 hx
  obtain ⟨A4, c4, rfl, hr4, hb⟩ := kndc_rds hx
  rw [HKL.out] at hr4 ⊢
  have R4 := Lib.hid hr4
  have R3' := Lib.hid (R3.out.below hb)
  have B4 := Lib.hid (below_next B3.out hb ⟨rfl, rfl, rfl, rfl⟩)
  clear hx hr4 hb KK B3 R3
  have A0 := Lib.hid (Arr.zero w4)
  have L0 := Lib.hid ((Below.refl w4.heap.size w4).alloc (Nat.le_refl _) (.cells #[.string ⟨#[]⟩, .string ⟨#[]⟩, .string ⟨#[]⟩, .string ⟨#[]⟩, .string ⟨#[]⟩] 75))
  obtain ⟨g, hgg⟩ : ∃ g, w4.heap.size = g := ⟨_, rfl⟩
  have HG := Lib.hid hgg
  go_wp2_with fail
  rw [hgg] at A0
  try rw [hgg]
  clear hgg
  generalize w4.alloc (.cells #[.string ⟨#[]⟩, .string ⟨#[]⟩, .string ⟨#[]⟩, .string ⟨#[]⟩, .string ⟨#[]⟩] 75) = w5 at *
  go_loopw [12, 50] (fun kn i wr => ∃ k : Nat, k ≤ n1 ∧ i = .int .i64 (k : Int) ∧ kn = .bool (knownB ch (l.take k)) ∧ Hid (Arr wr g ((wantF ch cu (l.take k) zero5).map txt)) ∧ Hid (Below w4.heap.size w4 wr)) (fun _ i _ => n1 - (intOf i).toNat)
  case atStart => exact ⟨0, by omega, rfl, by rw [List.take_zero]; rfl, A0, L0⟩
  case round =>
    clear A0 L0
    obtain ⟨k, hk, rfl, rfl, HO, HB⟩ := hrel
    by_cases hlt : k < n1
    · have hkl : k < l.length := by rw [LL.out]; exact hlt
      obtain ⟨b1, o1, rfl, hb1, _⟩ := R3'.out.at_ (by omega)
      have p0 := (R3'.out.below HB.out).cell rowB_ok ln0 k 0 _ hlt rfl
      have p1 := (R3'.out.below HB.out).cell rowB_ok ln0 k 1 _ hlt rfl
      have p2 := (R3'.out.below HB.out).cell rowB_ok ln0 k 2 _ hlt rfl
      have hki : (k : Int) < (n1 : Int) := by omega
      have HSk := Lib.hid (HS.out _ (lnAt_mem l k hkl))
      have HWK := Lib.hid (wantF_known ch cu l k hkl)
      have HWU := Lib.hid (wantF_unk ch cu l k hkl)
      have HRk := Lib.hid (HRG.out (l.getD k ln0).1)
      have HBk := Lib.hid (HBD.out k)
      have HWL := Lib.hid (wantF_len ch cu (l.take k) zero5)
      have HKS := Lib.hid (show knownB ch (l.take (k + 1)) = (knownB ch (l.take k) && (findL ch (l.getD k ln0).1).2) by rw [take_gen ln0 l k hkl, known_snoc])
      clear hkl
      generalize l.getD k ln0 = y at *
      obtain ⟨ya, yc, ym⟩ := y
      simp only [Nat.add_zero] at p0 p1 p2 HRk HWU HKS HWK HSk
      have HF := Lib.hid (K3.out ya)
      generalize findL ch ya = fa at *
      obtain ⟨⟨ac, ak⟩, fb⟩ := fa
      simp only at HRk HKS HWK HWU HF
      generalize knownB ch (l.take k) = kb at *
      have hBa := (Below.refl wr.heap.size wr).alloc (Nat.le_refl _) (.cells #[.string ⟨ya.toArray⟩, .string ⟨yc.toArray⟩, .string ⟨ym.toArray⟩] 33)
      have HBA := Lib.hid (below_ah HB.out hBa)
      have HOA := Lib.hid (HO.out.below hBa)
      obtain ⟨⟨hx0', hx1, hx2⟩, _⟩ := cells3 (heap_alloc_new wr (.cells #[.string ⟨ya.toArray⟩, .string ⟨yc.toArray⟩, .string ⟨ym.toArray⟩] 33))
      have hlx := block_lt_of_cell hx0'
      clear hBa HB HO
      cases fb
      case false =>
        have HK2 := Lib.hid (show knownB ch (l.take (k + 1)) = false by rw [HKS.out, Bool.and_false])
        have HE := Lib.hid (HWU.out rfl)
        clear HRk HKS HWK HWU HBk HWL HSk
        go_wp2_with fail
        generalize wr.alloc (.cells #[.string ⟨ya.toArray⟩, .string ⟨yc.toArray⟩, .string ⟨ym.toArray⟩] 33) = wa at *
        generalize wr.heap.size = bx at *
        refine (HF.out _ (below_ah B4.out HBA.out)).mono ?_
        rintro e w6 ⟨rfl, hb⟩
        have HB6 := Lib.hid (below_next HBA.out hb ⟨rfl, rfl, rfl, rfl⟩)
        have HO6 := Lib.hid (HOA.out.below hb)
        have hBy := (Below.refl w6.heap.size w6).alloc (Nat.le_refl _) (.cells #[.string ⟨ac.toArray⟩, .int .i64 ak] 77)
        have HBB := Lib.hid (below_ah HB6.out hBy)
        have HOB := Lib.hid (HO6.out.below hBy)
        have hy1 : (w6.alloc (.cells #[.string ⟨ac.toArray⟩, .int .i64 ak] 77)).cell? ⟨w6.heap.size, 1, none⟩ = some (.int .i64 ak) := by rw [cell_of_row _ _ _ _ _ _ (heap_alloc_new w6 _)]; rfl
        have hbx := hb.size
        have x1 := ((hb.alloc hb.size (.cells #[.string ⟨ac.toArray⟩, .int .i64 ak] 77)).cell (p := ⟨bx, 1, none⟩) hlx).trans hx1
        have x2 := ((hb.alloc hb.size (.cells #[.string ⟨ac.toArray⟩, .int .i64 ak] 77)).cell (p := ⟨bx, 2, none⟩) hlx).trans hx2
        clear hb hBy HB6 HO6 hx0' hx1 hx2 p0 p1 p2
        go_wp2_with fail
        exact ⟨⟨k + 1, by omega, by go_num, by rw [HK2.out], Lib.hid (by rw [HE.out]; exact HOB.out), HBB⟩, by simp [intOf]; omega⟩
      case true =>
      have hrg := HRk.out rfl
      have HK2 := Lib.hid (show knownB ch (l.take (k + 1)) = kb by rw [HKS.out, Bool.and_true])
      have HW2 := Lib.hid (HWK.out rfl)
      have hk1 : decide (ak < 1) = false := decide_eq_false (by omega)
      have hk5 : decide (5 < ak) = false := decide_eq_false (by omega)
      clear HRk HKS HWK HWU
      by_cases hcu : yc = cu
      case neg =>
        have e2 : (yc == cu) = false := beq_eq_false_iff_ne.2 hcu
        have HE := Lib.hid (show wantF ch cu (l.take (k + 1)) zero5 = wantF ch cu (l.take k) zero5 by rw [HW2.out, if_neg hcu])
        clear HBk HWL HSk HW2 hcu hrg
        go_wp2_with fail
        generalize wr.alloc (.cells #[.string ⟨ya.toArray⟩, .string ⟨yc.toArray⟩, .string ⟨ym.toArray⟩] 33) = wa at *
        generalize wr.heap.size = bx at *
        refine (HF.out _ (below_ah B4.out HBA.out)).mono ?_
        rintro e w6 ⟨rfl, hb⟩
        have HB6 := Lib.hid (below_next HBA.out hb ⟨rfl, rfl, rfl, rfl⟩)
        have HO6 := Lib.hid (HOA.out.below hb)
        have hBy := (Below.refl w6.heap.size w6).alloc (Nat.le_refl _) (.cells #[.string ⟨ac.toArray⟩, .int .i64 ak] 77)
        have HBB := Lib.hid (below_ah HB6.out hBy)
        have HOB := Lib.hid (HO6.out.below hBy)
        have hy1 : (w6.alloc (.cells #[.string ⟨ac.toArray⟩, .int .i64 ak] 77)).cell? ⟨w6.heap.size, 1, none⟩ = some (.int .i64 ak) := by rw [cell_of_row _ _ _ _ _ _ (heap_alloc_new w6 _)]; rfl
        have hbx := hb.size
        have x1 := ((hb.alloc hb.size (.cells #[.string ⟨ac.toArray⟩, .int .i64 ak] 77)).cell (p := ⟨bx, 1, none⟩) hlx).trans hx1
        have x2 := ((hb.alloc hb.size (.cells #[.string ⟨ac.toArray⟩, .int .i64 ak] 77)).cell (p := ⟨bx, 2, none⟩) hlx).trans hx2
        clear hb hBy HB6 HO6 hx0' hx1 hx2 p0 p1 p2
        go_wp2_with fail
        exact ⟨⟨k + 1, by omega, by go_num, by rw [HK2.out], Lib.hid (by rw [HE.out]; exact HOB.out), HBB⟩, by simp [intOf]; omega⟩
      subst hcu
      obtain ⟨ix, hix, hx5⟩ : ∃ ix : Nat, (ix : Int) = ak - 1 ∧ ix < 5 := ⟨(ak - 1).toNat, by omega, by omega⟩
      have hw : IntKind.i64.wrap (ak - 1) = (ix : Int) := by rw [IntWalk.i64_in _ (by omega)]; omega
      have hxi : (ix : Int) < 5 := by omega
      have hx0 : (0 : Int) ≤ (ix : Int) := by omega
      have HW3 := Lib.hid (show (wantF ch yc (l.take (k + 1)) zero5).map txt = ((wantF ch yc (l.take k) zero5).map txt).set ix (txt (val (((wantF ch yc (l.take k) zero5).map txt).getD ix []) + val ym)) by
        rw [HW2.out, if_pos rfl, map_addAt, show (ak - 1).toNat = ix by omega, getD_txt, val_txt])
      have HSI := Lib.hid (show (((wantF ch yc (l.take k) zero5).map txt).getD ix []) = txt ((wantF ch yc (l.take k) zero5).getD ix 0) ∧ ((wantF ch yc (l.take k) zero5).getD ix 0).natAbs < 10 ^ 70 from ⟨getD_txt _ _, by
        rw [List.getD_eq_getElem?_getD, List.getElem?_eq_getElem (by rw [HWL.out]; exact hx5)]
        exact HBk.out _ (List.getElem_mem _)⟩)
      clear HW2 HBk HWL hix hrg
      generalize (wantF ch yc (l.take k) zero5).map txt = om at *
      have HSL := Lib.hid (show (om.getD ix []).length ≤ 80 by rw [HSI.out.1]; have := txt_bd HSI.out.2; omega)
      clear HSI
      have HAT := Lib.hid (fun W (h : Arr W g om) => h.cell ix hx5)
      generalize om.getD ix [] = si at *
      have HADD := Lib.hid (fun W (h : Below w.heap.size w W) => KA.out si ym W h (by have := HSL.out; omega) (by have : ym.length ≤ 60 := HSk.out; omega))
      have HNX := Lib.hid (fun W (h : Arr W g om) => h.set ix (txt (val si + val ym)))
      clear HSL HSk
      generalize txt (val si + val ym) = s2 at *
      rw [← HW3.out] at HNX
      clear HW3
      go_wp2_with fail
      generalize wr.alloc (.cells #[.string ⟨ya.toArray⟩, .string ⟨yc.toArray⟩, .string ⟨ym.toArray⟩] 33) = wa at *
      generalize wr.heap.size = bx at *
      refine (HF.out _ (below_ah B4.out HBA.out)).mono ?_
      rintro e w6 ⟨rfl, hb⟩
      have HB6 := Lib.hid (below_next HBA.out hb ⟨rfl, rfl, rfl, rfl⟩)
      have HO6 := Lib.hid (HOA.out.below hb)
      have hBy := (Below.refl w6.heap.size w6).alloc (Nat.le_refl _) (.cells #[.string ⟨ac.toArray⟩, .int .i64 ak] 77)
      have HBB := Lib.hid (below_ah HB6.out hBy)
      have HOB := Lib.hid (HO6.out.below hBy)
      have hy1 : (w6.alloc (.cells #[.string ⟨ac.toArray⟩, .int .i64 ak] 77)).cell? ⟨w6.heap.size, 1, none⟩ = some (.int .i64 ak) := by rw [cell_of_row _ _ _ _ _ _ (heap_alloc_new w6 _)]; rfl
      have hbx := hb.size
      have x1 := ((hb.alloc hb.size (.cells #[.string ⟨ac.toArray⟩, .int .i64 ak] 77)).cell (p := ⟨bx, 1, none⟩) hlx).trans hx1
      have x2 := ((hb.alloc hb.size (.cells #[.string ⟨ac.toArray⟩, .int .i64 ak] 77)).cell (p := ⟨bx, 2, none⟩) hlx).trans hx2
      clear hb hBy HB6 HO6 hx0' hx1 hx2 p0 p1 p2
      obtain ⟨lo, fo⟩ := HAT.out _ HOB.out
      have hgs := HOB.out.lt
      have hby : w6.heap.size < (w6.alloc (.cells #[.string ⟨ac.toArray⟩, .int .i64 ak] 77)).heap.size := by simp
      have hbxx : bx < (w6.alloc (.cells #[.string ⟨ac.toArray⟩, .int .i64 ak] 77)).heap.size := by simp; omega
      have HBW := Lib.hid (below_ah B4.out HBB.out)
      clear HF HP HBA HOA
      go_upto_region 16 with fail
      generalize w6.alloc (.cells #[.string ⟨ac.toArray⟩, .int .i64 ak] 77) = wb at *
      generalize w6.heap.size = by_ at *
      have HBc := Lib.hid (Below.refl wb.heap.size wb)
      go_region_with (first
        | (go_at_call 21; refine (HADD.out _ ?_).mono ?_
           · refine below_ahk HBW.out ?_
             repeat (first | exact HBc.out | refine Below.drew ?_ | refine Below.alk ?_ _)
           rintro e w' ⟨rfl, hb⟩
           have HBc := Lib.hid (below_viak (w := wb) hb (by repeat (first | exact HBc.out | refine Below.drew ?_ | refine Below.alk ?_ _)))
           obtain ⟨lo, fo⟩ := HAT.out _ (HOB.out.below HBc.out)
           have hy1 := (HBc.out.cell (p := ⟨by_, 1, none⟩) hby).trans hy1
           have x2 := (HBc.out.cell (p := ⟨bx, 2, none⟩) hbxx).trans x2
           clear hb))
      all_goals
        go_wp2_with fail
        exact ⟨⟨k + 1, by omega, by go_num, by rw [HK2.out], Lib.hid (HNX.out _ (HOB.out.below HBc.out)), Lib.hid (below_grown (below_ah HBB.out HBc.out) (Nat.le_refl _) (grown_setCell _ _ _) (by have := HG.out; show w4.heap.size ≤ g; omega))⟩, by simp [intOf]; omega⟩
    · have hkn : k = n1 := by omega
      subst hkn
      have hki : ¬ (k : Int) < (k : Int) := by omega
      have e : l.take k = l := List.take_of_length_le (by rw [LL.out]; exact Nat.le_refl _)
      rw [e] at HO ⊢
      have BW := Lib.hid (below_ah B4.out HB.out)
      have R5 := Lib.hid (R4.out.below HB.out)
      clear HRG HS e R3' R4 HB K3
      cases hkb : knownB ch l
      case false =>
        obtain ⟨e1, e2⟩ := HNO.out hkb
        subst e1
        have e3 : kl = 0 := by rw [← HKL.out, e2]; rfl
        subst e3
        clear HNO HYES HZERO HBD hkb e2 HO R5
        go_wp2_with fail
        refine (HW.out _ BW.out).mono ?_
        rintro e w6 ⟨rfl, hx⟩
        have B6 := Lib.hid (below_next BW.out hx ⟨rfl, rfl, rfl, rfl⟩)
        clear hx
        go_wp2_with fail
        exact HP.out _ B6.out
      case true =>
        obtain ⟨e1, e2⟩ := HYES.out hkb
        have hz := HZERO.out hkb
        have hbd := HBD.out l.length
        rw [List.take_of_length_le (Nat.le_refl _)] at hbd
        have hwl : (wantF ch cu l zero5).length = 5 := wantF_len ch cu l zero5
        subst e1
        have e3 : kl = 5 := by rw [← HKL.out, e2, List.length_map]; exact hwl
        subst e3
        rw [e2] at R5
        clear HNO HYES HZERO HBD HKL e2
        generalize wantF ch cu l zero5 = vs at *
        have HSB := Lib.hid (show ∀ j, (txt (vs.take j).sum).length ≤ 80 from fun j => by
          have h1 := sum_bd (M := 10 ^ 70) (vs.take j) fun v hv => by have := hbd v (List.mem_of_mem_take hv); omega
          have h2 : (vs.take j).length * 10 ^ 70 ≤ 5 * 10 ^ 70 := Nat.mul_le_mul_right _ (by rw [List.length_take]; omega)
          have h3 : 5 * 10 ^ 70 < 10 ^ 71 := by decide
          have := txt_bd (v := (vs.take j).sum) (k := 71) (by omega)
          omega)
        have HVB := Lib.hid (show ∀ j, (txt (vs.getD j 0)).length ≤ 80 from fun j => by
          rcases Nat.lt_or_ge j vs.length with hj | hj
          · rw [List.getD_eq_getElem?_getD, List.getElem?_eq_getElem hj]
            have := txt_bd (hbd _ (List.getElem_mem hj))
            show (txt vs[j]).length ≤ 80
            omega
          · rw [List.getD_eq_getElem?_getD, List.getElem?_eq_none hj]
            show (txt 0).length ≤ 80
            rw [txt_zero]; simp)
        have HST := Lib.hid (fun j (h : j < 5) => sum_take vs j (by rw [hwl]; exact h))
        have HSZ := Lib.hid (show txt (vs.take 5).sum = [] by rw [List.take_of_length_le (by rw [hwl]; exact Nat.le_refl _), hz, txt_zero])
        have AR := Lib.hid HO.out.rds
        have HE44 := Lib.hid (fun W (h : Below wr.heap.size wr W) => (show Calls Tryz.prog 44 #[.slice A4 5 c4, .slice (some ⟨g, 0, none⟩) 5 5] W (fun e w' => e = .returned (.bool true) ∧ Below W.heap.size W w') by
          have h44 := Eq44_any A4 (some ⟨g, 0, none⟩) 5 c4 5 5 (vs.map txt) (vs.map txt) W (R5.out.below h) (AR.out.below h) (by omega) (by omega)
          rw [decide_eq_true rfl] at h44; exact h44))
        clear hz hbd hkb AR HO
        have L1 := Lib.hid (Below.refl wr.heap.size wr)
        go_wp2_with fail
        generalize wr = ws at *
        go_loopw [17, 104] (fun s i wr => ∃ j : Nat, j ≤ 5 ∧ i = .int .i64 (j : Int) ∧ s = .string ⟨(txt (vs.take j).sum).toArray⟩ ∧ Hid (Below ws.heap.size ws wr)) (fun _ i _ => 5 - (intOf i).toNat)
        case atStart => exact ⟨0, by omega, rfl, by rw [List.take_zero]; show _ = Value.string ⟨(txt 0).toArray⟩; rw [txt_zero], L1⟩
        case round =>
          clear L1
          obtain ⟨j, hj, rfl, rfl, HB⟩ := hrel
          by_cases hlt : j < 5
          · have hji : (j : Int) < 5 := by omega
            obtain ⟨b1, o1, rfl, hb1, _⟩ := R5.out.at_ (by omega)
            have p0 := (R5.out.below HB.out).cell rowI_ok ([] : List UInt8) j 0 _ hlt rfl
            rw [getD_txt] at p0
            simp only [Nat.add_zero, Nat.mul_one] at p0
            have HAD := Lib.hid (KA.out (txt (vs.take j).sum) (txt (vs.getD j 0)) wr (below_ah BW.out HB.out) (by have := HSB.out j; omega) (by have := HVB.out j; omega))
            rw [val_txt, val_txt, ← HST.out j hlt] at HAD
            generalize txt (vs.take j).sum = s1 at *
            obtain ⟨s2, hs2⟩ : ∃ s2, txt (vs.take (j + 1)).sum = s2 := ⟨_, rfl⟩
            have HS2 := Lib.hid hs2
            rw [hs2] at HAD
            clear hs2
            generalize txt (vs.getD j 0) = s3 at *
            go_wp2_with fail
            refine HAD.out.mono ?_
            rintro e w6 ⟨rfl, hx⟩
            have HB6 := Lib.hid (below_next HB.out hx ⟨rfl, rfl, rfl, rfl⟩)
            clear hx HAD
            go_wp2_with fail
            exact ⟨⟨j + 1, by omega, by go_num, by rw [HS2.out], HB6⟩, by simp [intOf]; omega⟩
          · have hj5 : j = 5 := by omega
            subst hj5
            rw [HSZ.out]
            go_wp2_with fail
            refine (HE44.out _ HB.out).mono ?_
            rintro e w6 ⟨rfl, hx⟩
            have B6 := Lib.hid (below_next (below_ah BW.out HB.out) hx ⟨rfl, rfl, rfl, rfl⟩)
            clear hx
            go_wp2_with fail
            refine (HW.out _ B6.out).mono ?_
            rintro e w7 ⟨rfl, hx⟩
            have B7 := Lib.hid (below_next B6.out hx ⟨rfl, rfl, rfl, rfl⟩)
            clear hx
            go_wp2_with fail
            exact HP.out _ B7.out
theorem kinds_row (A : Option Addr) (n c : Nat) (ps : List RE) (C : Option Addr) (q r : Nat) (ch : List Acc) (cu : ByteArray) (w : World) (hl : rowE.Rds w A n c ps) (hr : ∀ p ∈ ps, RdG w p ∧ p.2.2.1.length ≤ maxLen) (hc : Accs w C q r ch) (hcl : ∀ a ∈ ch, a.1.length < 4294967281) (ht : Tab w) (hm : ML w) :
    Calls Tryz.prog 11 #[.slice A n c, .slice C q r, .string cu] w (BoolPost true w) := by
  obtain ⟨cu⟩ := cu
  obtain ⟨cu⟩ := cu
  exact kinds_in A n c ps C q r ch cu w hl (fun p hp => (hr p hp).1) hc hcl ht hm
end Go.Proofs.YtohdpidlilhnjaaGreatDoor
