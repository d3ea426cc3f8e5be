/- LedgerRollup: the walk. -/
import Derived.Test.YtohdpidlilhnjaaGreatDoorQ12
import Derived.Test.YtohdpidlilhnjaaGreatDoorQ13
import Derived.Test.YtohdpidlilhnjaaGreatDoorQ15
namespace Go.Proofs.YtohdpidlilhnjaaGreatDoor
open Go.RowKit Go.Maps Num

theorem tot_e (E : Nat) (l : List Ln) (h : ∀ x ∈ l, (val x.2.2).natAbs ≤ E) (k : Ky) : (tot l k).natAbs ≤ l.length * E := by
  induction l with
  | nil => simp [tot_nil]
  | cons x r ih =>
    have h1 := ih fun y hy => h y (by simp [hy])
    have h2 := h x (by simp)
    rw [tot_cons, List.length_cons, Nat.add_mul]
    split <;> omega
theorem rollN_sm {T : List Ln} (hT : listB T = true) (hs : ∀ x ∈ T, Sml x ∧ x.2.2.length ≤ 20) (hl : T.length ≤ 640) : (∀ z ∈ rollN T, Sml z) ∧ (rollN T).length ≤ 3840 := by
  have hr := roll_len (listB_code hT)
  refine ⟨fun z hz => ?_, Nat.le_trans (nrmL_len _) (by omega)⟩
  have hn := rollN_of hT
  obtain ⟨x, hx, e⟩ := nrm_key hn hz
  have h1 := ((hn.mem z).1 hz).1
  have h2 := tot_e (10 ^ 20) (roll T) (fun y hy => by
    obtain ⟨u, hu, a, _, rfl⟩ := roll_mem hy
    exact Nat.le_of_lt (Nat.lt_of_lt_of_le (val_bd _) (Nat.pow_le_pow_right (by omega) (hs u hu).2))) (key z)
  have h3 : (roll T).length * 10 ^ 20 ≤ 3840 * 10 ^ 20 := Nat.mul_le_mul_right _ (by omega)
  have h4 : 3840 * 10 ^ 20 < 10 ^ 24 := by decide
  have h5 := txt_bd (k := 24) (show (tot (roll T) (key z)).natAbs < 10 ^ 24 by omega)
  have h6 : z.2.2.length ≤ 100 := by rw [h1]; omega
  simp only [key, Prod.mk.injEq] at e
  obtain ⟨s1, s2, _⟩ := roll_sml (fun y hy => (hs y hy).1) x hx
  exact ⟨by rw [← e.1]; exact s1, by rw [← e.2]; exact s2, h6⟩
theorem undT_bd (l : List Ln) (h : ∀ x ∈ l, Sml x) (c cu : List UInt8) : (undT l c cu).natAbs ≤ l.length * big := by
  induction l with
  | nil => simp [undT]
  | cons x r ih =>
    have h1 := ih fun y hy => h y (by simp [hy])
    have h2 := sml_bd (h x (by simp))
    rw [undT_cons, List.length_cons, Nat.add_mul]
    split <;> omega
def topB (b : Ln) : Bool := topQ (key b)
theorem tops_snoc (S : List Ln) (k : Nat) (h : k < S.length) : (S.take (k + 1)).filter topB = (S.take k).filter topB ++ if parB (S.getD k ln0).1 = true then [] else [S.getD k ln0] := by
  rw [take_ln S k h, List.filter_append]
  congr 1
  cases hp : parB (S.getD k ln0).1
  · rw [if_neg (by decide), List.filter_cons_of_pos (by unfold topB topQ; show (!parB (S.getD k ln0).1) = true; rw [hp]; rfl), List.filter_nil]
  · rw [if_pos rfl, List.filter_cons_of_neg (by unfold topB topQ; show ¬ (!parB (S.getD k ln0).1) = true; rw [hp]; decide), List.filter_nil]
/-- what the two loops need of the trial balance T and its sums S -/
structure RolC (w : World) (T S : List Ln) : Prop where
  add : ∀ (s m : List UInt8) (W : World), s.length ≤ 110 → m.length ≤ 100 → Below w.heap.size w W → Calls Tryz.prog 21 #[.string ⟨s.toArray⟩, .string ⟨m.toArray⟩] W fun e w' => e = .returned (.string ⟨(txt (val s + val m)).toArray⟩) ∧ Below W.heap.size W w'
  par : ∀ (s : List UInt8) (W : World), s.length ≤ 1000 → Below w.heap.size w W → Calls Tryz.prog 23 #[.string ⟨s.toArray⟩] W (RetSB (parS s) (parB s) W)
  amt : ∀ b ∈ S, txt (undT T b.1 b.2.1) = b.2.2
  bd : ∀ k c cu, (txt (undT (T.take k) c cu)).length ≤ 110
  tot : ∀ (cu : List UInt8) (A1 : Option Addr) (c1 : Nat) (W : World), Below w.heap.size w W → rowB.Rds W A1 (S.filter topB).length c1 (S.filter topB) → Calls Tryz.prog 17 #[.slice A1 (S.filter topB).length c1, .string ⟨cu.toArray⟩] W fun e w' => e = .returned (.string ⟨#[]⟩) ∧ Below W.heap.size W w'
  alone : ∀ b ∈ T, (T.any fun x => decide (x.1 ≠ b.1) && undB x.1 b.1) = false → (S.any fun x => decide (x = b)) = true
  small : (∀ x ∈ T, Sml x) ∧ T.length ≤ 640 ∧ (∀ z ∈ S, Sml z) ∧ S.length ≤ 3840
theorem rolC {w : World} {T : List Ln} (hT : listB T = true) (hs : ∀ x ∈ T, Sml x ∧ x.2.2.length ≤ 20) (hl : T.length ≤ 640) (hc : ∀ cu, curT T cu = 0) (ht : Tab w) (hm : ML w) : RolC w T (rollN T) := by
  obtain ⟨z1, z2⟩ := rollN_sm hT hs hl
  refine ⟨fun s m W h1 h2 hb => ?_, fun s W h hb => Parent_any s W (by omega) (hm.below hb), fun b hb => rollN_amt hT hb, fun k c cu => ?_, fun cu A1 c1 W hb r => ?_, fun b hb h => ?_, fun x hx => (hs x hx).1, hl, z1, z2⟩
  · exact Add_any ⟨s.toArray⟩ ⟨m.toArray⟩ W (by show s.toArray.size ≤ 120; rw [List.size_toArray]; omega) (by show m.toArray.size ≤ 120; rw [List.size_toArray]; omega) (ht.below hb)
  · refine bd_txt4 (undT_bd (T.take k) (take_sml (fun x hx => (hs x hx).1) k) c cu) ?_
    rw [List.length_take]; omega
  · have h := total_any A1 _ c1 _ cu W r (fun x hx => z1 x (List.mem_filter.1 hx).1) (by have := List.length_filter_le topB (rollN T); omega) (ht.below hb)
    have e : curT ((rollN T).filter topB) cu = 0 := (tops_cur hT cu).trans (hc cu)
    rw [e, txt_zero] at h
    exact h
  · refine List.any_eq_true.2 ⟨b, alone_mem hT hb fun x hx hu => ?_, decide_eq_true rfl⟩
    by_cases hne : x.1 = b.1
    · exact hne
    · have := List.any_eq_false.1 h x hx
      rw [decide_eq_true hne, hu] at this
      exact absurd rfl this
set_option maxRecDepth 100000 in
set_option maxHeartbeats 16000000 in
theorem rollup_in (A : Option Addr) (n c : Nat) (ps : List RE) (w : World) (hl : rowE.Rds w A n c ps) (hr : ∀ p ∈ ps, RdG w p) (ht : Tab w) (hm : ML w)
    (hf : fineB ps = true) : Calls Tryz.prog 5 #[.slice A n c] w (BoolPost true w) := by
  obtain ⟨hg, hok⟩ := fine_parts hf
  have hres := great_res hl hr hg
  have hn : n ≤ 20 := by rw [← hl.len]; have := (great_parts hg).1; omega
  have HF := Lib.hid (fine_any A n c ps w hl hr ht hm)
  rw [hf] at HF
  unfold BoolPost at HF
  have HP := Lib.hid (fun W (h : Below w.heap.size w W) => (show BoolPost true w (.returned (.bool true)) W from ⟨rfl, h⟩))
  have HW := Lib.hid (fun W (h : Below w.heap.size w W) => awake_any W (ht.below h) (hm.below h))
  unfold BoolPost at HW
  obtain ⟨ta, ia⟩ := tr_ok hok (by decide : (-25567 : Int) ≤ 84005) (by decide : (84005 : Int) ≤ 84005)
  have T1 := fun W (h : Below w.heap.size w W) => Trial_any A n c ps 84005 W (hres.below h) (fit_z hg) hn (ht.below h) (hm.below h)
  rw [ta, ia] at T1
  obtain ⟨s1, z1⟩ := fit_nrm hg hok (fun x => decide (x ≤ 84005))
  have hla := hok.list (fun x => decide (x ≤ 84005))
  have hcur := trial_cur hok (fun x => decide (x ≤ 84005))
  generalize nrmL (flat (ps.map Prod.snd) fun x => decide (x ≤ 84005)) = T at *
  have HZ := Lib.hid (rolC hla s1 z1 hcur ht hm)
  have HRO := Lib.hid (fun (A1 : Option Addr) (c1 : Nat) (W : World) (h : Below w.heap.size w W) (r : rowB.Rds W A1 T.length c1 T) => (show Calls Tryz.prog 22 #[.slice A1 T.length c1] W (ListC (rollN T) 0 W) by
    have h := Rollup_any A1 _ c1 T W r (fun x hx => (s1 x hx).1) (by omega) (ht.below h) (hm.below h)
    unfold rolL rolI at h
    rw [if_pos hla, if_pos hla] at h
    exact h))
  have HCK := Lib.hid (fun (A1 : Option Addr) (c1 : Nat) (W : World) (r : rowB.Rds W A1 (rollN T).length c1 (rollN T)) => (show Calls Tryz.prog 15 #[.slice A1 (rollN T).length c1] W fun e w' => e = .returned (.bool true) ∧ Below W.heap.size W w' by
    have h := rCheckB_any A1 _ c1 (rollN T) W r (fun x hx => sml_5 (HZ.out.small.2.2.1 x hx)) (by have := HZ.out.small.2.2.2; omega)
    rw [rollN_list hla] at h; exact h))
  have HT1 := Lib.hid T1
  generalize rollN T = S at *
  clear T1 ta ia s1 z1 hla hcur hl hr ht hm hg hok hres hf
  generalize BoolPost true w = Post at *
  go_enter Tryz.func5, Tryz.ntmps5
  go_wp2_with fail
  refine HF.out.mono ?_
  rintro e w3 ⟨rfl, hb⟩
  have B3 := Lib.hid hb
  clear hb HF
  go_wp2_with fail
  refine (HT1.out _ B3.out).mono ?_
  intro e w4 hq
  obtain ⟨A1, c1, rfl, hr, hb⟩ := listc_rds hq
  have R4 := Lib.hid hr
  have B4 := Lib.hid (below_next B3.out hb ⟨rfl, rfl, rfl, rfl⟩)
  clear hq hr hb HT1 B3
  go_wp2_with fail
  refine (HRO.out _ _ _ B4.out R4.out).mono ?_
  intro e w5 hq
  obtain ⟨A2, c2, rfl, hr, hb⟩ := listc_rds hq
  have S5 := Lib.hid hr
  have R5 := Lib.hid (R4.out.below hb)
  have B5 := Lib.hid (below_next B4.out hb ⟨rfl, rfl, rfl, rfl⟩)
  clear hq hr hb HRO B4 R4
  go_wp2_with fail
  refine (HCK.out _ _ _ S5.out).mono ?_
  rintro e w6 ⟨rfl, hb⟩
  have S6 := Lib.hid (S5.out.below hb)
  have R6 := Lib.hid (R5.out.below hb)
  have B6 := Lib.hid (below_next B5.out hb ⟨rfl, rfl, rfl, rfl⟩)
  clear hb HCK B5 R5 S5
  obtain ⟨p, hp⟩ : ∃ q, T.length = q := ⟨_, rfl⟩
  obtain ⟨q, hq⟩ : ∃ q, S.length = q := ⟨_, rfl⟩
  have HPL := Lib.hid hp
  have HQL := Lib.hid hq
  have hp6 : p ≤ 640 := by rw [← hp]; exact HZ.out.small.2.1
  have hq6 : q ≤ 3840 := by rw [← hq]; exact HZ.out.small.2.2.2
  rw [hp] at R6
  rw [hq] at S6
  rw [hp, hq]
  clear hp hq
  have O0 := Lib.hid (show rowB.Own w6.heap.size w6 (.slice none 0 0) ((S.take 0).filter topB) from by rw [List.take_zero]; exact Row.Own.nil _ _)
  have L0 := Lib.hid (Below.refl w6.heap.size w6)
  go_wp2_with fail
  go_loopw [7, 45] (fun v i wr => ∃ k : Nat, k ≤ q ∧ i = .int .i64 (k : Int) ∧ Hid (rowB.Own w6.heap.size wr v ((S.take k).filter topB)) ∧ Hid (Below w6.heap.size w6 wr)) (fun _ i _ => q - (intOf i).toNat)
  case atStart => exact ⟨0, by omega, rfl, O0, L0⟩
  case round =>
    clear O0 L0
    obtain ⟨k, hk, rfl, HO, HB⟩ := hrel
    by_cases hlt : k < q
    · have hkl : k < S.length := by rw [HQL.out]; exact hlt
      have HAM := Lib.hid (HZ.out.amt _ (lnAt_mem S k hkl))
      have HSK := Lib.hid (HZ.out.small.2.2.1 _ (lnAt_mem S k hkl))
      have HTS := Lib.hid (tops_snoc S k hkl)
      obtain ⟨b1, o1, rfl, hb1, _⟩ := S6.out.at_ (by omega)
      have p0 := (S6.out.below HB.out).cell rowB_ok ln0 k 0 _ hlt rfl
      have p1 := (S6.out.below HB.out).cell rowB_ok ln0 k 1 _ hlt rfl
      have p2 := (S6.out.below HB.out).cell rowB_ok ln0 k 2 _ hlt rfl
      have hki : (k : Int) < (q : Int) := by omega
      clear hkl
      generalize S.getD k ln0 = x at *
      obtain ⟨a, cu, m⟩ := x
      simp only [Nat.add_zero] at p0 p1 p2
      have HB2 := Lib.hid (HB.out.alloc HB.out.size (.cells #[.string ⟨a.toArray⟩, .string ⟨cu.toArray⟩, .string ⟨m.toArray⟩] 33))
      have XR := Lib.hid (heap_alloc_new wr (.cells #[.string ⟨a.toArray⟩, .string ⟨cu.toArray⟩, .string ⟨m.toArray⟩] 33))
      have HO2 := Lib.hid (HO.out.below ((Below.refl _ wr).alloc (Nat.le_refl _) (.cells #[.string ⟨a.toArray⟩, .string ⟨cu.toArray⟩, .string ⟨m.toArray⟩] 33)))
      have HOB := Lib.hid (fun g e => (HO.out.own g e).2)
      obtain ⟨x0, x1, x2⟩ := (cells3 XR.out).1
      have lx := block_lt_of_cell x0
      go_wp2_with fail
      generalize wr.alloc (.cells #[.string ⟨a.toArray⟩, .string ⟨cu.toArray⟩, .string ⟨m.toArray⟩] 33) = wb at *
      obtain ⟨bx, hbx⟩ : ∃ bx, wr.heap.size = bx := ⟨_, rfl⟩
      rw [hbx] at XR HOB x0 x1 x2 lx ⊢
      clear hbx HO HB p0 p1 p2
      refine (HZ.out.par a _ HSK.out.1 (below_ah B6.out HB2.out)).mono ?_
      rintro e w7 ⟨rfl, hb⟩
      have HB7 := Lib.hid (below_next HB2.out hb ⟨rfl, rfl, rfl, rfl⟩)
      have XR7 := Lib.hid ((hb.block bx lx).trans XR.out)
      have HO7 := Lib.hid (HO2.out.below hb)
      have lx7 : bx < w7.heap.size := Nat.lt_of_lt_of_le lx hb.size
      clear hb HB2 XR HO2 x0 x1 x2 lx
      cases hpb : parB a
      case true =>
        have HOa := Lib.hid (show rowB.Own w6.heap.size w7 u7 ((S.take (k + 1)).filter topB) by rw [HTS.out, if_pos hpb, List.append_nil]; exact HO7.out)
        have HBa := HB7
        have XRa := XR7
        clear HTS HO7 HB7 XR7 hpb HOB
        go_wp2_with fail
        generalize w7 = wa at *
        have lxa := block_lt_of_cell (cells3 XRa.out).1.1
        have HU0 := Lib.hid (show txt (undT (T.take 0) a cu) = [] by rw [List.take_zero]; show txt 0 = _; exact txt_zero)
        go_wp2_with fail
        go_loopw [63, 12] (fun j v wx => ∃ i : Nat, i ≤ p ∧ j = .int .i64 (i : Int) ∧ v = .string ⟨(txt (undT (T.take i) a cu)).toArray⟩ ∧ Hid (Below wa.heap.size wa wx)) (fun j _ _ => p - (intOf j).toNat)
        case atStart => exact ⟨0, by omega, rfl, by rw [HU0.out], Lib.hid (Below.refl _ _)⟩
        case round =>
          obtain ⟨i, hi, rfl, rfl, HBi⟩ := hrel
          clear HU0
          have g0 := (HBi.out.cell (p := ⟨bx, 0, none⟩) lxa).trans (cells3 XRa.out).1.1
          have g1 := (HBi.out.cell (p := ⟨bx, 1, none⟩) lxa).trans (cells3 XRa.out).1.2.1
          have g2 := (HBi.out.cell (p := ⟨bx, 2, none⟩) lxa).trans (cells3 XRa.out).1.2.2
          by_cases hli : i < p
          · have hil : i < T.length := by rw [HPL.out]; exact hli
            obtain ⟨b2, o2, rfl, hb2, _⟩ := R6.out.at_ (by omega)
            have hRi := R6.out.below (below_ah HBa.out HBi.out)
            have u0 := hRi.cell rowB_ok ln0 i 0 _ hli rfl
            have u1 := hRi.cell rowB_ok ln0 i 1 _ hli rfl
            have u2 := hRi.cell rowB_ok ln0 i 2 _ hli rfl
            have hii : (i : Int) < (p : Int) := by omega
            have HUT := Lib.hid (show undT (T.take (i + 1)) a cu = undT (T.take i) a cu + if (decide ((T.getD i ln0).2.1 = cu) && undB (T.getD i ln0).1 a) then val (T.getD i ln0).2.2 else 0 by rw [take_ln T i hil, undT_snoc])
            have HSM := Lib.hid (HZ.out.small.1 _ (lnAt_mem T i hil))
            have hbd := Lib.hid (HZ.out.bd i a cu)
            clear hRi hil
            generalize T.getD i ln0 = y at *
            obtain ⟨ya, yc, ym⟩ := y
            simp only [Nat.add_zero] at u0 u1 u2
            have lbx : bx < wr.heap.size := block_lt_of_cell g0
            have HB2 := Lib.hid (HBi.out.alloc HBi.out.size (.cells #[.string ⟨ya.toArray⟩, .string ⟨yc.toArray⟩, .string ⟨ym.toArray⟩] 33))
            by_cases hc : yc = cu
            · subst hc
              have HUN := Lib.hid (fun W => Under_any ya a W)
              cases hu : undB ya a
              case true =>
                rw [hu] at HUN
                have HV := Lib.hid (show txt (undT (T.take (i + 1)) a yc) = txt (val (txt (undT (T.take i) a yc)) + val ym) by rw [HUT.out, if_pos (by rw [hu]; simp), val_txt])
                have HAD := Lib.hid (HZ.out.add (txt (undT (T.take i) a yc)) ym _ hbd.out HSM.out.2.2 (below_ah B6.out (below_ah HBa.out HB2.out)))
                clear HUT hbd hu
                generalize txt (undT (T.take i) a yc) = ru at *
                generalize hru2 : txt (val ru + val ym) = ru2 at *
                clear hru2
                go_wp2_with fail
                refine (HUN.out _).mono ?_
                rintro e w8 ⟨rfl, rfl⟩
                go_wp2_with fail
                refine HAD.out.mono ?_
                rintro e w8 ⟨rfl, hb⟩
                have HB3 := Lib.hid (below_next HB2.out hb ⟨rfl, rfl, rfl, rfl⟩)
                clear hb HAD
                go_wp2_with fail
                exact ⟨⟨i + 1, by omega, by go_num, by rw [HV.out], HB3⟩, by simp [intOf]; omega⟩
              case false =>
                rw [hu] at HUN
                have HV := Lib.hid (show txt (undT (T.take (i + 1)) a yc) = txt (undT (T.take i) a yc) by rw [HUT.out, if_neg (by rw [hu]; simp), Int.add_zero])
                clear HUT hbd hu
                generalize txt (undT (T.take i) a yc) = ru at *
                go_wp2_with fail
                refine (HUN.out _).mono ?_
                rintro e w8 ⟨rfl, rfl⟩
                go_wp2_with fail
                exact ⟨⟨i + 1, by omega, by go_num, by rw [HV.out], HB2⟩, by simp [intOf]; omega⟩
            · have hcb : (yc == cu) = false := beq_eq_false_iff_ne.2 hc
              have HV := Lib.hid (show txt (undT (T.take (i + 1)) a cu) = txt (undT (T.take i) a cu) by rw [HUT.out, if_neg (by rw [decide_eq_false hc]; simp), Int.add_zero])
              clear HUT hbd hc
              generalize txt (undT (T.take i) a cu) = ru at *
              go_wp2_with fail
              exact ⟨⟨i + 1, by omega, by go_num, by rw [HV.out], HB2⟩, by simp [intOf]; omega⟩
          · have hip : i = p := by omega
            have e : txt (undT (T.take i) a cu) = m := by rw [List.take_of_length_le (by rw [HPL.out]; omega)]; exact HAM.out
            rw [e]
            have HOe := Lib.hid (HOa.out.below HBi.out)
            have HBe := Lib.hid (below_ah HBa.out HBi.out)
            subst hip
            have hii : ¬ (i : Int) < (i : Int) := by omega
            clear e HBi
            go_wp2_with fail
            exact ⟨⟨k + 1, by omega, by go_num, HOe, HBe⟩, by simp [intOf]; omega⟩

      case false =>
        have HTT := Lib.hid (HTS.out.trans (by rw [if_neg (by rw [show parB (a, cu, m).1 = false from hpb]; decide)]))
        clear HTS hpb
        obtain ⟨x0, x1, x2⟩ := (cells3 XR7.out).1
        have HLT := Lib.hid (show ((S.take k).filter topB).length + 1 ≤ 1000000 by have := List.length_filter_le topB (S.take k); rw [List.length_take] at this; omega)
        go_wp2_with (first
          | (at_builtin; refine Row.wp_append1 rowB_ok rfl (.tmp 57) (.tmp 59) rfl w6.heap.size _ ((S.take k).filter topB) w7 (a, cu, m) _ _ rfl rfl rfl HO7.out rfl HB7.out.size HLT.out ?_; intro v8 w9 ho8 hg8 _; have HOa := Lib.hid ho8; have HBa := Lib.hid (below_own HB7.out (Nat.le_refl _) hg8 (fun g e => (HO7.out.own g e).1)); have XRa := Lib.hid ((hg8.block bx lx7 (fun e => by have := HOB.out bx e.symm; omega)).trans XR7.out); clear ho8 hg8)
          | fail)
        rw [← HTT.out] at HOa
        clear HTT HO7 HB7 XR7 HOB HLT x0 x1 x2 lx7
        generalize w9 = wa at *
        have lxa := block_lt_of_cell (cells3 XRa.out).1.1
        have HU0 := Lib.hid (show txt (undT (T.take 0) a cu) = [] by rw [List.take_zero]; show txt 0 = _; exact txt_zero)
        go_wp2_with fail
        go_loopw [63, 12] (fun j v wx => ∃ i : Nat, i ≤ p ∧ j = .int .i64 (i : Int) ∧ v = .string ⟨(txt (undT (T.take i) a cu)).toArray⟩ ∧ Hid (Below wa.heap.size wa wx)) (fun j _ _ => p - (intOf j).toNat)
        case atStart => exact ⟨0, by omega, rfl, by rw [HU0.out], Lib.hid (Below.refl _ _)⟩
        case round =>
          obtain ⟨i, hi, rfl, rfl, HBi⟩ := hrel
          clear HU0
          have g0 := (HBi.out.cell (p := ⟨bx, 0, none⟩) lxa).trans (cells3 XRa.out).1.1
          have g1 := (HBi.out.cell (p := ⟨bx, 1, none⟩) lxa).trans (cells3 XRa.out).1.2.1
          have g2 := (HBi.out.cell (p := ⟨bx, 2, none⟩) lxa).trans (cells3 XRa.out).1.2.2
          by_cases hli : i < p
          · have hil : i < T.length := by rw [HPL.out]; exact hli
            obtain ⟨b2, o2, rfl, hb2, _⟩ := R6.out.at_ (by omega)
            have hRi := R6.out.below (below_ah HBa.out HBi.out)
            have u0 := hRi.cell rowB_ok ln0 i 0 _ hli rfl
            have u1 := hRi.cell rowB_ok ln0 i 1 _ hli rfl
            have u2 := hRi.cell rowB_ok ln0 i 2 _ hli rfl
            have hii : (i : Int) < (p : Int) := by omega
            have HUT := Lib.hid (show undT (T.take (i + 1)) a cu = undT (T.take i) a cu + if (decide ((T.getD i ln0).2.1 = cu) && undB (T.getD i ln0).1 a) then val (T.getD i ln0).2.2 else 0 by rw [take_ln T i hil, undT_snoc])
            have HSM := Lib.hid (HZ.out.small.1 _ (lnAt_mem T i hil))
            have hbd := Lib.hid (HZ.out.bd i a cu)
            clear hRi hil
            generalize T.getD i ln0 = y at *
            obtain ⟨ya, yc, ym⟩ := y
            simp only [Nat.add_zero] at u0 u1 u2
            have lbx : bx < wr.heap.size := block_lt_of_cell g0
            have HB2 := Lib.hid (HBi.out.alloc HBi.out.size (.cells #[.string ⟨ya.toArray⟩, .string ⟨yc.toArray⟩, .string ⟨ym.toArray⟩] 33))
            by_cases hc : yc = cu
            · subst hc
              have HUN := Lib.hid (fun W => Under_any ya a W)
              cases hu : undB ya a
              case true =>
                rw [hu] at HUN
                have HV := Lib.hid (show txt (undT (T.take (i + 1)) a yc) = txt (val (txt (undT (T.take i) a yc)) + val ym) by rw [HUT.out, if_pos (by rw [hu]; simp), val_txt])
                have HAD := Lib.hid (HZ.out.add (txt (undT (T.take i) a yc)) ym _ hbd.out HSM.out.2.2 (below_ah B6.out (below_ah HBa.out HB2.out)))
                clear HUT hbd hu
                generalize txt (undT (T.take i) a yc) = ru at *
                generalize hru2 : txt (val ru + val ym) = ru2 at *
                clear hru2
                go_wp2_with fail
                refine (HUN.out _).mono ?_
                rintro e w8 ⟨rfl, rfl⟩
                go_wp2_with fail
                refine HAD.out.mono ?_
                rintro e w8 ⟨rfl, hb⟩
                have HB3 := Lib.hid (below_next HB2.out hb ⟨rfl, rfl, rfl, rfl⟩)
                clear hb HAD
                go_wp2_with fail
                exact ⟨⟨i + 1, by omega, by go_num, by rw [HV.out], HB3⟩, by simp [intOf]; omega⟩
              case false =>
                rw [hu] at HUN
                have HV := Lib.hid (show txt (undT (T.take (i + 1)) a yc) = txt (undT (T.take i) a yc) by rw [HUT.out, if_neg (by rw [hu]; simp), Int.add_zero])
                clear HUT hbd hu
                generalize txt (undT (T.take i) a yc) = ru at *
                go_wp2_with fail
                refine (HUN.out _).mono ?_
                rintro e w8 ⟨rfl, rfl⟩
                go_wp2_with fail
                exact ⟨⟨i + 1, by omega, by go_num, by rw [HV.out], HB2⟩, by simp [intOf]; omega⟩
            · have hcb : (yc == cu) = false := beq_eq_false_iff_ne.2 hc
              have HV := Lib.hid (show txt (undT (T.take (i + 1)) a cu) = txt (undT (T.take i) a cu) by rw [HUT.out, if_neg (by rw [decide_eq_false hc]; simp), Int.add_zero])
              clear HUT hbd hc
              generalize txt (undT (T.take i) a cu) = ru at *
              go_wp2_with fail
              exact ⟨⟨i + 1, by omega, by go_num, by rw [HV.out], HB2⟩, by simp [intOf]; omega⟩
          · have hip : i = p := by omega
            have e : txt (undT (T.take i) a cu) = m := by rw [List.take_of_length_le (by rw [HPL.out]; omega)]; exact HAM.out
            rw [e]
            have HOe := Lib.hid (HOa.out.below HBi.out)
            have HBe := Lib.hid (below_ah HBa.out HBi.out)
            subst hip
            have hii : ¬ (i : Int) < (i : Int) := by omega
            clear e HBi
            go_wp2_with fail
            exact ⟨⟨k + 1, by omega, by go_num, HOe, HBe⟩, by simp [intOf]; omega⟩
    · have hkn : k = q := by omega
      subst hkn
      have hki : ¬ (k : Int) < (k : Int) := by omega
      rw [List.take_of_length_le (show S.length ≤ k by rw [HQL.out]; exact Nat.le_refl _)] at HO
      obtain ⟨A7, c7, hu7, hr7⟩ := HO.out.rds
      subst hu7
      have BS := Lib.hid (below_ah B6.out HB.out)
      have RS := Lib.hid (R6.out.below HB.out)
      have SS := Lib.hid (S6.out.below HB.out)
      have R7 := Lib.hid hr7
      have HTOT := Lib.hid (fun cu W (h : Below w.heap.size w W) (r : rowB.Rds W A7 (S.filter topB).length c7 (S.filter topB)) => HZ.out.tot cu A7 c7 W h r)
      obtain ⟨n7, hn7⟩ : ∃ z, (S.filter topB).length = z := ⟨_, rfl⟩
      rw [hn7] at R7 HTOT ⊢
      clear hn7 hr7 HO R6 S6 B6 HB
      go_wp2_with fail
      generalize wr = ws at *
      have L1 := Lib.hid (Below.refl ws.heap.size ws)
      go_loopw [91] (fun i wr => ∃ j : Nat, j ≤ p ∧ i = .int .i64 (j : Int) ∧ Hid (Below ws.heap.size ws wr)) (fun i _ => p - (intOf i).toNat)
      case atStart => exact ⟨0, by omega, rfl, L1⟩
      case round =>
        obtain ⟨j, hj, rfl, HB⟩ := hrel
        clear L1
        by_cases hlj : j < p
        · have hjl : j < T.length := by rw [HPL.out]; exact hlj
          have HAL := Lib.hid (HZ.out.alone _ (lnAt_mem T j hjl))
          obtain ⟨b1, o1, rfl, hb1, _⟩ := RS.out.at_ (by omega)
          have p0 := (RS.out.below HB.out).cell rowB_ok ln0 j 0 _ hlj rfl
          have p1 := (RS.out.below HB.out).cell rowB_ok ln0 j 1 _ hlj rfl
          have p2 := (RS.out.below HB.out).cell rowB_ok ln0 j 2 _ hlj rfl
          have hji : (j : Int) < (p : Int) := by omega
          clear hjl
          generalize T.getD j ln0 = x at *
          obtain ⟨a, cu, m⟩ := x
          simp only [Nat.add_zero] at p0 p1 p2
          have HB2 := Lib.hid (HB.out.alloc HB.out.size (.cells #[.string ⟨a.toArray⟩, .string ⟨cu.toArray⟩, .string ⟨m.toArray⟩] 33))
          have XR := Lib.hid (heap_alloc_new wr (.cells #[.string ⟨a.toArray⟩, .string ⟨cu.toArray⟩, .string ⟨m.toArray⟩] 33))
          obtain ⟨x0, x1, x2⟩ := (cells3 XR.out).1
          have lx := block_lt_of_cell x0
          have HCF := Lib.hid (cont25 wr.heap.size (fun x => decide (x.1 ≠ a) && undB x.1 a) _ p c1 T _ (RS.out.below HB2.out) (by omega) fun W x hW _ => clo25_any wr.heap.size x.1 x.2.1 x.2.2 a W ((hW.cell (p := ⟨wr.heap.size, 0, none⟩) lx).trans x0))
          unfold BoolPost at HCF
          simp only at HAL
          generalize (T.any fun x => decide (x.1 ≠ a) && undB x.1 a) = an at *
          go_wp2_with fail
          generalize wr.alloc (.cells #[.string ⟨a.toArray⟩, .string ⟨cu.toArray⟩, .string ⟨m.toArray⟩] 33) = wb at *
          obtain ⟨bx, hbx⟩ : ∃ bx, wr.heap.size = bx := ⟨_, rfl⟩
          rw [hbx] at XR x0 x1 x2 lx HCF ⊢
          clear hbx HB p0 p1 p2
          refine HCF.out.mono ?_
          rintro e w7 ⟨rfl, hb⟩
          have HB7 := Lib.hid (below_next HB2.out hb ⟨rfl, rfl, rfl, rfl⟩)
          have XR7 := Lib.hid ((hb.block bx lx).trans XR.out)
          have lx7 : bx < w7.heap.size := Nat.lt_of_lt_of_le lx hb.size
          clear hb HB2 XR HCF x0 x1 x2 lx
          obtain ⟨x0, x1, x2⟩ := (cells3 XR7.out).1
          have HTT := Lib.hid (HTOT.out cu _ (below_ah BS.out HB7.out) (R7.out.below HB7.out))
          cases an
          case true =>
            clear HAL
            go_wp2_with fail
            refine HTT.out.mono ?_
            rintro e w8 ⟨rfl, hb⟩
            have HB8 := Lib.hid (below_next HB7.out hb ⟨rfl, rfl, rfl, rfl⟩)
            clear hb HTT
            go_wp2_with fail
            exact ⟨⟨j + 1, by omega, by go_num, HB8⟩, by simp [intOf]; omega⟩
          case false =>
            have hal := HAL.out rfl
            go_wp2_with fail
            refine HTT.out.mono ?_
            rintro e w8 ⟨rfl, hb⟩
            have HB8 := Lib.hid (below_next HB7.out hb ⟨rfl, rfl, rfl, rfl⟩)
            have XR8 := Lib.hid ((hb.block bx lx7).trans XR7.out)
            clear hb HTT x0 x1 x2 XR7
            obtain ⟨x0, x1, x2⟩ := (cells3 XR8.out).1
            have hcn := contE_any A2 k c2 S a cu m w8 (SS.out.below HB8.out) (by omega)
            rw [hal] at hcn
            unfold BoolPost at hcn
            have HCN := Lib.hid hcn
            clear hcn hal HAL
            go_wp2_with fail
            refine HCN.out.mono ?_
            rintro e w9 ⟨rfl, hb⟩
            have HB9 := Lib.hid (below_next HB8.out hb ⟨rfl, rfl, rfl, rfl⟩)
            clear hb HCN
            go_wp2_with fail
            exact ⟨⟨j + 1, by omega, by go_num, HB9⟩, by simp [intOf]; omega⟩
        · have hjp : j = p := by omega
          subst hjp
          have hji : ¬ (j : Int) < (j : Int) := by omega
          have BW := Lib.hid (below_ah BS.out HB.out)
          clear HB
          go_wp2_with fail
          refine (HW.out _ BW.out).mono ?_
          rintro e w9 ⟨rfl, hb⟩
          have B9 := Lib.hid (below_next BW.out hb ⟨rfl, rfl, rfl, rfl⟩)
          clear hb
          go_wp2_with fail
          exact HP.out _ B9.out
set_option maxRecDepth 100000 in
theorem rollup_row (A : Option Addr) (n c : Nat) (ps : List RE) (w : World) (hl : rowE.Rds w A n c ps) (hr : ∀ p ∈ ps, RdG w p ∧ p.2.2.1.length ≤ maxLen) (ht : Tab w) (hm : ML w) :
    Calls Tryz.prog 5 #[.slice A n c] w (BoolPost true w) := by
  have hr2 := fun p hp => (hr p hp).1
  cases hf : fineB ps
  case true => exact rollup_in A n c ps w hl hr2 ht hm hf
  have HFa := Lib.hid (fine_any A n c ps w hl hr2 ht hm)
  rw [hf] at HFa
  unfold BoolPost at HFa
  have HW := Lib.hid (fun W (h : Below w.heap.size w W) => awake_any W (ht.below h) (hm.below h))
  unfold BoolPost at HW
  have HP := Lib.hid (fun W (h : Below w.heap.size w W) => (show BoolPost true w (.returned (.bool true)) W from ⟨rfl, h⟩))
  clear hl hr hr2 ht hm hf
  generalize BoolPost true w = Post at *
  go_enter Tryz.func5, Tryz.ntmps5
  go_wp2_with fail
  refine HFa.out.mono ?_
  rintro e w1 ⟨rfl, hb⟩
  have B1 := Lib.hid hb
  clear hb
  go_wp2_with fail
  refine (HW.out _ B1.out).mono ?_
  rintro e w2 ⟨rfl, hb⟩
  have B2 := Lib.hid (below_next B1.out hb ⟨rfl, rfl, rfl, rfl⟩)
  clear hb B1
  go_wp2_with fail
  exact HP.out _ B2.out
end Go.Proofs.YtohdpidlilhnjaaGreatDoor
