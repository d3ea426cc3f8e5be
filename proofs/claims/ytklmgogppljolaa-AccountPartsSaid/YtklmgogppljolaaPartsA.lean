/- AccountParts: the walk. -/
import Derived.Test.YtklmgogppljolaaOwnB
import Derived.Test.YtklmgogppljolaaCharts
import Derived.Deep.RegionHeld3
import Derived.Deep.DrawnRows
import Derived.Deep.DeepCutAuto
namespace Go.Proofs.Ytklmgogppljolaa
open Go.RowKit
attribute [local go_sem ↓] Go.wp_at_zero Go.wp_at_succ

theorem cat_run (a b c : ByteArray) (h : a.size + b.size ≤ 9223372036854775807) (hc : a ++ b = c) (w : World) : (Op.stringOp .add a b).run Try.prog w = .ok (.string c) w := by
  subst hc
  exact run_string_add_sum w a b h
set_option maxHeartbeats 8000000 in
set_option maxRecDepth 100000 in
theorem parts_walk (A : Option Addr) (n c : Nat) (l : List Acc) (kp at_ : Int) (w : World) (h : Accs w A n c l) (hn : ∀ a ∈ l, a.1.length ≤ 9223372036854775807) (hm : ML w)
    (hkp : 0 ≤ kp ∧ kp ≤ 65535) (hat : 0 ≤ at_ ∧ at_ ≤ 255)
    (hg : greatB l = false) (hk0 : chkL l = 0) : Calls Try.prog 7 #[.slice A n c, .int .u16 kp, .int .u8 at_] w (Yes w) := by
  have HG := Lib.hid (Great_any A n c l w h hn)
  have HM := Lib.hid hm
  have HA := Lib.hid h
  have hcap := h.cap
  have htop := h.top
  have hlen := Lib.hid h.len
  have HS := Lib.hid (great_small hg)
  have HCH := Lib.hid (chart_of hk0)
  have hn256 : n ≤ 256 := by rw [← h.len]; exact HCH.out.small
  rw [hg] at HG
  clear hn hm h hg
  have HC := Lib.hid (fun W A n c l (hW : Accs W A n c l) (hM : ML W) hl => CheckAll_any A n c l W hW hl hM)
  have HC0 := Lib.hid (HC.out w A n c l HA.out HM.out (fun a ha => by have := HS.out a ha; omega))
  rw [hk0] at HC0
  clear hk0
  go_enter Try.func7, Try.ntmps7
  go_wp2_with fail
  refine HG.out.mono ?_
  rintro e w1 ⟨rfl, rfl⟩
  go_wp2_with fail
  refine HC0.out.mono ?_
  rintro e w2 ⟨rfl, hb2⟩
  have HB2 := Lib.hid hb2
  clear hb2
  go_wp2_with fail
  go_loopw [7, 23] (fun v i wr => ∃ (k : Nat) (m : List Acc), k ≤ n ∧ i = .int .i64 (k : Int) ∧ OwnA w.heap.size wr v m ∧ Hid (m.Sublist (l.take k)) ∧ Hid (Below w.heap.size w wr)) (fun _ i _ => n - (intOf i).toNat)
  case atStart => exact ⟨0, [], by omega, rfl, OwnA.nil _ _, Lib.hid (by simp), HB2⟩
  case round =>
    obtain ⟨k, m, hk, rfl, hown, hsub, hbw⟩ := hrel
    by_cases hlt : k < n
    · obtain ⟨b, o, rfl, hbl, hcs⟩ := HA.out.at_ (by omega)
      obtain ⟨c1, c2⟩ := hcs k hlt
      have c1 := (hbw.out.cell (p := ⟨b, o + k * 2, none⟩) hbl).trans c1
      have c2 := (hbw.out.cell (p := ⟨b, o + k * 2 + 1, none⟩) hbl).trans c2
      clear hcs
      have hsn := Lib.hid (sub_snoc hsub.out (show k < l.length by rw [hlen.out]; exact hlt))
      obtain ⟨x, hx⟩ : ∃ x, l.getD k ([], 0) = x := ⟨_, rfl⟩
      rw [accAt, hx] at hsn
      rw [hx] at c1 c2
      clear hx
      obtain ⟨x1, x2⟩ := x
      have hal : OwnA w.heap.size (wr.alloc (.cells #[.string ⟨x1.toArray⟩, .int .i64 x2] 26)) u7 m := hown.alloc _
      have hz := hbw.out.size
      have hml : m.length ≤ 1000 := by have := hsub.out.length_le; simp at this; omega
      have hba : Hid (Below w.heap.size w (wr.alloc (.cells #[.string ⟨x1.toArray⟩, .int .i64 x2] 26))) := Lib.hid (hbw.out.alloc hz _)
      go_wp2_with (at_builtin; refine wp_append_acc rfl (.tmp 34) (.tmp 36) rfl w.heap.size _ m _ (x1, x2) rfl hal (wr.heap.size + 1) (by simp) rfl (by simp; omega) (by omega) ?_; intro v' w5 hown' hbw')
      · go_roundw
        case rel => exact ⟨k + 1, m ++ [(x1, x2)], by omega, by go_num, hown', Lib.hid hsn.out.1, Lib.hid (hba.out.trans hbw')⟩
        case measure => simp [intOf]; omega
      · go_roundw
        case rel => exact ⟨k + 1, m, by omega, by go_num, hal, Lib.hid hsn.out.2, hba⟩
        case measure => simp [intOf]; omega
    · have hkn : k = n := by omega
      subst hkn
      obtain ⟨PA, pc, rfl, hPA⟩ := hown.accs
      have HP := Lib.hid hPA
      have hmc : chkL m = 0 := chk_of_P ((chartP_of HCH.out).sub (hsub.out.trans (List.take_sublist _ _)))
      have HMC := Lib.hid (HC.out _ _ _ _ _ HP.out (HM.out.below hbw.out) (fun a ha => by have := HS.out a ((hsub.out.trans (List.take_sublist _ _)).subset ha); omega))
      rw [hmc] at HMC
      clear hmc hPA
      go_wp2_with fail
      refine HMC.out.mono ?_
      rintro e w3 ⟨rfl, hb3⟩
      have HB3 := Lib.hid (hbw.out.trans (hb3.mono hbw.out.size))
      have HM3 := Lib.hid (HM.out.below HB3.out)
      clear hb3
      by_cases h2 : k < 2
      · have hd2 : decide ((k : Int) < 2) = true := by simp; omega
        go_wp2_with fail
        refine (awake_any _ HM3.out).mono ?_
        rintro e w4 ⟨rfl, hb4⟩
        go_wp2_with fail
        go_ret
        exact ⟨rfl, HB3.out.trans (hb4.mono HB3.out.size)⟩
      · have hd2 : decide ((k : Int) < 2) = false := by simp; omega
        go_wp2_with fail
        refine (clone_any A k c l _ (HA.out.below HB3.out) (by omega) hn256).mono ?_
        rintro e w4 ⟨v4, rfl, ho4, hb4⟩
        go_wp2_with fail
        refine (reverse_any _ v4 l _ ho4 (by rw [hlen.out]; omega) (by rw [hlen.out]; omega)).mono ?_
        rintro e w5 ⟨rfl, ho5, hb5⟩
        have HB5 := Lib.hid (HB3.out.trans ((hb4.trans hb5).mono HB3.out.size))
        have hkp1 : (1 : Int) ≤ (k : Int) := by omega
        obtain ⟨q, hq⟩ : ∃ q : Nat, at_ % (k : Int) = (q : Int) := ⟨(at_ % (k : Int)).toNat, by have := Int.emod_nonneg at_ (show (k : Int) ≠ 0 by omega); omega⟩
        have hqk : (q : Int) < (k : Int) := by rw [← hq]; exact Int.emod_lt_of_pos _ (by omega)
        go_upto_region 17 with fail
        rw [hq]
        have HQ := Lib.hid hq
        clear hq
        obtain ⟨b, o, rfl, hbl, hcs⟩ := HA.out.at_ (by omega)
        obtain ⟨c1, c2⟩ := hcs q (by omega)
        have c1 := (HB5.out.cell (p := ⟨b, o + q * 2, none⟩) hbl).trans c1
        have c2 := (HB5.out.cell (p := ⟨b, o + q * 2 + 1, none⟩) hbl).trans c2
        clear hcs
        have HK := Lib.hid ((HCH.out.kind q (by rw [hlen.out]; omega)))
        obtain ⟨x, hx⟩ : ∃ x, l.getD q ([], 0) = x := ⟨_, rfl⟩
        rw [accAt, hx] at HK
        rw [hx] at c1 c2
        have HX := Lib.hid hx
        clear hx
        obtain ⟨x1, x2⟩ := x
        have hk1 : (1 : Int) ≤ x2 := HK.out.1
        have hk2 : x2 ≤ 5 := HK.out.2
        obtain ⟨z, hz⟩ : ∃ z : List UInt8, z = x1 ++ [46, 122, 122, 122] := ⟨_, rfl⟩
        have hx1 : x1.length ≤ 120 := HS.out (x1, x2) (by have := at_mem (l := l) (k := q) (by rw [hlen.out]; omega); rw [accAt, HX.out] at this; exact this)
        have hcat := fun w' => cat_run ⟨x1.toArray⟩ ⟨#[46, 122, 122, 122]⟩ ⟨z.toArray⟩ (by simp [ByteArray.size]; omega) (by rw [hz]; apply ByteArray.ext; simp [ByteArray.data_append]) w'
        have HZ := Lib.hid hz
        clear hz
        have hq0 : (0 : Int) ≤ (q : Int) := by omega
        have hb5 : b < w5.heap.size := Nat.lt_of_lt_of_le hbl HB5.out.size
        have HCL := Lib.hid (fun W (hW : Below w5.heap.size w5 W) => clone_S w5.heap.size _ k c l w5 W hW (HA.out.below HB5.out) (by omega) hn256 (Nat.le_refl _) ⟨b, o + q * 2, none⟩ ⟨b, o + q * 2 + 1, none⟩ _ _ hb5 hb5 c1 c2)
        have hsz5 := HB5.out.size
        have hqn : q < k := by omega
        obtain ⟨y2, hy2⟩ : ∃ y2, IntKind.i64.wrap (x2.tmod 5 + 1) = y2 := ⟨_, rfl⟩
        have hz2 : y2 ≠ x2 := by
          rw [← hy2, Int.tmod_eq_emod_of_nonneg (by omega), IntWalk.i64_in _ (by omega)]; omega
        go_cut [12] (fun s12 wx => OwnA w5.heap.size wx s12 (l ++ [(z, y2)]) ∧ Hid (Below w5.heap.size w5 wx))
        case first =>
          go_region_held3 (fun w' => w'.cell? ⟨b, o + q * 2, none⟩ = some (.string ⟨x1.toArray⟩) ∧ w'.cell? ⟨b, o + q * 2 + 1, none⟩ = some (.int .i64 x2)) (go_keep)
            (first
              | (go_at_call 27; refine (HCL.out _ (by first | exact (Below.refl _ _).drew | exact ((Below.refl _ _).alloc (Nat.le_refl _) _).drew | exact (Below.refl _ _).drew.alloc (by simp) _)).mono ?_; rintro e w6 ⟨v6, rfl, ho6, hb6, hb56, d1, d2⟩)
              | (refine step_append_acc1 rfl (.tmp 56) (.tmp 71) rfl w5.heap.size _ l w6 (z, y2) rfl ho6 rfl (by have := hb56.out.size; omega) (by rw [hlen.out]; omega) ?_; intro v7 w7 ho7 hb7; have d3 := (hb7.cell (p := ⟨b, o + q * 2, none⟩) hb5).trans d1; have d4 := (hb7.cell (p := ⟨b, o + q * 2 + 1, none⟩) hb5).trans d2)
              | (refine step_append_acc rfl (.tmp 56) (.tmp 71) rfl w5.heap.size _ l w6 w5.heap.size (z, y2) rfl ho6 rfl ((hb6.out.cell (p := ⟨w5.heap.size, 0, none⟩) (by simp)).trans (cell_of_row _ _ _ _ _ _ (heap_alloc_new w5 _))) ((hb6.out.cell (p := ⟨w5.heap.size, 1, none⟩) (by simp)).trans (cell_of_row _ _ _ _ _ _ (heap_alloc_new w5 _))) (by have := hb56.out.size; omega) (by rw [hlen.out]; omega) ?_; intro v7 w7 ho7 hb7; have d3 := (hb7.cell (p := ⟨b, o + q * 2, none⟩) hb5).trans d1; have d4 := (hb7.cell (p := ⟨b, o + q * 2 + 1, none⟩) hb5).trans d2))
          all_goals (go_wp2_with fail; go_meet; exact ⟨ho7, Lib.hid (hb56.out.trans hb7)⟩)
        case rest =>
          obtain ⟨ho7, hb7⟩ := hcut
          clear hcat HCL c1 c2 hy2
          go_wp2_with fail
          refine (sort_any _ _ _ _ ho7 (by simp) (by simp [hlen.out]; omega)).mono ?_
          rintro e w8 ⟨rfl, mm, ho8, hp8, hb8⟩
          have hb58 : Below w5.heap.size w5 w8 := hb7.out.trans hb8
          have HB8 := Lib.hid (HB5.out.trans (hb58.mono HB5.out.size))
          obtain ⟨TA, tc, rfl, hTA⟩ := (ho5.below hb58).accs
          obtain ⟨MA, mc, rfl, hMA⟩ := ho8.accs
          have hT := turned_bad (by rw [hlen.out]; omega) (chartP_of HCH.out)
          have hM : chkL mm ≠ 0 := by
            refine more_bad (k := q) (q := y2) (by rw [hlen.out]; omega) ?_ (by rw [accAt, HX.out, ← HZ.out]; exact hp8)
            rw [accAt, HX.out]; exact hz2
          have HT := Lib.hid (HC.out w8 TA _ tc _ hTA (HM.out.below HB8.out) (fun a ha => by have := HS.out a (List.mem_reverse.1 ha); omega))
          have hmm : ∀ a ∈ mm, a.1.length < 4294967281 := fun a ha => by
            rcases List.mem_append.1 (hp8.mem_iff.1 ha) with h | h
            · have := HS.out a h; omega
            · have := List.mem_singleton.1 h
              rw [this]; show z.length < _
              rw [HZ.out]; simp; omega
          have HMM := Lib.hid (fun W (hW : Below w8.heap.size w8 W) => HC.out W MA _ mc _ (hMA.below hW) (HM.out.below (HB8.out.trans (hW.mono HB8.out.size))) hmm)
          clear hmm hTA hMA hp8 ho8
          generalize chkL l.reverse = eT at HT hT
          generalize chkL mm = eM at HMM hM
          have hT1 : (eT == 0) = false := by simpa using hT
          have hT2 : (eT != 0) = true := by simpa using hT
          have hM1 : (eM == 0) = false := by simpa using hM
          have hM2 : (eM != 0) = true := by simpa using hM
          generalize l.reverse.length = nT at *
          generalize mm.length = nM at *
          go_wp2_with fail
          refine HT.out.mono ?_
          rintro e w9 ⟨rfl, hb9⟩
          go_wp2_with fail
          refine (HMM.out _ hb9).mono ?_
          rintro e w10 ⟨rfl, hb10⟩
          have hb810 : Below w8.heap.size w8 w10 := hb9.trans (hb10.mono hb9.size)
          have HB10 := Lib.hid (HB8.out.trans (hb810.mono HB8.out.size))
          go_wp2_with fail
          refine (awake_any _ (HM.out.below HB10.out)).mono ?_
          rintro e w11 ⟨rfl, hb11⟩
          go_wp2_with fail
          go_ret
          exact ⟨rfl, HB10.out.trans (hb11.mono HB10.out.size)⟩
set_option maxHeartbeats 2000000 in
set_option maxRecDepth 100000 in
theorem parts_early (A : Option Addr) (n c : Nat) (l : List Acc) (kp at_ : Int) (w : World) (h : Accs w A n c l) (hn : ∀ a ∈ l, a.1.length ≤ 9223372036854775807) (hm : ML w)
    (he : greatB l = true ∨ chkL l ≠ 0) : Calls Try.prog 7 #[.slice A n c, .int .u16 kp, .int .u8 at_] w (Yes w) := by
  have HG := Lib.hid (Great_any A n c l w h hn)
  have HM := Lib.hid hm
  have HA := Lib.hid h
  by_cases hg : greatB l = true
  · rw [hg] at HG
    clear hg he hn hm h
    go_enter Try.func7, Try.ntmps7
    go_wp2_with fail
    refine HG.out.mono ?_
    rintro e w1 ⟨rfl, rfl⟩
    go_wp2_with fail
    refine (awake_any _ HM.out).mono ?_
    rintro e w2 ⟨rfl, hb2⟩
    go_wp2_with fail
    go_ret
    exact ⟨rfl, hb2⟩
  · have hg' : greatB l = false := by simpa using hg
    have hc : chkL l ≠ 0 := he.resolve_left hg
    have HS := Lib.hid (great_small hg')
    have HC0 := Lib.hid (CheckAll_any A n c l w h (fun a ha => by have := HS.out a ha; omega) hm)
    rw [hg'] at HG
    clear hg hg' he hn hm h
    generalize chkL l = e0 at HC0 hc
    have hT1 : (e0 == 0) = false := by simpa using hc
    have hT2 : (e0 != 0) = true := by simpa using hc
    go_enter Try.func7, Try.ntmps7
    go_wp2_with fail
    refine HG.out.mono ?_
    rintro e w1 ⟨rfl, rfl⟩
    go_wp2_with fail
    refine HC0.out.mono ?_
    rintro e w2 ⟨rfl, hb2⟩
    go_wp2_with fail
    refine (awake_any _ (HM.out.below hb2)).mono ?_
    rintro e w3 ⟨rfl, hb3⟩
    go_wp2_with fail
    go_ret
    exact ⟨rfl, hb2.trans (hb3.mono hb2.size)⟩
theorem parts_row (A : Option Addr) (n c : Nat) (l : List Acc) (kp at_ : Int) (w : World) (hm : ML w) (h : Accs w A n c l) (hn : ∀ a ∈ l, a.1.length ≤ 9223372036854775807)
    (hkp' : (Lit.int .u16 kp).wf = true) (hat' : (Lit.int .u8 at_).wf = true) : Calls Try.prog 7 #[.slice A n c, .int .u16 kp, .int .u8 at_] w (Yes w) := by
  have hkp : 0 ≤ kp ∧ kp ≤ 65535 := by simpa [Lit.wf, IntKind.min, IntKind.max, IntKind.signed, IntKind.bits] using hkp'
  have hat : 0 ≤ at_ ∧ at_ ≤ 255 := by simpa [Lit.wf, IntKind.min, IntKind.max, IntKind.signed, IntKind.bits] using hat'
  by_cases he : greatB l = true ∨ chkL l ≠ 0
  · exact parts_early A n c l kp at_ w h hn hm he
  · refine parts_walk A n c l kp at_ w h hn hm hkp hat ?_ ?_
    · cases hg : greatB l
      · rfl
      · exact (he (.inl hg)).elim
    · exact Decidable.byContradiction fun hc => he (.inr hc)
end Go.Proofs.Ytklmgogppljolaa
