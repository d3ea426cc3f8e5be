/- Contract of ledger.Minus. -/
import Derived.Test.YtohdpidlilhnjaaGreatDoorQ9
import Derived.Test.YtohdpidlilhnjaaGreatDoorQ10
import Derived.Test.YtohdpidlilhnjaaGreatDoorQ7
import Derived.Test.YtohdpidlilhnjaaGreatDoorQ4
import Derived.Test.YtohdpidlilhnjaaGreatDoorQ3
import Derived.Test.YtohdpidlilhnjaaGreatDoorQ2
import Derived.Deep.Strs
import Derived.Lib.SmallJoins
import Derived.Test.YtohdpidlilhnjaaGreatDoorRows
import Derived.Below
import Derived.ChangeSame
import Derived.ProofKit
import Derived.OpenShut
import Derived.ShutString
import Derived.SliceStrings
import Derived.HandedShaped
import Derived.Test.YtohdpidlilhnjaaGreatDoorCards
import Derived.Test.YtohdpidlilhnjaaGreatDoorTie
import Derived.WalkKit
import Derived.LaidMore
import Derived.Stop.Joined
import Derived.Stop.LaidErr
import Derived.SevenTiedAt
import Derived.Lib.LaidTab
import Derived.Lay
namespace Go.Proofs.YtohdpidlilhnjaaGreatDoor
open Go.RowKit Go.Maps Num

def lsI (a b : List Ln) : Int := if (listB a && listB b) = true then 0 else 1
def lsL (a b : List Ln) : List Ln := if (listB a && listB b) = true then lessB a b else []
theorem take_neg (l : List Ln) (k : Nat) (h : k < l.length) : (l.take (k + 1)).map negL = (l.take k).map negL ++ [negL (l.getD k ln0)] := by
  rw [take_ln l k h, List.map_append]; rfl
theorem neg_sm60 {x : Ln} (h : Sml x) (hl : x.2.2.length ≤ 60) : Sml (negL x) := negL_sml h hl
set_option maxRecDepth 100000 in
set_option maxHeartbeats 8000000 in
theorem Minus_any (A B : Option Addr) (n c m d : Nat) (a b : List Ln) (w : World) (ha : rowB.Rds w A n c a) (hb : rowB.Rds w B m d b) (sa : ∀ x ∈ a, Sml x) (sb : ∀ x ∈ b, Sml x ∧ x.2.2.length ≤ 60) (hn : n ≤ 4000) (hm : m ≤ 4000) (ht : Tab w) (hM : ML w) :
    Calls Tryz.prog 29 #[.slice A n c, .slice B m d] w (ListC (lsL a b) (lsI a b) w) := by
  have la := Lib.hid ha.len
  have lb := Lib.hid hb.len
  have L1 := Lib.hid ha
  have L2 := Lib.hid hb
  have HT := Lib.hid ht
  have HA := Lib.hid (fun W (h : Below w.heap.size w W) => isList_any A n c a W (ha.below h) sa (by omega) (ht.below h) (hM.below h))
  have HB := Lib.hid (fun W (h : Below w.heap.size w W) => isList_any B m d b W (hb.below h) (fun x hx => (sb x hx).1) (by omega) (ht.below h) (hM.below h))
  have HSM := Lib.hid (show ∀ x ∈ a ++ b.map negL, Sml x from fun x hx => by
    rcases List.mem_append.1 hx with h | h
    · exact sa x h
    · obtain ⟨y, hy, rfl⟩ := List.mem_map.1 h
      exact neg_sm60 (sb y hy).1 (sb y hy).2)
  have HS2 := Lib.hid sb
  have HP := Lib.hid (fun v i W (h1 : rowB.Own w.heap.size W v (lsL a b)) (h2 : Below w.heap.size w W) (hi : lsI a b = i) => (show ListC (lsL a b) (lsI a b) w (.returned (.tuple #[v, .int .i64 i])) W from ⟨v, by rw [hi], h1, h2⟩))
  have HLL := Lib.hid (show lsL a b = if (listB a && listB b) = true then lessB a b else [] from rfl)
  have HLI := Lib.hid (show lsI a b = if (listB a && listB b) = true then 0 else 1 from rfl)
  have HCN := Lib.hid (fun (h : listB a = true) (x : Ln) (hx : x ∈ a ++ b.map negL) => (show canB x = true by
    rcases List.mem_append.1 hx with h' | h'
    · exact listB_can h x h'
    · obtain ⟨y, _, rfl⟩ := List.mem_map.1 h'
      exact canB_t))
  have hmm := @run_makeMap Tryz.prog
  clear ha hb sa sb ht hM
  generalize ListC (lsL a b) (lsI a b) w = Post at *
  generalize lsI a b = ri at *
  generalize lsL a b = rl at *
  cases hba : listB a
  · have hv := Lib.hid (fun W hb => HP.out (.slice none 0 0) 1 W (by rw [HLL.out, hba, if_neg (by simp)]; exact Row.Own.nil _ _) hb (by rw [HLI.out, hba, if_neg (by simp)]))
    have HA0 := HA.out w (Below.refl _ _)
    rw [hba] at HA0
    have HA1 := Lib.hid HA0
    clear HA0 HA HP
    go_enter Tryz.func29, Tryz.ntmps29
    go_wp2_with fail
    refine HA1.out.mono ?_
    rintro e w1 ⟨rfl, hb1⟩
    have hv1 := Lib.hid (hv.out w1 hb1)
    clear hb1
    go_wp2_with fail
    exact hv1.out
  cases hbb : listB b
  · have hv := Lib.hid (fun W hb => HP.out (.slice none 0 0) 1 W (by rw [HLL.out, hbb, Bool.and_false, if_neg (by simp)]; exact Row.Own.nil _ _) hb (by rw [HLI.out, hbb, Bool.and_false, if_neg (by simp)]))
    have HA0 := HA.out w (Below.refl _ _)
    rw [hba] at HA0
    have HA1 := Lib.hid HA0
    have HB0 := HB.out
    rw [hbb] at HB0
    have HB1 := Lib.hid HB0
    clear HA0 HA HP HB HB0
    go_enter Tryz.func29, Tryz.ntmps29
    go_wp2_with fail
    refine HA1.out.mono ?_
    rintro e w1 ⟨rfl, hb1⟩
    have B1 := Lib.hid hb1
    clear hb1
    go_wp2_with fail
    refine (HB1.out _ B1.out).mono ?_
    rintro e w2 ⟨rfl, hb2⟩
    have hv1 := Lib.hid (hv.out w2 (below_next B1.out hb2 ⟨rfl, rfl, rfl, rfl⟩))
    clear hb2
    go_wp2_with fail
    exact hv1.out
  have hv := Lib.hid (fun v W (h1 : rowB.Own w.heap.size W v (lessB a b)) hb => HP.out v 0 W (by rw [HLL.out, hba, hbb, if_pos (by rfl)]; exact h1) hb (by rw [HLI.out, hba, hbb, if_pos (by rfl)]))
  have HCN2 := Lib.hid (HCN.out hba)
  have HA0 := HA.out w (Below.refl _ _)
  rw [hba] at HA0
  have HA1 := Lib.hid HA0
  have HB0 := HB.out
  rw [hbb] at HB0
  have HB1 := Lib.hid HB0
  clear HA0 HA HP HB HB0 HCN HLL HLI hba hbb
  go_enter Tryz.func29, Tryz.ntmps29
  go_wp2_with fail
  refine HA1.out.mono ?_
  rintro e w1 ⟨rfl, hb1⟩
  have B1 := Lib.hid hb1
  clear hb1
  go_wp2_with fail
  refine (HB1.out _ B1.out).mono ?_
  rintro e w2 ⟨rfl, hb2⟩
  have B2 := Lib.hid (below_next B1.out hb2 ⟨rfl, rfl, rfl, rfl⟩)
  clear hb2 B1 HA1 HB1
  have hv2 := Lib.hid (fun v W (h1 : rowB.Own w2.heap.size W v (lessB a b)) (h2 : Below w2.heap.size w2 W) => hv.out v W (h1.mono B2.out.size) (B2.out.trans (h2.mono B2.out.size)))
  have M1 := Lib.hid (L1.out.below B2.out)
  have M2 := Lib.hid (L2.out.below B2.out)
  have T2 := Lib.hid (HT.out.below B2.out)
  clear L1 L2 HT hv B2
  have R0 := Lib.hid (show DurR w2 (a.take 0) (w2.alloc (.map #[] 0)) from DurR.start w2)
  go_wp2_with fail
  go_loopw [22, 8] (fun i _ wr => ∃ k : Nat, k ≤ n ∧ i = .int .i64 (k : Int) ∧ Hid (DurR w2 (a.take k) wr)) (fun i _ _ => n - (intOf i).toNat)
  case atStart => exact ⟨0, by omega, rfl, R0⟩
  case round =>
    clear R0
    obtain ⟨k, hk, rfl, hR⟩ := hrel
    by_cases hlt : k < n
    · have hkl : k < a.length := by rw [la.out]; exact hlt
      have htk := Lib.hid (take_ln a k hkl)
      obtain ⟨b1, o1, rfl, hb1, _⟩ := M1.out.at_ (by omega)
      have q0 := (M1.out.below hR.out.bel).cell rowB_ok ln0 k 0 _ hlt rfl
      have q1 := (M1.out.below hR.out.bel).cell rowB_ok ln0 k 1 _ hlt rfl
      have q2 := (M1.out.below hR.out.bel).cell rowB_ok ln0 k 2 _ hlt rfl
      have hki : (k : Int) < (n : Int) := by omega
      generalize a.getD k ln0 = x at *
      obtain ⟨xa, xc, xm⟩ := x
      simp only [Nat.add_zero] at q0 q1 q2
      have hsx := Lib.hid (show ∀ x ∈ a.take k ++ [(xa, xc, xm)], Sml x from fun x hx => HSM.out x (List.mem_append_left _ (by rw [← htk.out] at hx; exact List.mem_of_mem_take hx)))
      have hll := Lib.hid (show (a.take k).length < 10000 by rw [List.length_take]; omega)
      have HR3 := Lib.hid (hR.out.al (.cells #[.string ⟨xa.toArray⟩, .string ⟨xc.toArray⟩, .string ⟨xm.toArray⟩] 33))
      obtain ⟨⟨y0, y1, y2⟩, _⟩ := cells3 (heap_alloc_new wr (.cells #[.string ⟨xa.toArray⟩, .string ⟨xc.toArray⟩, .string ⟨xm.toArray⟩] 33))
      have HAD := Lib.hid (add_s w2.heap.size (a.take k) xa xc xm _ HR3.out.map hsx.out hll.out (T2.out.below HR3.out.bel))
      have HRX := Lib.hid (fun W h1 h2 => (show DurR w2 (a.take (k + 1)) W by rw [htk.out]; exact HR3.out.add h1 h2))
      clear hR htk
      go_wp2_with fail
      refine HAD.out.mono ?_
      rintro e w3 ⟨rfl, h1, h2⟩
      have RR := Lib.hid (HRX.out w3 h1 h2)
      clear h1 h2 HAD
      go_wp2_with fail
      exact ⟨⟨k + 1, by omega, by go_num, RR⟩, by simp [intOf]; omega⟩
    · have hkn : k = n := by omega
      subst hkn
      have hki : ¬ (k : Int) < (k : Int) := by omega
      have R1 := Lib.hid (show DurR w2 (a ++ (b.take 0).map negL) wr by
        have := hR.out
        rw [List.take_of_length_le (by rw [la.out]; exact Nat.le_refl _)] at this
        rw [List.take_zero, List.map_nil, List.append_nil]; exact this)
      clear hR
      go_wp2_with fail
      go_loopw [38, 10] (fun i _ wr => ∃ k : Nat, k ≤ m ∧ i = .int .i64 (k : Int) ∧ Hid (DurR w2 (a ++ (b.take k).map negL) wr)) (fun i _ _ => m - (intOf i).toNat)
      case atStart => exact ⟨0, by omega, rfl, R1⟩
      case round =>
        clear R1
        obtain ⟨j, hj, rfl, hR⟩ := hrel
        by_cases hlt : j < m
        · have hkl : j < b.length := by rw [lb.out]; exact hlt
          have htk := Lib.hid (take_neg b j hkl)
          have hbj := Lib.hid (HS2.out _ (lnAt_mem b j hkl))
          have hmt := Lib.hid (show ∀ x ∈ (b.take (j + 1)).map negL, x ∈ b.map negL from fun x hx => by
            obtain ⟨y, hy, rfl⟩ := List.mem_map.1 hx
            exact List.mem_map_of_mem (List.mem_of_mem_take hy))
          obtain ⟨b1, o1, rfl, hb1, _⟩ := M2.out.at_ (by omega)
          have q0 := (M2.out.below hR.out.bel).cell rowB_ok ln0 j 0 _ hlt rfl
          have q1 := (M2.out.below hR.out.bel).cell rowB_ok ln0 j 1 _ hlt rfl
          have q2 := (M2.out.below hR.out.bel).cell rowB_ok ln0 j 2 _ hlt rfl
          have hki : (j : Int) < (m : Int) := by omega
          generalize b.getD j ln0 = x at *
          obtain ⟨xa, xc, xm⟩ := x
          simp only [Nat.add_zero] at q0 q1 q2
          have hsx := Lib.hid (show ∀ x ∈ (a ++ (b.take j).map negL) ++ [(xa, xc, txt (- val xm))], Sml x from fun x hx => HSM.out x (by
            rw [List.append_assoc] at hx
            rcases List.mem_append.1 hx with h | h
            · exact List.mem_append_left _ h
            · exact List.mem_append_right _ (hmt.out x (by rw [htk.out]; exact h))))
          have hll := Lib.hid (show (a ++ (b.take j).map negL).length < 10000 by rw [List.length_append, List.length_map, List.length_take, la.out]; omega)
          have HR3 := Lib.hid (hR.out.al (.cells #[.string ⟨xa.toArray⟩, .string ⟨xc.toArray⟩, .string ⟨xm.toArray⟩] 33))
          have HX := Lib.hid (cells3 (heap_alloc_new wr (.cells #[.string ⟨xa.toArray⟩, .string ⟨xc.toArray⟩, .string ⟨xm.toArray⟩] 33))).1
          obtain ⟨y0, y1, y2⟩ := HX.out
          have ly := block_lt_of_cell y0
          have hbm : w2.heap.size < wr.heap.size := NmR.lt hR.out.map
          have HNE := Lib.hid (show some wr.heap.size ≠ some w2.heap.size from fun e => by have := Option.some.inj e; omega)
          have HNG := Lib.hid (fun W hb => Neg_any ⟨xm.toArray⟩ W (by show xm.toArray.size ≤ 120; rw [List.size_toArray]; have := hbj.out.2; simp only at this; omega) (T2.out.below (HR3.out.next hb).bel))
          have HAD := Lib.hid (fun W hb => add_s w2.heap.size (a ++ (b.take j).map negL) xa xc (txt (- val xm)) W (HR3.out.next hb).map hsx.out hll.out (T2.out.below (HR3.out.next hb).bel))
          have HRX := Lib.hid (fun W W' hb h1 h2 => (show DurR w2 (a ++ (b.take (j + 1)).map negL) W' by rw [htk.out, ← List.append_assoc]; exact (HR3.out.next (W' := W) hb).add h1 h2))
          clear hR htk
          go_wp2_with fail
          generalize wr.alloc (.cells #[.string ⟨xa.toArray⟩, .string ⟨xc.toArray⟩, .string ⟨xm.toArray⟩] 33) = w3 at *
          generalize wr.heap.size = bx at *
          have HD := Lib.hid (Below.refl w3.heap.size w3)
          go_region_held3 (fun w' => w'.cell? ⟨bx, 0, none⟩ = some (.string ⟨xa.toArray⟩) ∧ w'.cell? ⟨bx, 1, none⟩ = some (.string ⟨xc.toArray⟩) ∧ w'.cell? ⟨bx, 2, none⟩ = some (.string ⟨xm.toArray⟩))
            (first | exact ⟨e0, e1, e2⟩ | exact ⟨g0, g1, g2⟩ | exact ⟨y0, y1, y2⟩ | go_keep)
            (first
              | (go_at_call 80; with_reducible refine (HNG.out _ ?_).mono ?_; · (first | exact HD.out | exact Below.drew HD.out)
                 rintro e w' ⟨rfl, hb⟩; have HD := Lib.hid (below_next HD.out hb ⟨rfl, rfl, rfl, rfl⟩); have g0 := (HD.out.cell ly).trans HX.out.1; have g1 := (HD.out.cell (p := ⟨bx, 1, none⟩) ly).trans HX.out.2.1; have g2 := (HD.out.cell (p := ⟨bx, 2, none⟩) ly).trans HX.out.2.2; clear hb)
              | (go_at_call 71; with_reducible refine (HAD.out _ ?_).mono ?_; · (first | exact HD.out | exact Below.drew HD.out)
                 rintro e w' ⟨rfl, h1, h2⟩; have RR := Lib.hid (HRX.out _ _ (by first | exact HD.out | exact Below.drew HD.out) h1 h2); have e0 := h2.cell (a := ⟨bx, 0, none⟩) g0 HNE.out; have e1 := h2.cell (a := ⟨bx, 1, none⟩) g1 HNE.out; have e2 := h2.cell (a := ⟨bx, 2, none⟩) g2 HNE.out; clear h1 h2))
          go_wp2_with fail
          exact ⟨⟨j + 1, by omega, by go_num, RR⟩, by simp [intOf]; omega⟩
        · have hjn : j = m := by omega
          subst hjn
          have hji : ¬ (j : Int) < (j : Int) := by omega
          have e : b.take j = b := List.take_of_length_le (by rw [lb.out]; exact Nat.le_refl _)
          have hRk := hR.out
          rw [e] at hRk
          have HLS := Lib.hid (list_s w2.heap.size _ wr hRk.map HSM.out (by rw [List.length_append, List.length_map, la.out, lb.out]; omega) HCN2.out)
          have HBk := Lib.hid hRk.bel
          clear hR hRk e
          go_wp2_with fail
          refine HLS.out.mono ?_
          rintro e w3 ⟨v, rfl, h1, h2⟩
          have H1 := Lib.hid (hv2.out v w3 (Row.Own.mono h1 HBk.out.size) (HBk.out.trans (h2.mono HBk.out.size)))
          clear h1 h2 HLS
          go_wp2_with fail
          exact H1.out
end Go.Proofs.YtohdpidlilhnjaaGreatDoor

/- The laws' fine; what it says of entries. -/
namespace Go.Proofs.YtohdpidlilhnjaaGreatDoor
open Go.RowKit Go.Maps Num

theorem great_parts {ps : List RE} (h : greatB ps = false) : ps.length ≤ 10 ∧ ∀ p ∈ ps, Fit p.2.2.1 p.2.2.2 := by
  unfold greatB at h
  rw [Bool.or_eq_false_iff] at h
  refine ⟨Nat.not_lt.1 (of_decide_eq_false h.1), fun p hp => ?_⟩
  have := List.any_eq_false.1 h.2 p hp
  exact g1_fit (by simpa [grB] using this)
theorem great_res {w : World} {A : Option Addr} {n c : Nat} {ps : List RE} (hl : rowE.Rds w A n c ps) (hr : ∀ p ∈ ps, RdG w p) (h : greatB ps = false) : Res w A n c ps :=
  ⟨hl, fun p hp => ⟨(hr p hp).1, (hr p hp).2.1, ((great_parts h).2 p hp).lns (hr p hp).2.2⟩⟩
def fineB (ps : List RE) : Bool := !greatB ps && !ps.any badR
theorem fine_parts {ps : List RE} (h : fineB ps = true) : greatB ps = false ∧ OkL (ps.map Prod.snd) := by
  unfold fineB at h
  rw [Bool.and_eq_true_iff] at h
  exact ⟨by simpa using h.1, areEn_ok.1 h.2⟩
theorem RdG.below {w w' : World} {p : RE} (h : RdG w p) (hb : Below w.heap.size w w') : RdG w' p := ⟨h.1, h.2.1, h.2.2.below hb⟩
set_option maxRecDepth 100000 in
set_option maxHeartbeats 1000000 in
theorem fine_any (A : Option Addr) (n c : Nat) (ps : List RE) (w : World) (hl : rowE.Rds w A n c ps) (hr : ∀ p ∈ ps, RdG w p) (ht : Tab w) (hm : ML w) :
    Calls Tryz.prog 12 #[.slice A n c] w (BoolPost (fineB ps) w) := by
  have HG := Lib.hid (rgreat_any A n c ps w hl hr)
  have HF := Lib.hid (show fineB ps = (!greatB ps && !ps.any badR) from rfl)
  cases hg : greatB ps
  · have hn : n ≤ 1000 := by rw [← hl.len]; have := (great_parts hg).1; omega
    have HC := Lib.hid (fun W (h : Below w.heap.size w W) => con48 A n c ps W ((great_res hl hr hg).below h) (great_parts hg).2 hn (ht.below h) (hm.below h))
    rw [hg] at HG HF
    clear hl hr ht hm hg
    generalize fineB ps = r at *
    generalize ps.any badR = ba at *
    cases ba
    · have hv := Lib.hid (show r = true from HF.out)
      go_enter Tryz.func12, Tryz.ntmps12
      go_wp2_with fail
      refine HG.out.mono ?_
      rintro e w1 ⟨rfl, hb⟩
      have B1 := Lib.hid hb
      clear hb HG
      go_wp2_with fail
      refine (HC.out _ B1.out).mono ?_
      rintro e w2 ⟨rfl, hb⟩
      have B2 := Lib.hid (below_next B1.out hb ⟨rfl, rfl, rfl, rfl⟩)
      clear hb HC
      go_wp2_with fail
      go_ret
      exact ⟨by rw [hv.out]; rfl, B2.out⟩
    · have hv := Lib.hid (show r = false from HF.out)
      go_enter Tryz.func12, Tryz.ntmps12
      go_wp2_with fail
      refine HG.out.mono ?_
      rintro e w1 ⟨rfl, hb⟩
      have B1 := Lib.hid hb
      clear hb HG
      go_wp2_with fail
      refine (HC.out _ B1.out).mono ?_
      rintro e w2 ⟨rfl, hb⟩
      have B2 := Lib.hid (below_next B1.out hb ⟨rfl, rfl, rfl, rfl⟩)
      clear hb HC
      go_wp2_with fail
      go_ret
      exact ⟨by rw [hv.out]; rfl, B2.out⟩
  · rw [hg] at HG HF
    have hv := Lib.hid (show fineB ps = false from HF.out)
    clear hl hr ht hm hg HF
    generalize fineB ps = r at *
    go_enter Tryz.func12, Tryz.ntmps12
    go_wp2_with fail
    refine HG.out.mono ?_
    rintro e w1 ⟨rfl, hb⟩
    have B1 := Lib.hid hb
    clear hb HG
    go_wp2_with fail
    go_ret
    exact ⟨by rw [hv.out]; rfl, B1.out⟩
end Go.Proofs.YtohdpidlilhnjaaGreatDoor

/- Contract of the reference's Amount. -/
namespace Go.Proofs.YtohdpidlilhnjaaGreatDoor
open Go.RowKit Go.Maps Num

theorem tot_13 (l : List Ln) (h : ∀ x ∈ l, x.2.2.length ≤ 13) (k : Ky) : (tot l k).natAbs ≤ l.length * num13 := by
  induction l with
  | nil => simp [tot]
  | cons x r ih =>
    have h1 := val_13 (h x (by simp))
    have h2 := ih fun y hy => h y (List.mem_cons_of_mem _ hy)
    rw [tot_cons, List.length_cons, Nat.add_mul]
    split <;> omega
/-- the amount of a place over the first k lines -/
def amtK (l : List Ln) (q : Ky) (k : Nat) : List UInt8 := txt (tot (l.take k) q)
theorem amtK_zero (l : List Ln) (q : Ky) : amtK l q 0 = [] := txt_zero
theorem amtK_next (l : List Ln) (q : Ky) (k : Nat) (h : k < l.length) : amtK l q (k + 1) = if key (l.getD k ln0) = q then txt (val (amtK l q k) + val (l.getD k ln0).2.2) else amtK l q k := by
  unfold amtK
  rw [take_ln l k h, tot_snoc, val_txt]
  split
  · rfl
  · rw [Int.add_zero]
theorem amtK_sm (l : List Ln) (q : Ky) (k : Nat) (h : ∀ x ∈ l, x.2.2.length ≤ 13) (hn : l.length ≤ 1000) : (dgs (amtK l q k)).length ≤ 17 ∧ (amtK l q k).length ≤ 1000000 := by
  have h1 := tot_13 (l.take k) (fun x hx => h x (List.mem_of_mem_take hx)) q
  have h2 : (l.take k).length * num13 ≤ 1000 * num13 := Nat.mul_le_mul_right _ (by rw [List.length_take]; omega)
  have h3 : 1000 * num13 < 10 ^ 17 := by decide
  have h4 : (tot (l.take k) q).natAbs < 10 ^ 17 := by omega
  exact ⟨dgs_txt_len h4, by have := txt_bd h4; unfold amtK; omega⟩
set_option maxRecDepth 100000 in
set_option maxHeartbeats 4000000 in
theorem ramt_any (d : Int) (cz : List UInt8) (A : Option Addr) (n c : Nat) (l : List Ln) (ka kc : List UInt8) (w : World) (hl : Lns w A n c l) (hs : ∀ x ∈ l, x.2.2.length ≤ 13) :
    Calls Tryz.prog 91 #[.agg (enV d cz A n c), .string ⟨ka.toArray⟩, .string ⟨kc.toArray⟩] w (StrPost (txt (tot l (ka, kc))) w) := by
  have hn := hl.small
  have ll := Lib.hid hl.len
  have hB0 : Below w.heap.size w (w.alloc (.cells #[.int .i64 d, .string ⟨cz.toArray⟩, .slice A n c] 39)) := (Below.refl _ w).alloc (Nat.le_refl _) _
  have hx : (w.alloc (.cells #[.int .i64 d, .string ⟨cz.toArray⟩, .slice A n c] 39)).cell? ⟨w.heap.size, 2, none⟩ = some (.slice A n c) := by go_simp
  have HP := Lib.hid (fun W (hb : Below w.heap.size w W) => (show StrPost (txt (tot l (ka, kc))) w (.returned (.string ⟨(amtK l (ka, kc) n).toArray⟩)) W from ⟨by unfold amtK; rw [List.take_of_length_le (by rw [hl.len]; exact Nat.le_refl _)], hb⟩))
  generalize StrPost (txt (tot l (ka, kc))) w = Post at *
  have B0 := Lib.hid hB0
  have X0 := Lib.hid hx
  have L1 := Lib.hid hl
  have HS := Lib.hid hs
  have Z0 := Lib.hid (amtK_zero l (ka, kc))
  clear hl hs hB0
  unfold enV
  go_enter Tryz.func91, Tryz.ntmps91
  go_wp2_with fail
  generalize w.alloc (.cells #[.int .i64 d, .string ⟨cz.toArray⟩, .slice A n c] 39) = w1 at *
  clear hx
  go_loopw [7, 8] (fun s i wr => ∃ k : Nat, k ≤ n ∧ i = .int .i64 (k : Int) ∧ s = .string ⟨(amtK l (ka, kc) k).toArray⟩ ∧ Hid (Below w1.heap.size w1 wr)) (fun _ i _ => n - (intOf i).toNat)
  case atStart => exact ⟨0, by omega, rfl, by rw [Z0.out], Lib.hid (Below.refl _ _)⟩
  case round =>
    obtain ⟨k, hk, rfl, rfl, HC⟩ := hrel
    have HB := Lib.hid (below_next B0.out HC.out ⟨rfl, rfl, rfl, rfl⟩)
    have a02 := (HC.out.cell (p := ⟨w.heap.size, 2, none⟩) (block_lt_of_cell X0.out)).trans X0.out
    by_cases hlt : k < n
    · have hkl : k < l.length := by rw [ll.out]; exact hlt
      obtain ⟨b1, o1, rfl, hb1, hc1⟩ := L1.out.at_ (by omega)
      obtain ⟨q0, q1, q2⟩ := hc1 k hlt
      have r0 := (HB.out.cell (p := ⟨b1, o1 + k * 3, none⟩) hb1).trans q0
      have r1 := (HB.out.cell (p := ⟨b1, o1 + k * 3 + 1, none⟩) hb1).trans q1
      have r2 := (HB.out.cell (p := ⟨b1, o1 + k * 3 + 2, none⟩) hb1).trans q2
      have hki : (k : Int) < (n : Int) := by omega
      have HNX := Lib.hid (amtK_next l (ka, kc) k hkl)
      have HSM := Lib.hid (amtK_sm l (ka, kc) k HS.out (by rw [ll.out]; exact hn))
      have H13 := Lib.hid (HS.out _ (lnAt_mem l k hkl))
      clear q0 q1 q2 hc1 hkl
      generalize l.getD k ln0 = y at *
      obtain ⟨ya, yc, ym⟩ := y
      simp only at r0 r1 r2 HNX H13
      obtain ⟨S2, hS2⟩ : ∃ S2, amtK l (ka, kc) (k + 1) = S2 := ⟨_, rfl⟩
      rw [hS2] at HNX
      have HS2 := Lib.hid hS2
      clear hS2
      by_cases ha : ya = ka
      · subst ha
        by_cases hc : yc = kc
        · subst hc
          have e := HNX.out
          rw [if_pos (show key (ya, yc, ym) = (ya, yc) from rfl)] at e
          have HA := Lib.hid (fun W => radd_any (amtK l (ya, yc) k) ym W HSM.out.2 (by have := H13.out; omega) HSM.out.1 (dgs_13 H13.out))
          unfold RetP at HA
          rw [← e] at HA
          clear e HNX HSM
          generalize amtK l (ya, yc) k = S at *
          go_wp2_with fail
          refine (HA.out _).mono ?_
          rintro e w' ⟨rfl, rfl⟩
          go_wp2_with fail
          go_roundw
          case rel => exact ⟨k + 1, by omega, by go_num, by rw [HS2.out], HC⟩
          case measure => simp [intOf]; omega
        · have hcb : (yc == kc) = false := beq_eq_false_iff_ne.2 hc
          have e := HNX.out
          rw [if_neg (fun h => hc (congrArg Prod.snd h))] at e
          clear HSM
          generalize amtK l (ya, kc) k = S at *
          subst e
          clear HNX
          go_wp2_with fail
          go_roundw
          case rel => exact ⟨k + 1, by omega, by go_num, by rw [HS2.out], HC⟩
          case measure => simp [intOf]; omega
      · have hab : (ya == ka) = false := beq_eq_false_iff_ne.2 ha
        have e := HNX.out
        rw [if_neg (fun h => ha (congrArg Prod.fst h))] at e
        clear HSM
        generalize amtK l (ka, kc) k = S at *
        subst e
        clear HNX
        go_wp2_with fail
        go_roundw
        case rel => exact ⟨k + 1, by omega, by go_num, by rw [HS2.out], HC⟩
        case measure => simp [intOf]; omega
    · have hkn : k = n := by omega
      subst hkn
      have hki : ¬ (k : Int) < (k : Int) := by omega
      generalize amtK l (ka, kc) k = S at *
      go_wp2_with fail
      exact HP.out _ HB.out
end Go.Proofs.YtohdpidlilhnjaaGreatDoor

/- Arguments that are entries, or slices of entries, opened. -/
namespace Go.Proofs.YtohdpidlilhnjaaGreatDoor
open Go.RowKit Go.Maps Go.WideShapes Go.ChangeShapes Go.ChangeAt Go.Deep Num

theorem c9 : Tryz.prog.cellsOf 9 = 1 := by kernel_rfl
theorem c30 : Tryz.prog.cellsOf 37 = 1 := by kernel_rfl
theorem c29 : Tryz.prog.cellsOf 23 = 1 := by kernel_rfl
theorem c40 : Tryz.prog.cellsOf 31 = 1 := by kernel_rfl
theorem c45 : Tryz.prog.cellsOf 40 = 3 := by kernel_rfl
theorem c32 : Tryz.prog.cellsOf 39 = 3 := by kernel_rfl
theorem Row.Rds.mk_cells {α : Type} {R : Row α} (ok : R.Ok) (x0 : α) {W : World} {b o n c : Nat} {l : List α} (hl : l.length = n) (hc : n ≤ c) (ht : c ≤ maxLen) (hb : 0 < n → b < W.heap.size)
    (hx : ∀ k j, k < n → j < R.k → W.cell? ⟨b, o + k * R.k + j, none⟩ = (R.enc (l.getD k x0))[j]?) : R.Rds W (some ⟨b, o, none⟩) n c l :=
  ⟨hl, hc, ht, fun h0 => ⟨b, o, rfl, hb h0, fun j u hu => by
    have hj := (List.getElem?_eq_some_iff.1 hu).1
    rw [Row.vs_len ok, hl] at hj
    have k0 := ok.k0
    have hj2 : j / R.k < n := Nat.div_lt_of_lt_mul (by rwa [Nat.mul_comm] at hj)
    have h3 : j % R.k < R.k := Nat.mod_lt _ k0
    have e1 := Row.vs_at ok x0 l (j / R.k) (j % R.k) (by rw [hl]; exact hj2) h3
    have e2 : j / R.k * R.k + j % R.k = j := by rw [Nat.mul_comm]; exact Nat.div_add_mod j R.k
    rw [e2, hu] at e1
    have e3 := hx (j / R.k) (j % R.k) hj2 h3
    rw [Nat.add_assoc, e2] at e3
    rw [e3, e1]⟩⟩
section
variable {H : Type} {enc : TypeId × Value → H} {W : World} {sp : Nat → Bool} {held : Bool}
/-- a slice whose elements have three cells each -/
theorem trod_rows {α : Type} [Inhabited α] {R : Row α} (ok : R.Ok) (h3 : R.k = 3) (x0 : α) (Pq : α → Prop) {t e : TypeId} (ht : Tryz.prog.underlying t = some (.slice e)) (ce : Tryz.prog.cellsOf e = 3)
    (hel : ∀ (fuel : Nat) (v0 v1 v2 : Value) (y : DataW H × List MemPlace), DataW.trod enc Tryz.prog W 0 sp held fuel e [v0, v1, v2] = some y → ∃ x : α, R.enc x = [v0, v1, v2] ∧ Pq x)
    {fuel : Nat} {v : Value} {x : DataW H × List MemPlace} (h : DataW.trod enc Tryz.prog W 0 sp held fuel t [v] = some x) :
    ∃ A n c l, v = .slice A n c ∧ R.Rds W A n c l ∧ ∀ q ∈ l, Pq q := by
  rcases open_slice ht h with ⟨hcs, _⟩ | ⟨a, len, cap, m, k, D, Pl, hcs, _, hl, hm, hmm, _, hx⟩
  · simp only [List.cons.injEq, and_true] at hcs
    exact ⟨none, 0, 0, [], hcs, ⟨rfl, Nat.le_refl _, by unfold maxLen; omega, fun h => absurd h (Nat.lt_irrefl 0)⟩, fun q hq => (List.not_mem_nil hq).elim⟩
  · simp only [List.cons.injEq, and_true] at hcs
    have hlm : len ≤ m := by rw [hmm]; split <;> omega
    have key : ∀ i, i < len → ∃ x : α, (∀ j, j < 3 → W.cell? (a.add (i * 3 + j)) = (R.enc x)[j]?) ∧ Pq x := fun i hi => by
      obtain ⟨cs', h1, h2⟩ := hx i (by omega)
      rw [ce] at h1
      obtain ⟨_, hlen, hcell⟩ := World.cells?_some h1
      match cs', hlen with
      | [v0, v1, v2], _ =>
        obtain ⟨x, e1, hP⟩ := hel _ _ _ _ _ h2
        refine ⟨x, fun j hj => ?_, hP⟩
        have e0 := hcell j hj
        rw [add_add] at e0
        rw [e0, e1]
    obtain ⟨q, hq⟩ := choose_lt key
    refine ⟨some a, len, cap, (List.range len).map q, hcs, ?_, fun z hz => ?_⟩
    · obtain ⟨b, off, spot⟩ := a
      have hcell0 : 0 < len → ∃ u, W.cell? ((⟨b, off, spot⟩ : Addr).add 0) = some u := fun h0 => by
        have := (hq 0 h0).1 0 (by omega)
        rw [Nat.zero_mul, Nat.zero_add] at this
        have h4 : 0 < (R.enc (q 0)).length := by rw [ok.hk, h3]; omega
        rw [List.getElem?_eq_getElem h4] at this
        exact ⟨_, this⟩
      by_cases h0 : 0 < len
      · obtain ⟨u, hu⟩ := hcell0 h0
        have hspot : spot = none := by simpa [Addr.add] using World.cell?_spot hu
        subst hspot
        refine Row.Rds.mk_cells ok x0 (by simp) hl hm (fun _ => block_lt_of_cell hu) fun i j hi hj => ?_
        rw [h3] at hj ⊢
        have := (hq i hi).1 j hj
        rw [add_plain] at this
        rw [List.getD_eq_getElem?_getD, List.getElem?_map, List.getElem?_range hi, Nat.add_assoc]
        exact this
      · exact ⟨by simp, hl, hm, fun h => absurd h h0⟩
    · obtain ⟨i, hi, rfl⟩ := List.mem_map.1 hz
      exact (hq i (List.mem_range.1 hi)).2
theorem trod_lines {fuel : Nat} {v : Value} {x : DataW H × List MemPlace} (h : DataW.trod enc Tryz.prog W 0 sp held fuel 37 [v] = some x) :
    ∃ A n c l, v = .slice A n c ∧ rowL.Rds W A n c l := by
  obtain ⟨A, n, c, l, h1, h2, _⟩ := trod_rows rowL_ok rfl ln0 (fun _ => True) Tryz.underlying37 c45 (fun fuel v0 v1 v2 y hy => by
    obtain ⟨y0, y1, y2, k', _, _, t0, t1, t2⟩ := trod_struct3 Tryz.underlying40 hy
    obtain ⟨s0, e0, _⟩ := DataW.trod_string Tryz.underlying9 t0
    obtain ⟨s1, e1, _⟩ := DataW.trod_string Tryz.underlying9 t1
    obtain ⟨s2, e2, _⟩ := DataW.trod_string Tryz.underlying31 t2
    simp [c9, c40] at e0 e1 e2
    subst e0 e1 e2
    exact ⟨(s0.data.toList, s1.data.toList, s2.data.toList), rfl, trivial⟩) h
  exact ⟨A, n, c, l, h1, h2⟩
/-- the three cells of an entry -/
theorem trod_en {f0 f1 f2 : Nat} {v0 v1 v2 : Value} {y0 y1 y2 : DataW H × List MemPlace} (t0 : DataW.trod enc Tryz.prog W 0 sp held f0 23 [v0] = some y0) (t1 : DataW.trod enc Tryz.prog W 0 sp held f1 9 [v1] = some y1) (t2 : DataW.trod enc Tryz.prog W 0 sp held f2 37 [v2] = some y2) :
    ∃ d cz A n c l, v0 = .int .i64 d ∧ v1 = .string ⟨(cz : List UInt8).toArray⟩ ∧ v2 = .slice A n c ∧ rowL.Rds W A n c l ∧ cz.length ≤ maxLen := by
  obtain ⟨d, e0, _⟩ := DataW.trod_int Tryz.underlying23 t0
  obtain ⟨s, e1, _, hs⟩ := DataW.trod_string Tryz.underlying9 t1
  obtain ⟨A, n, c, l, e2, hl⟩ := trod_lines t2
  simp only [List.cons.injEq, and_true] at e0 e1
  exact ⟨d, s.data.toList, A, n, c, l, e0, e1, e2, hl, by show s.data.toList.length ≤ _; rw [Array.length_toList]; exact hs⟩
theorem trod_ens {fuel : Nat} {v : Value} {x : DataW H × List MemPlace} (h : DataW.trod enc Tryz.prog W 0 sp held fuel 22 [v] = some x) :
    ∃ A n c ps, v = .slice A n c ∧ rowE.Rds W A n c ps ∧ ∀ p ∈ ps, RdG W p ∧ p.2.2.1.length ≤ maxLen :=
  trod_rows (α := RE) rowE_ok rfl re0 (fun p => RdG W p ∧ p.2.2.1.length ≤ maxLen) Tryz.underlying22 c32 (fun fuel v0 v1 v2 y hy => by
    obtain ⟨y0, y1, y2, k', _, _, t0, t1, t2⟩ := trod_struct3 Tryz.underlying39 hy
    simp [c9, c29, c30] at t0 t1 t2
    obtain ⟨d, cz, A, n, c, l, rfl, rfl, rfl, hl, hz⟩ := trod_en t0 t1 t2
    exact ⟨((d, cz, A, n, c), (d, cz, l)), rfl, ⟨rfl, rfl, hl⟩, hz⟩) h

set_option maxRecDepth 100000 in
theorem arg_entry {r : Reach} {b0 : Nat} {v : Value} {d : DataW H} {p : List MemPlace} (hok : Value.okWide Tryz.prog W r b0 39 v) (h : DataW.Trod enc Tryz.prog W 0 sp held 39 v d p) :
    ∃ d cz A n c l, v = .agg (enV d cz A n c) ∧ rowL.Rds W A n c l := by
  obtain ⟨v0, v1, v2, y0, y1, y2, n, rfl, _, _, t0, t1, t2⟩ := Joins.open_agg3 Tryz.underlying39 (by kernel_rfl) c32 hok h
  obtain ⟨d, cz, A, n, c, l, rfl, rfl, rfl, hl, _⟩ := trod_en t0 t1 t2
  exact ⟨d, cz, A, n, c, l, rfl, hl⟩
set_option maxRecDepth 100000 in
theorem arg_entries {r : Reach} {b0 : Nat} {v : Value} {d : DataW H} {p : List MemPlace} (hok : Value.okWide Tryz.prog W r b0 22 v) (h : DataW.Trod enc Tryz.prog W 0 sp held 22 v d p) :
    ∃ A n c ps, v = .slice A n c ∧ rowE.Rds W A n c ps ∧ ∀ p ∈ ps, RdG W p ∧ p.2.2.1.length ≤ maxLen := by
  obtain ⟨a0, len, cap, rfl⟩ := okWide_slice Tryz.underlying22 hok
  obtain ⟨fuel, hf⟩ := h
  exact trod_ens hf
end
end Go.Proofs.YtohdpidlilhnjaaGreatDoor

/- Arguments that are lists of balances, or periods, opened. -/
namespace Go.Proofs.YtohdpidlilhnjaaGreatDoor
open Go.RowKit Go.Maps Go.WideShapes Go.ChangeShapes Go.ChangeAt Go.Deep Num

theorem c33 : Tryz.prog.cellsOf 33 = 3 := by kernel_rfl
theorem c59 : Tryz.prog.cellsOf 59 = 2 := by kernel_rfl
section
variable {H : Type} {enc : TypeId × Value → H} {W : World} {sp : Nat → Bool} {held : Bool}
theorem trod_bals {fuel : Nat} {v : Value} {x : DataW H × List MemPlace} (h : DataW.trod enc Tryz.prog W 0 sp held fuel 26 [v] = some x) :
    ∃ A n c l, v = .slice A n c ∧ rowB.Rds W A n c l := by
  obtain ⟨A, n, c, l, h1, h2, _⟩ := trod_rows rowB_ok rfl ln0 (fun _ => True) Tryz.underlying26 c33 (fun fuel v0 v1 v2 y hy => by
    obtain ⟨y0, y1, y2, k', _, _, t0, t1, t2⟩ := trod_struct3 Tryz.underlying33 hy
    obtain ⟨s0, e0, _⟩ := DataW.trod_string Tryz.underlying9 t0
    obtain ⟨s1, e1, _⟩ := DataW.trod_string Tryz.underlying9 t1
    obtain ⟨s2, e2, _⟩ := DataW.trod_string Tryz.underlying31 t2
    simp [c9, c40] at e0 e1 e2
    subst e0 e1 e2
    exact ⟨(s0.data.toList, s1.data.toList, s2.data.toList), rfl, trivial⟩) h
  exact ⟨A, n, c, l, h1, h2⟩
set_option maxRecDepth 100000 in
theorem arg_balances {r : Reach} {b0 : Nat} {v : Value} {d : DataW H} {p : List MemPlace} (hok : Value.okWide Tryz.prog W r b0 26 v) (h : DataW.Trod enc Tryz.prog W 0 sp held 26 v d p) :
    ∃ A n c l, v = .slice A n c ∧ rowB.Rds W A n c l := by
  obtain ⟨a0, len, cap, rfl⟩ := okWide_slice Tryz.underlying26 hok
  obtain ⟨fuel, hf⟩ := h
  exact trod_bals hf
end
end Go.Proofs.YtohdpidlilhnjaaGreatDoor

/- The row's last step for a law: true, the arguments as they were, of the world Below is known. Arguments that are slices of strings. -/
namespace Go.Proofs.YtohdpidlilhnjaaGreatDoor
open Go.RowKit Go.WideShapes Go.ChangeShapes Go.ChangeAt
section
variable {H : Type} {enc : TypeId × Value → H} {P : Program}
theorem post_of_below {f : Func} {s : ChangeSpec} {apart fresh handsOn again : Bool} {W W' : World} {args : Array Value} {v : Value} {ds gs : List (DataW H)} {before pa pv : List MemPlace}
    (hW : DataW.Whole enc P f.params.toList s.vars apart W args.toList ds gs before)
    (hres : ∀ (b : Nat) (sp : Nat → Bool) (hd : Bool), DataW.TrodAll enc P W' b sp hd f.resultTypes.toList (v.resultList f.resultTypes.size) (s.fn H (ds ++ gs)).results [])
    (hargs : ∀ sp : Nat → Bool, (∀ p ∈ before, sp p.block = true) → DataW.TrodAll enc P W' 0 sp true f.params.toList args.toList (s.fn H (ds ++ gs)).args pa)
    (hvars : ∀ sp : Nat → Bool, (∀ p ∈ before, sp p.block = true) → DataW.TrodVars enc P W' sp s.vars (s.fn H (ds ++ gs)).vars pv)
    (hps : before = pa ++ pv) (hb : Below W.heap.size W W')
    (hok : ∀ (j : Nat) (t : TypeId) (r : Value), f.resultTypes[j]? = some t → (v.resultList f.resultTypes.size)[j]? = some r → Value.okWide P W' .any 0 t r) :
    s.post enc P f apart fresh handsOn again W args v W' := by
  have hlt : ∀ p ∈ before, p.block < W.heap.size := fun p hp => hW.lt p hp
  have hold : ∀ p ∈ before, (fun b => decide (b < W.heap.size)) p.block = true := fun p hp => by simpa using hlt p hp
  refine ⟨ds, gs, before, [], pa, pv, hW, hres _ _ _, hargs _ hold, hvars _ hold, World.keptBut_mono (fun p hp => ⟨hp, ?_⟩) (hb.frame (· ∈ before)), fun _ => ?_⟩
  · rw [hps, List.mem_append] at hp
    exact Or.inr hp
  · obtain ⟨_, _, _, _, _, hz, hn⟩ := hW
    refine ⟨hok, _, _, ([] ++ pa) ++ pv, ⟨[] ++ pa, pv, trodAll_append (hargs _ (fun _ _ => rfl)) (hres _ _ _), hvars _ (fun _ _ => rfl), rfl, ?_, ?_⟩, ?_⟩
    · intro b off hp
      have hin : MemPlace.cell b off ∈ before := by rw [hps]; simpa using hp
      rw [hb.frozen (hlt _ hin)]
      exact hz b off hin
    · intro ha
      have := hn ha
      rw [hps] at this
      simpa using this
    · intro p hp _
      rw [hps]
      simpa using hp
theorem trodAll_stays (hl : laidOutB P = true) {W W' : World} (hb : Below W.heap.size W W') {sp : Nat → Bool} : ∀ {ts : List TypeId} {vs : List Value} {ds : List (DataW H)} {ps : List MemPlace},
    (∀ t ∈ ts, P.readableRec t = true ∧ t < P.types.size) → DataW.TrodAll enc P W 0 (fun _ => true) true ts vs ds ps → (∀ x ∈ ps, x.block < W.heap.size) → (∀ x ∈ ps, sp x.block = true) → DataW.TrodAll enc P W' 0 sp true ts vs ds ps
  | [], vs, ds, ps, _, h, _, _ => by
    obtain ⟨rfl, rfl, rfl⟩ := trodAll_nil h
    exact trodAll_mk0
  | t :: ts, vs, ds, ps, hr, h, hlt, hsp => by
    obtain ⟨v, vs', d, ds', p, q, rfl, rfl, rfl, h0, r0⟩ := trodAll_cons h
    obtain ⟨h1, h2⟩ := hr t (by simp)
    refine trodAll_cons_mk (WideElems.Trod_stays hl h1 h2 h0 (fun x hx => hb.same (hlt x (by simp [hx]))) (fun x hx => hsp x (by simp [hx]))) (trodAll_stays hl hb (fun t' ht' => hr t' (by simp [ht'])) r0 (fun x hx => hlt x (by simp [hx])) (fun x hx => hsp x (by simp [hx])))
theorem post_true {f : Func} {s : ChangeSpec} {apart fresh handsOn again : Bool} {W W' : World} {args : Array Value} {ds gs : List (DataW H)} {before : List MemPlace} {tb : TypeId}
    (hW : DataW.Whole enc P f.params.toList s.vars apart W args.toList ds gs before) (hv : s.vars = []) (hl : laidOutB P = true) (hr : (f.params.toList.all fun t => P.readableRec t && decide (t < P.types.size)) = true)
    (hrt : f.resultTypes = #[tb]) (htb : P.underlying tb = some .bool) (hfn : (s.fn H (ds ++ gs)).results = [.lit (.bool true)] ∧ (s.fn H (ds ++ gs)).args = ds ∧ (s.fn H (ds ++ gs)).vars = [])
    (hb : Below W.heap.size W W') : s.post enc P f apart fresh handsOn again W args (.bool true) W' := by
  have hW' := hW
  have hlt : ∀ p ∈ before, p.block < W.heap.size := fun p hp => hW.lt p hp
  obtain ⟨p, q, hA, hV, rfl, hfz, hnd⟩ := hW
  rw [hv] at hV
  obtain ⟨rfl, rfl⟩ := trodVars_none hV
  have hr' : ∀ t ∈ f.params.toList, P.readableRec t = true ∧ t < P.types.size := fun t ht => by
    have := List.all_eq_true.1 hr t ht
    simpa using this
  refine post_of_below (pa := p) (pv := []) hW' ?_ ?_ ?_ rfl hb ?_
  · intro b sp hd
    rw [hfn.1, hrt]
    exact trodAll_cons_mk (shut_bool htb _) trodAll_mk0
  · intro sp hsp
    rw [hfn.2.1]
    exact trodAll_stays hl hb hr' hA (fun x hx => hlt x (by simp [hx])) (fun x hx => hsp x (by simp [hx]))
  · intro sp _
    rw [hfn.2.2, hv]
    rfl
  · exact ok_one hrt rfl (okWide_bool_mk htb _)
end
end Go.Proofs.YtohdpidlilhnjaaGreatDoor

/- What every row of this seat needs: the world's shape. -/
namespace Go.Proofs.YtohdpidlilhnjaaGreatDoor
open Go.RowKit Go.WideShapes Go.ChangeShapes Go.ChangeAt
theorem laid : laidOutB Tryz.prog = true := by kernel_rfl
theorem own : ownKnob Tryz.prog.godebug = none := by kernel_rfl
theorem ml_of {w : World} (h : w.ShapedOpen Tryz.prog) : ML w :=
  Go.Proofs.cell_of_shapedOpen_int (zero := #[.int .i64 0]) (t := 3) h (of_decide_eq_true (by kernel_rfl)) (by kernel_rfl) rfl (by kernel_rfl) (by kernel_rfl) Tryz.underlying3
end Go.Proofs.YtohdpidlilhnjaaGreatDoor

/- The frame of the cards of this seat. -/
namespace Go.Proofs.YtohdpidlilhnjaaGreatDoor
open Go.ChangeShapes Go.WideShapes Go.ChangeAt Go.RowKit
section
variable {H : Type} {enc : TypeId × Value → H}
/-- a row that lists variables, whose contract needs the shape of those that it does not list -/
theorem handed_both {a : Assume} {C : Checked} {os : Os} {f : FuncId} {fn : Func} {s : ChangeSpec} {conds : List PathCond} {apart fresh handsOn again : Bool} {X : World → Array Value → Prop}
    (hX : ∀ (w w' : World) (args : Array Value), w.heap = w'.heap → X w args → X w' args)
    (own : ownKnob C.prog.godebug = none) (started : os.Started) (noInit : C.prog.inits.idxOf? f = none) (hfn : C.prog.funcs[f]? = some fn)
    (witness : ∃ (w : World) (tape : Tape) (i : Input), w.os = os ∧ (w.forCall tape i).Shaped C.prog ∧ i.vars = [] ∧ Input.okWide C.prog (w.forCall tape i) .any w.heap.size f i ∧
      ((s.pre enc C.prog fn conds apart (w.forCall tape i).memory i.args ∧ X (w.forCall tape i).memory i.args) ∧ sizedMet enc C.prog fn (OpenSpec.ofChange s) apart (w.forCall tape i).memory i.args) ∧ a.holds C.prog (lone (Frame.enter C.prog f i.args .normal) [] (w.forCall tape i)))
    (contract : ∀ (W : World) (base : Nat) (args : Array Value) (ds gs : List (DataW H)) (before : List MemPlace),
      (∀ (j : Nat) t v, fn.params[j]? = some t → args[j]? = some v → Value.okWide C.prog W .any base t v) →
      DataW.Whole enc C.prog fn.params.toList s.vars apart W args.toList ds gs before → X W args → W.ShapedOpen C.prog →
      Calls C.prog f args W fun e W' => ∃ v, e = .returned v ∧ s.post enc C.prog fn apart fresh handsOn again W args v W') :
    ReturnsInHanded a C os f .any (fun w args => (s.pre enc C.prog fn conds apart w args ∧ X w args) ∧ sizedMet enc C.prog fn (OpenSpec.ofChange s) apart w args) (s.post enc C.prog fn apart fresh handsOn again) := by
  refine returnsInHanded_of_calls own started noInit witness ?_
  intro w tape i _ hsh _ hok hpre _
  obtain ⟨_, _, _, fn', hfn', _, _, _, _, hval⟩ := hok
  have e : fn' = fn := Option.some.inj (hfn'.symm.trans hfn)
  subst e
  obtain ⟨⟨⟨ds, gs, before, hw, _⟩, hx⟩, _⟩ := hpre
  refine (contract (w.forCall tape i) w.heap.size i.args ds gs before hval (DataW.Whole.of_heap (w' := w.forCall tape i) (by rfl) hw) (hX _ _ _ (by rfl) hx) hsh).mono fun e W' ⟨v, he, hp⟩ => ?_
  subst he
  exact ChangeSpec.post_blind hp
end
theorem gPowType : (Tryz.prog.globals[3]?).map (·.type) = some 258 := by kernel_rfl
theorem cells235 : Tryz.prog.cellsOf 258 = 20 := by kernel_rfl
theorem cells127 : Tryz.prog.cellsOf 138 = 1 := by kernel_rfl
theorem powData : (Rows.laid_internal_strconv_uint64pow10 : DataW Unit) = Lib.tabData .u64 Lib.pow10Tab := by kernel_rfl
/-- the table of the powers of ten, from the row's list -/
theorem tab_of {W : World} (h : laidMetH Tryz.prog Rows.ledgerZeroRow.laid W) : Tab W := by
  rw [MakeChecks.laidMetH_plain _ _ _ (by kernel_rfl)] at h
  have h1 : laidMet Tryz.prog (("math/bits.deBruijn32tab", Rows.laid_math_bits_deBruijn32tab) :: ("math/bits.deBruijn64tab", Rows.laid_math_bits_deBruijn64tab) :: ("internal/strconv.uint64pow10", Rows.laid_internal_strconv_uint64pow10) :: Rows.ledgerZeroRow.laid.drop 3) W := h
  have h2 := h1.tail.tail
  rw [powData] at h2
  exact Lib.tabIs_of_head gPow gPowType Tryz.underlying258 Tryz.underlying138 cells127 cells235 h2
end Go.Proofs.YtohdpidlilhnjaaGreatDoor
