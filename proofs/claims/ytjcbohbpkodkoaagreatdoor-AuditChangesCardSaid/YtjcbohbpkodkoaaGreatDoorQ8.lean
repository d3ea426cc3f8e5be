/- Contracts of ledger.during at the closures of Trial and Activity, ledger.valid, areEntries (printed by gen_dur.py). -/
import Derived.Test.YtjcbohbpkodkoaaGreatDoorQ7
import Derived.Test.YtjcbohbpkodkoaaGreatDoorQ2
import Derived.Deep.QuietTactic
import Derived.BigQuiet
import Derived.WalkKit
import Derived.Test.YtjcbohbpkodkoaaGreatDoorChecked
import Derived.Lib.Hide
import Derived.Deep.OwnRows
import Derived.StillTailTactics
import Derived.Deep.WholeRow
import Derived.Maps.RangeWalk
import Derived.Deep.RegionLaw
import Derived.Deep.DeepMust
namespace Go.Proofs.YtjcbohbpkodkoaaGreatDoor
open Go.RowKit Go.Maps Num

def valD (d : Int) : Bool := decide (-25567 ≤ d) && decide (d ≤ 84005)
set_option maxRecDepth 100000 in
theorem valid_any (d : Int) (w : World) : Calls Tryz.prog 71 #[.int .i64 d] w (RetP (.bool (valD d)) w) := by
  unfold valD
  by_cases h1 : -25567 ≤ d
  · have e1 := decide_eq_true h1
    by_cases h2 : d ≤ 84005
    · have e2 := decide_eq_true h2
      go_enter Tryz.func71, Tryz.ntmps71
      go_wp2_with fail
      go_ret
      exact ⟨by rw [e1, e2]; rfl, rfl⟩
    · have e2 := decide_eq_false h2
      go_enter Tryz.func71, Tryz.ntmps71
      go_wp2_with fail
      go_ret
      exact ⟨rfl, rfl⟩
  · have e1 := decide_eq_false h1
    go_enter Tryz.func71, Tryz.ntmps71
    go_wp2_with fail
    go_ret
    exact ⟨rfl, rfl⟩
set_option maxRecDepth 100000 in
theorem areEn_any (A : Option Addr) (n c : Nat) (ps : List RE) (w : World) (h : Res w A n c ps) (hz : ∀ p ∈ ps, p.2.2.1.length ≤ 1000) (hn : n ≤ 1000) (ht : Tab w) (hm : ML w) :
    Calls Tryz.prog 70 #[.slice A n c] w (BoolPost (!ps.any badR) w) := by
  have HI := Lib.hid (con101 A n c ps w h hz hn ht hm)
  clear h hz ht hm
  go_enter Tryz.func70, Tryz.ntmps70
  go_wp2_with fail
  refine HI.out.mono ?_
  rintro e w1 ⟨rfl, hb⟩
  have HB := Lib.hid hb
  clear hb HI
  go_wp2_with fail
  go_ret
  exact ⟨rfl, HB.out⟩
theorem areEn_ok {ps : List RE} : (!ps.any badR) = true ↔ OkL (ps.map Prod.snd) := by
  rw [Bool.not_eq_true', List.any_eq_false]
  constructor
  · intro h e he
    obtain ⟨p, hp, rfl⟩ := List.mem_map.1 he
    have := h p hp
    unfold badR at this
    rw [decide_eq_true_iff] at this
    exact decide_eq_true (Classical.not_not.1 this)
  · intro h p hp hb
    have := of_decide_eq_true (h _ (List.mem_map_of_mem hp))
    unfold badR at hb
    rw [decide_eq_true_iff] at hb
    exact hb this
theorem flat_take (ps : List RE) (k : Nat) (h : k < ps.length) (p : Int → Bool) : flat ((ps.take (k + 1)).map Prod.snd) p = flat ((ps.take k).map Prod.snd) p ++ if p (ps.getD k re0).2.1 then (ps.getD k re0).2.2.2 else [] := by
  rw [List.take_succ_eq_append_getElem h, List.map_append, flat_append, List.getD_eq_getElem?_getD, List.getElem?_eq_getElem h]
  simp [flat]
theorem flatE_len (l : List En) (p : Int → Bool) (h : ∀ e ∈ l, e.2.2.length ≤ 64) : (flat l p).length ≤ 64 * l.length := by
  induction l with
  | nil => simp [flat]
  | cons e r ih =>
    have h1 := h e (by simp)
    have h2 := ih fun x hx => h x (List.mem_cons_of_mem _ hx)
    rw [flat_cons, List.length_append, List.length_cons, Nat.mul_add]
    split
    · omega
    · simp; omega
theorem OkL.len {l : List En} (h : OkL l) : ∀ e ∈ l, e.2.2.length ≤ 64 := fun e he => (chkE_parts (of_decide_eq_true (h e he))).2.2.1
/-- what the loop over the entries keeps -/
structure DurR (w : World) (L : List Ln) (W : World) : Prop where
  map : SumM L w.heap.size W
  bel : Below w.heap.size w W
theorem DurR.next {w W W' : World} {L : List Ln} (h : DurR w L W) (hb : Below W.heap.size W W') : DurR w L W' := ⟨h.map.below hb, below_next h.bel hb ⟨rfl, rfl, rfl, rfl⟩⟩
theorem DurR.al {w W : World} {L : List Ln} (h : DurR w L W) (o : Obj) : DurR w L (W.alloc o) := h.next ((Below.refl _ W).alloc (Nat.le_refl _) o)
theorem DurR.add {w W W' : World} {L L' : List Ln} (h : DurR w L W) (h1 : SumM L' w.heap.size W') (hg : W.grownBy W' (some w.heap.size)) : DurR w L' W' := ⟨h1, below_grown h.bel (Nat.le_refl _) hg (Nat.le_refl _)⟩
theorem DurR.start (w : World) : DurR w [] (w.alloc (.map #[] 0)) := ⟨SumM.zero w, (Below.refl _ w).alloc (Nat.le_refl _) _⟩

set_option maxRecDepth 100000 in
set_option maxHeartbeats 8000000 in
theorem during56 (bp : Nat) (acc : Int → Bool) (A : Option Addr) (n c : Nat) (ps : List RE) (w : World) (h : Res w A n c ps) (hok : OkL (ps.map Prod.snd)) (hn : n ≤ 20) (ht : Tab w)
    (hacc : ∀ W d, Below w.heap.size w W → Calls Tryz.prog 73 #[.int .i64 d, .pointer (some ⟨bp, 0, none⟩)] W (RetP (.bool (acc d)) W)) :
    Calls Tryz.prog 72 #[.slice A n c, .func (.func 73) #[] #[.pointer (some ⟨bp, 0, none⟩)]] w (ListP (nrmL (flat (ps.map Prod.snd) acc)) w) := by
  have ll := Lib.hid h.rds.len
  have L1 := Lib.hid h
  have HT := Lib.hid ht
  have HOK := Lib.hid hok
  have HA := Lib.hid hacc
  have HFT := Lib.hid (fun k hk => flat_take ps k hk acc)
  have HFL := Lib.hid (show ∀ k, (flat ((ps.take k).map Prod.snd) acc).length ≤ 1280 from fun k => by
    have h1 := flatE_len ((ps.take k).map Prod.snd) acc fun e he => by
      obtain ⟨p, hp, rfl⟩ := List.mem_map.1 he
      exact hok.len _ (List.mem_map_of_mem (List.mem_of_mem_take hp))
    have h2 : ((ps.take k).map Prod.snd).length ≤ 20 := by rw [List.length_map, List.length_take]; have := h.rds.len; omega
    omega)
  have HSM := Lib.hid (show ∀ k, ∀ x ∈ flat ((ps.take k).map Prod.snd) acc, Sml x from fun k x hx => by
    obtain ⟨e, he, _, hx⟩ := flat_mem hx
    obtain ⟨p, hp, rfl⟩ := List.mem_map.1 he
    exact (h.all p (List.mem_of_mem_take hp)).2.2.sml x hx)
  have HP := Lib.hid (fun W v (h1 : rowB.Own w.heap.size W v (nrmL (flat (ps.map Prod.snd) acc))) (h2 : Below w.heap.size w W) => (show ListP (nrmL (flat (ps.map Prod.snd) acc)) w (.returned v) W from ⟨v, rfl, h1, h2⟩))
  clear h hok ht hacc
  generalize ListP (nrmL (flat (ps.map Prod.snd) acc)) w = Post at *
  have R0 := Lib.hid (show DurR w (flat ((ps.take 0).map Prod.snd) acc) (w.alloc (.map #[] 0)) from DurR.start w)
  have hmm := @run_makeMap Tryz.prog
  go_enter Tryz.func72, Tryz.ntmps72
  go_wp2_with fail
  go_loopw [13, 7] (fun i _ wr => ∃ k : Nat, k ≤ n ∧ i = .int .i64 (k : Int) ∧ Hid (DurR w (flat ((ps.take k).map Prod.snd) acc) wr)) (fun i _ _ => n - (intOf i).toNat)
  case atStart => exact ⟨0, by omega, rfl, R0⟩
  case round =>
    clear R0
    obtain ⟨k, hk, rfl, hR⟩ := hrel
    by_cases hlt : k < n
    · have hkl : k < ps.length := by rw [ll.out]; exact hlt
      have hmem := getD_mem re0 ps k hkl
      have hft := Lib.hid (HFT.out k hkl)
      have hfl := Lib.hid (HFL.out k)
      have hfs := Lib.hid (HSM.out k)
      have hfs1 := Lib.hid (HSM.out (k + 1))
      obtain ⟨b1, o1, rfl, hb1, _⟩ := L1.out.rds.at_ (by omega)
      have q0 := (L1.out.rds.below hR.out.bel).cell rowE_ok re0 k 0 _ hlt rfl
      have q1 := (L1.out.rds.below hR.out.bel).cell rowE_ok re0 k 1 _ hlt rfl
      have q2 := (L1.out.rds.below hR.out.bel).cell rowE_ok re0 k 2 _ hlt rfl
      have hrd := Lib.hid ((L1.out.all _ hmem))
      have hlen := Lib.hid (HOK.out.len _ (List.mem_map_of_mem hmem))
      have hki : (k : Int) < (n : Int) := by omega
      generalize ps.getD k re0 = p at *
      obtain ⟨⟨d1, z1, A1, n1, c1⟩, e1, f1, k1⟩ := p
      simp only [rawA, rawN, rawC, Nat.add_zero] at q0 q1 q2
      obtain ⟨h1, h2, h3⟩ := hrd.out
      simp only [rawA, rawN, rawC] at h1 h2 h3
      subst h1 h2
      have hlen1 : k1.length ≤ 64 := hlen.out
      have hlen2 := Lib.hid h3.len
      have hnn : n1 ≤ 64 := by rw [← h3.len]; exact hlen1
      have H3 := Lib.hid h3
      simp only at hft
      have HR1 := Lib.hid (hR.out.al (.cells #[.int .i64 d1, .string ⟨z1.toArray⟩, .slice A1 n1 c1] 40))
      have X0 := Lib.hid (heap_alloc_new wr (.cells #[.int .i64 d1, .string ⟨z1.toArray⟩, .slice A1 n1 c1] 40))
      have hsz : (wr.alloc (.cells #[.int .i64 d1, .string ⟨z1.toArray⟩, .slice A1 n1 c1] 40)).heap.size = wr.heap.size + 1 := by simp
      have HSZ := Lib.hid hsz
      have HCL := Lib.hid (fun W (hb : Below w.heap.size w W) => HA.out W d1 hb)
      clear h3 hrd hlen hmem hR hsz
      go_wp2_with fail
      refine (HCL.out _ HR1.out.bel).mono ?_
      rintro e w1 ⟨rfl, hw1⟩
      obtain ⟨⟨x0, x1, x2⟩, _⟩ := cells3 X0.out
      subst hw1
      generalize wr.alloc (.cells #[.int .i64 d1, .string ⟨z1.toArray⟩, .slice A1 n1 c1] 40) = w1 at *
      cases hac : acc d1
      · have hRk := Lib.hid (show DurR w (flat ((ps.take (k + 1)).map Prod.snd) acc) w1 by rw [hft.out, hac, if_neg (by decide), List.append_nil]; exact HR1.out)
        clear HCL
        go_wp2_with fail
        exact ⟨⟨k + 1, by omega, by go_num, hRk⟩, by simp [intOf]; omega⟩
      · have HK := Lib.hid (show flat ((ps.take (k + 1)).map Prod.snd) acc = flat ((ps.take k).map Prod.snd) acc ++ k1 by rw [hft.out, hac, if_pos rfl])
        have hs1 := Lib.hid (show ∀ x ∈ flat ((ps.take k).map Prod.snd) acc ++ k1, Sml x by rw [← HK.out]; exact hfs1.out)
        clear hft hfs hfs1 HCL
        generalize flat ((ps.take k).map Prod.snd) acc = F0 at *
        have R1 := Lib.hid (show DurR w (F0 ++ k1.take 0) w1 by rw [List.take_zero, List.append_nil]; exact HR1.out)
        go_wp2_with fail
        go_loopw [24, 9] (fun i _ wr => ∃ j : Nat, j ≤ n1 ∧ i = .int .i64 (j : Int) ∧ Hid (DurR w (F0 ++ k1.take j) wr)) (fun i _ _ => n1 - (intOf i).toNat)
        case atStart => exact ⟨0, by omega, rfl, R1⟩
        case round =>
          clear R1
          obtain ⟨j, hj, rfl, hR2⟩ := hrel
          by_cases hltj : j < n1
          · have hjl : j < k1.length := by rw [hlen2.out]; exact hltj
            have HL2 := Lib.hid (H3.out.below hR2.out.bel)
            obtain ⟨b2, o2, rfl, hb2, hc2⟩ := HL2.out.at_ (by omega)
            obtain ⟨u0, u1, u2⟩ := hc2 j hltj
            have hji : (j : Int) < (n1 : Int) := by omega
            have htk := Lib.hid (take_ln k1 j hjl)
            generalize k1.getD j ln0 = x at *
            obtain ⟨a, cu, m⟩ := x
            simp only at u0 u1 u2
            have hsx := Lib.hid (show ∀ x ∈ (F0 ++ k1.take j) ++ [(a, cu, m)], Sml x from fun x hx => hs1.out x (by
              rw [List.append_assoc, ← htk.out] at hx
              rcases List.mem_append.1 hx with h | h
              · exact List.mem_append_left _ h
              · exact List.mem_append_right _ (List.mem_of_mem_take h)))
            have hll := Lib.hid (show (F0 ++ k1.take j).length < 10000 by
              rw [List.length_append, List.length_take]
              have := hfl.out
              omega)
            have HR3 := Lib.hid (hR2.out.al (.cells #[.string ⟨a.toArray⟩, .string ⟨cu.toArray⟩, .string ⟨m.toArray⟩] 68))
            have Y0 := cells3 (heap_alloc_new wr (.cells #[.string ⟨a.toArray⟩, .string ⟨cu.toArray⟩, .string ⟨m.toArray⟩] 68))
            obtain ⟨⟨y0, y1, y2⟩, _⟩ := Y0
            have HAD := Lib.hid (add_s w.heap.size (F0 ++ k1.take j) a cu m _ HR3.out.map hsx.out hll.out (HT.out.below HR3.out.bel))
            have HRX := Lib.hid (fun W h1 h2 => (show DurR w (F0 ++ k1.take (j + 1)) W by rw [htk.out, ← List.append_assoc]; exact HR3.out.add h1 h2))
            clear hR2 htk q0 q1 q2 x0 x1 x2 hc2
            go_wp2_with fail
            refine HAD.out.mono ?_
            rintro e w2 ⟨rfl, h1, h2⟩
            have RR := Lib.hid (HRX.out w2 h1 h2)
            clear h1 h2 HAD
            go_wp2_with fail
            exact ⟨⟨j + 1, by omega, by go_num, RR⟩, by simp [intOf]; omega⟩
          · have hjn : j = n1 := by omega
            subst hjn
            have hji : ¬ (j : Int) < (j : Int) := by omega
            have hRk := Lib.hid (show DurR w (flat ((ps.take (k + 1)).map Prod.snd) acc) wr by
              have := hR2.out
              rw [List.take_of_length_le (by rw [hlen2.out]; exact Nat.le_refl _), ← HK.out] at this
              exact this)
            clear hR2
            go_wp2_with fail
            exact ⟨⟨k + 1, by omega, by go_num, hRk⟩, by simp [intOf]; omega⟩
    · have hkn : k = n := by omega
      subst hkn
      have hki : ¬ (k : Int) < (k : Int) := by omega
      have e : ps.take k = ps := List.take_of_length_le (by rw [ll.out]; exact Nat.le_refl _)
      have hsm := HSM.out k
      have hfl := HFL.out k
      have hRk := hR.out
      rw [e] at hsm hfl hRk
      have HLS := Lib.hid (list_s w.heap.size _ wr hRk.map hsm (by omega) (HOK.out.can acc))
      have HB := Lib.hid hRk.bel
      clear hR hRk hsm hfl e
      go_wp2_with fail
      refine HLS.out.mono ?_
      rintro e w2 ⟨v, rfl, h1, h2⟩
      have H1 := Lib.hid (Row.Own.mono h1 HB.out.size)
      have H2 := Lib.hid (HB.out.trans (h2.mono HB.out.size))
      clear h1 h2 HLS
      go_wp2_with fail
      exact HP.out _ _ H1.out H2.out

end Go.Proofs.YtjcbohbpkodkoaaGreatDoor

/- Contracts of ledger.Trial, Activity, Balance. -/
namespace Go.Proofs.YtjcbohbpkodkoaaGreatDoor
open Go.RowKit Go.Maps Num

/-- a list and a code are returned -/
def ListC (l : List Ln) (i : Int) (w : World) (e : Ending) (w' : World) : Prop := ∃ v, e = .returned (.tuple #[v, .int .i64 i]) ∧ rowB.Own w.heap.size w' v l ∧ Below w.heap.size w w'
def trL (es : List En) (d : Int) : List Ln := if es.all okE ∧ valD d = true then nrmL (flat es fun x => decide (x ≤ d)) else []
def trI (es : List En) (d : Int) : Int := if es.all okE = false then 1 else if valD d = false then 13 else 0
theorem bad_all (ps : List RE) : (!ps.any badR) = (ps.map Prod.snd).all okE := by
  induction ps with
  | nil => rfl
  | cons p r ih =>
    rw [List.any_cons, Bool.not_or, ih, List.map_cons, List.all_cons]
    congr 1
    unfold badR okE
    rw [decide_not, Bool.not_not]
theorem okL_all {es : List En} : es.all okE = true ↔ OkL es := List.all_eq_true
set_option maxRecDepth 100000 in
theorem clo56 (bp : Nat) (d x : Int) (W : World) (h : W.cell? ⟨bp, 0, none⟩ = some (.int .i64 d)) : Calls Tryz.prog 73 #[.int .i64 x, .pointer (some ⟨bp, 0, none⟩)] W (RetP (.bool (decide (x ≤ d))) W) := by
  generalize hr : decide (x ≤ d) = r
  go_enter Tryz.func73, Tryz.ntmps73
  go_wp2_with fail
  go_ret
  exact ⟨by simp, rfl⟩
set_option maxRecDepth 100000 in
set_option maxHeartbeats 4000000 in
theorem Trial_any (A : Option Addr) (n c : Nat) (ps : List RE) (d : Int) (w : World) (h : Res w A n c ps) (hz : ∀ p ∈ ps, p.2.2.1.length ≤ 1000) (hn : n ≤ 20) (ht : Tab w) (hm : ML w) :
    Calls Tryz.prog 41 #[.slice A n c, .int .i64 d] w (ListC (trL (ps.map Prod.snd) d) (trI (ps.map Prod.snd) d) w) := by
  have hB0 : Below w.heap.size w (w.alloc (.cells #[.int .i64 d] 37)) := (Below.refl _ w).alloc (Nat.le_refl _) _
  have x0 : (w.alloc (.cells #[.int .i64 d] 37)).cell? ⟨w.heap.size, 0, none⟩ = some (.int .i64 d) := by go_simp
  have hsz : (w.alloc (.cells #[.int .i64 d] 37)).heap.size = w.heap.size + 1 := by simp
  have HAE := Lib.hid (areEn_any A n c ps _ ⟨h.rds.below hB0, fun p hp => (h.all p hp).below hB0⟩ hz (by omega) (ht.below hB0) (hm.below hB0))
  have L1 := Lib.hid h
  have HT := Lib.hid ht
  have HP := Lib.hid (fun v i W (h1 : rowB.Own w.heap.size W v (trL (ps.map Prod.snd) d)) (h2 : Below w.heap.size w W) (hi : trI (ps.map Prod.snd) d = i) => (show ListC (trL (ps.map Prod.snd) d) (trI (ps.map Prod.snd) d) w (.returned (.tuple #[v, .int .i64 i])) W from ⟨v, by rw [hi], h1, h2⟩))
  have HL := Lib.hid (show trL (ps.map Prod.snd) d = if (ps.map Prod.snd).all okE ∧ valD d = true then nrmL (flat (ps.map Prod.snd) fun x => decide (x ≤ d)) else [] from rfl)
  have HI := Lib.hid (show trI (ps.map Prod.snd) d = if (ps.map Prod.snd).all okE = false then 1 else if valD d = false then 13 else 0 from rfl)
  have HOK := Lib.hid (okL_all (es := ps.map Prod.snd)).1
  rw [bad_all] at HAE
  have HVA := Lib.hid (fun W => valid_any d W)
  have HB0 := Lib.hid hB0
  clear h hz ht hm hB0
  generalize ListC (trL (ps.map Prod.snd) d) (trI (ps.map Prod.snd) d) w = Post at *
  generalize trI (ps.map Prod.snd) d = ri at *
  generalize trL (ps.map Prod.snd) d = rl at *
  generalize (ps.map Prod.snd).all okE = ok at *
  generalize valD d = vd at *
  go_enter Tryz.func41, Tryz.ntmps41
  go_wp2_with fail
  refine HAE.out.mono ?_
  rintro e w1 ⟨rfl, hb⟩
  have HB1 := Lib.hid (below_next HB0.out hb ⟨rfl, rfl, rfl, rfl⟩)
  have y0 := (hb.cell (p := ⟨w.heap.size, 0, none⟩) (by show w.heap.size < _; omega)).trans x0
  have hs1 : w.heap.size + 1 ≤ w1.heap.size := by have := hb.size; omega
  clear hb HAE x0 hsz HB0
  cases ok
  · have hv := Lib.hid (HP.out (.slice none 0 0) 1 w1 (by rw [HL.out, if_neg (by simp)]; exact Row.Own.nil _ _) HB1.out (by rw [HI.out, if_pos rfl]))
    go_wp2_with fail
    exact hv.out
  · go_wp2_with fail
    refine (HVA.out w1).mono ?_
    rintro e w2 ⟨rfl, rfl⟩
    cases vd
    · have hv := Lib.hid (HP.out (.slice none 0 0) 13 w1 (by rw [HL.out, if_neg (by simp)]; exact Row.Own.nil _ _) HB1.out (by rw [HI.out, if_neg (by decide), if_pos rfl]))
      go_wp2_with fail
      exact hv.out
    · have HDU := Lib.hid (during56 w.heap.size (fun x => decide (x ≤ d)) A n c ps w1 ⟨L1.out.rds.below HB1.out, fun p hp => (L1.out.all p hp).below HB1.out⟩ (HOK.out (by trivial)) hn (HT.out.below HB1.out) (fun W x hb => clo56 _ d x W ((hb.cell (p := ⟨w.heap.size, 0, none⟩) (by show w.heap.size < _; omega)).trans y0)))
      go_wp2_with fail
      refine HDU.out.mono ?_
      rintro e w3 ⟨v, rfl, h1, h2⟩
      have hv := Lib.hid (HP.out v 0 w3 (by rw [HL.out, if_pos (by simp)]; exact h1.mono HB1.out.size) (HB1.out.trans (h2.mono HB1.out.size)) (by rw [HI.out, if_neg (by decide), if_neg (by decide)]))
      clear h1 h2
      go_wp2_with fail
      exact hv.out
end Go.Proofs.YtjcbohbpkodkoaaGreatDoor

/- Contracts of ledger.Activity, Balance. -/
namespace Go.Proofs.YtjcbohbpkodkoaaGreatDoor
open Go.RowKit Go.Maps Num

def acB (f t x : Int) : Bool := decide (f ≤ x) && decide (x < t)
def acI (es : List En) (f t : Int) : Int := if es.all okE = false then 1 else if (valD f && valD t) = false then 13 else if t < f then 8 else 0
def acL (es : List En) (f t : Int) : List Ln := if acI es f t = 0 then nrmL (flat es (acB f t)) else []
theorem bal_hit {t : List Ln} {k : Ky} {j : Nat} (h : ∀ b ∈ t.take j, key b ≠ k) (hj : j < t.length) (hk : key (t.getD j ln0) = k) : balOf t k = (t.getD j ln0).2.2 := by
  unfold balOf
  have e : t = t.take j ++ t.getD j ln0 :: t.drop (j + 1) := by
    conv => lhs; rw [← List.take_append_drop j t, drop_ln t j hj]
  have h1 : (t.take j).find? (fun b => decide (key b = k)) = none := List.find?_eq_none.2 fun b hb e => h b hb (of_decide_eq_true e)
  generalize t.getD j ln0 = x at *
  rw [e, List.find?_append, h1, List.find?_cons_of_pos (by exact decide_eq_true hk)]
  rfl
theorem bal_none {t : List Ln} {k : Ky} (h : ∀ b ∈ t, key b ≠ k) : balOf t k = [] := by
  unfold balOf
  rw [List.find?_eq_none.2 fun b hb e => h b hb (of_decide_eq_true e)]
/-- a string and a code are returned -/
def StrC (s : List UInt8) (i : Int) (w : World) (e : Ending) (w' : World) : Prop := e = .returned (.tuple #[.string ⟨s.toArray⟩, .int .i64 i]) ∧ Below w.heap.size w w'
theorem key_snoc {t : List Ln} {k : Ky} {j : Nat} (hj : j < t.length) (h : ∀ b ∈ t.take j, key b ≠ k) (hk : key (t.getD j ln0) ≠ k) : ∀ b ∈ t.take (j + 1), key b ≠ k := fun b hb => by
  rw [take_ln t j hj] at hb
  rcases List.mem_append.1 hb with h' | h'
  · exact h b h'
  · rw [List.mem_singleton.1 h']; exact hk
theorem putL_len (l : List Ln) (x : Ln) : (putL l x).length ≤ l.length + 1 := by
  induction l with
  | nil => unfold putL; split <;> simp
  | cons y r ih =>
    unfold putL
    split
    · simp only [List.length_cons]; omega
    · split
      · split <;> simp only [List.length_cons] <;> omega
      · split <;> simp only [List.length_cons] <;> omega
theorem fold_len (m l : List Ln) : (m.foldl putL l).length ≤ l.length + m.length := by
  induction m generalizing l with
  | nil => simp
  | cons x r ih =>
    have h1 := ih (putL l x)
    have h2 := putL_len l x
    rw [List.foldl_cons, List.length_cons]
    omega
theorem nrmL_len (l : List Ln) : (nrmL l).length ≤ l.length := by
  have := fold_len l []
  rw [List.length_nil, Nat.zero_add] at this
  exact this
theorem tr_len {es : List En} {d : Int} (hn : es.length ≤ 20) : (trL es d).length ≤ 1280 := by
  unfold trL
  split
  · rename_i h
    have h1 := nrmL_len (flat es fun x => decide (x ≤ d))
    have h2 := flatE_len es (fun x => decide (x ≤ d)) (okL_all.1 h.1).len
    omega
  · simp
end Go.Proofs.YtjcbohbpkodkoaaGreatDoor

/- Contract of ledger.isList. -/
namespace Go.Proofs.YtjcbohbpkodkoaaGreatDoor
open Go.RowKit Go.Maps Num

set_option maxRecDepth 100000 in
set_option maxHeartbeats 2000000 in
theorem kcmpL_any (a b : Ky) (w : World) : Calls Tryz.prog 132 #[.agg (keyV a), .agg (keyV b)] w (IntPost (cmpKy a b) w) := by
  obtain ⟨a1, a2⟩ := a
  obtain ⟨b1, b2⟩ := b
  have hv := Lib.hid (show cmpKy (a1, a2) (b1, b2) = orI [cmpS a1 b1, cmpS a2 b2] by rw [orI2]; rfl)
  unfold keyV
  simp only
  go_enter Tryz.func132, Tryz.ntmps132
  go_wp2_with fail
  have hB0 : Below w.heap.size w ((w.alloc (.cells #[.string ⟨a1.toArray⟩, .string ⟨a2.toArray⟩] 140)).alloc (.cells #[.string ⟨b1.toArray⟩, .string ⟨b2.toArray⟩] 140)) := ((Below.refl _ w).alloc (Nat.le_refl _) _).alloc (by simp) _
  have x0 : ((w.alloc (.cells #[.string ⟨a1.toArray⟩, .string ⟨a2.toArray⟩] 140)).alloc (.cells #[.string ⟨b1.toArray⟩, .string ⟨b2.toArray⟩] 140)).cell? ⟨w.heap.size, 0, none⟩ = some (.string ⟨a1.toArray⟩) := by go_simp
  have x1 : ((w.alloc (.cells #[.string ⟨a1.toArray⟩, .string ⟨a2.toArray⟩] 140)).alloc (.cells #[.string ⟨b1.toArray⟩, .string ⟨b2.toArray⟩] 140)).cell? ⟨w.heap.size, 1, none⟩ = some (.string ⟨a2.toArray⟩) := by go_simp
  have y0 : ((w.alloc (.cells #[.string ⟨a1.toArray⟩, .string ⟨a2.toArray⟩] 140)).alloc (.cells #[.string ⟨b1.toArray⟩, .string ⟨b2.toArray⟩] 140)).cell? ⟨w.heap.size + 1, 0, none⟩ = some (.string ⟨b1.toArray⟩) := by go_simp
  have y1 : ((w.alloc (.cells #[.string ⟨a1.toArray⟩, .string ⟨a2.toArray⟩] 140)).alloc (.cells #[.string ⟨b1.toArray⟩, .string ⟨b2.toArray⟩] 140)).cell? ⟨w.heap.size + 1, 1, none⟩ = some (.string ⟨b2.toArray⟩) := by go_simp
  have hsz : ((w.alloc (.cells #[.string ⟨a1.toArray⟩, .string ⟨a2.toArray⟩] 140)).alloc (.cells #[.string ⟨b1.toArray⟩, .string ⟨b2.toArray⟩] 140)).heap.size = w.heap.size + 2 := by simp
  generalize ((w.alloc (.cells #[.string ⟨a1.toArray⟩, .string ⟨a2.toArray⟩] 140)).alloc (.cells #[.string ⟨b1.toArray⟩, .string ⟨b2.toArray⟩] 140)) = W at *
  have HB := Lib.hid hB0
  have HSZ := Lib.hid hsz
  clear hsz hB0
  have ne0 := World.new_ne W ⟨w.heap.size, 0, none⟩ x0
  have ne1 := World.new_ne W ⟨w.heap.size, 1, none⟩ x1
  have ne2 := World.new_ne W ⟨w.heap.size + 1, 0, none⟩ y0
  have ne3 := World.new_ne W ⟨w.heap.size + 1, 1, none⟩ y1
  go_region_held3 (fun w' => w'.cell? ⟨w.heap.size, 0, none⟩ = some (.string ⟨a1.toArray⟩) ∧ w'.cell? ⟨w.heap.size, 1, none⟩ = some (.string ⟨a2.toArray⟩) ∧ w'.cell? ⟨w.heap.size + 1, 0, none⟩ = some (.string ⟨b1.toArray⟩) ∧ w'.cell? ⟨w.heap.size + 1, 1, none⟩ = some (.string ⟨b2.toArray⟩)) (go_keep)
    (first
      | (go_at_call 170; refine (cmpS_any _ _ _).mono ?_; rintro e w' ⟨rfl, rfl⟩)
      | (go_at_call 169; refine (Or_any _ _ _ [cmpS a1 b1, cmpS a2 b2] _ (ints2d _ _ _)).mono ?_; rintro e w' ⟨rfl, rfl⟩))
  go_wp2_with fail
  go_ret
  exact ⟨by rw [hv.out]; rfl, below_dr (HB.out.trans ((Below.refl _ _).alloc HB.out.size _)) 1⟩
theorem kcmpL3 (a1 a2 b1 b2 : List UInt8) (w : World) : Calls Tryz.prog 132 #[.agg #[.string ⟨a1.toArray⟩, .string ⟨a2.toArray⟩], .agg #[.string ⟨b1.toArray⟩, .string ⟨b2.toArray⟩]] w fun e w' => e = .returned (.int .i64 (cmpKy (a1, a2) (b1, b2))) ∧ Below w.heap.size w w' := kcmpL_any (a1, a2) (b1, b2) w
theorem accCheck_l (a : List UInt8) (w : World) (h : a.length ≤ 1000) (hm : ML w) : Calls Tryz.prog 131 #[.string ⟨a.toArray⟩] w (IntPost (if codeB a then 0 else 3) w) :=
  AccCheck_any ⟨a.toArray⟩ w (by show a.toArray.size < _; rw [List.size_toArray]; omega) hm
theorem lineI_parts {a cu m : List UInt8} (h1 : curB cu = true) (h2 : chkI m = 0) (h3 : codeB a = true) : lineI (a, cu, m) = 0 := by
  unfold lineI
  rw [if_pos h3, if_pos h1]; exact h2
theorem lineI_cur {a cu m : List UInt8} (h : (if curB cu = false then (23 : Int) else chkI m) ≠ 0) : lineI (a, cu, m) ≠ 0 := by
  unfold lineI
  split
  · split
    · rename_i h1
      simp only at h1 ⊢
      rw [if_neg (by rw [h1]; decide)] at h; exact h
    · decide
  · decide
theorem lineI_acc {a cu m : List UInt8} (h : codeB a = false) : lineI (a, cu, m) ≠ 0 := by
  unfold lineI
  rw [if_neg (by rw [h]; decide)]; decide
theorem chk_ok {cu m : List UInt8} (h : (if curB cu = false then (23 : Int) else chkI m) = 0) : curB cu = true ∧ chkI m = 0 := by
  split at h
  · omega
  · rename_i h1; exact ⟨by simpa using h1, h⟩
/-- what the loop has seen -/
def LisR (w : World) (l : List Ln) (k : Nat) (W : World) : Prop := chkLs none l = chkLs (prevAt l k) (l.drop k) ∧ Below w.heap.size w W
set_option maxRecDepth 100000 in
set_option maxHeartbeats 8000000 in
theorem isList_any (A : Option Addr) (n c : Nat) (l : List Ln) (w : World) (hl : rowB.Rds w A n c l) (hs : ∀ x ∈ l, Sml x) (hn : n ≤ 10000) (ht : Tab w) (hm : ML w) :
    Calls Tryz.prog 94 #[.slice A n c] w (BoolPost (listB l) w) := by
  have ll := Lib.hid hl.len
  have L1 := Lib.hid hl
  have HS := Lib.hid hs
  have HT := Lib.hid ht
  have HM := Lib.hid hm
  have hv := Lib.hid (show listB l = decide (chkLs none l = 0) from rfl)
  have HP := Lib.hid (fun W (h : Below w.heap.size w W) => (show BoolPost (listB l) w (.returned (.bool (listB l))) W from ⟨rfl, h⟩))
  clear hl hs ht hm
  generalize BoolPost (listB l) w = Post at *
  generalize listB l = r at *
  have R0 := Lib.hid (show LisR w l 0 w from ⟨by rw [List.drop_zero]; rfl, Below.refl _ _⟩)
  go_enter Tryz.func94, Tryz.ntmps94
  go_wp2_with fail
  go_loopw [9, 3, 4, 5, 6] (fun i _ _ _ _ wr => ∃ k : Nat, k ≤ n ∧ i = .int .i64 (k : Int) ∧ Hid (LisR w l k wr)) (fun i _ _ _ _ _ => n - (intOf i).toNat)
  case atStart => exact ⟨0, by omega, rfl, R0⟩
  case round =>
    clear R0
    obtain ⟨k, hk, rfl, hR⟩ := hrel
    have hch := Lib.hid hR.out.1
    have HB := Lib.hid hR.out.2
    clear hR
    by_cases hlt : k < n
    · have hkl : k < l.length := by rw [ll.out]; exact hlt
      obtain ⟨b1, o1, rfl, hb1, _⟩ := L1.out.at_ (by omega)
      have q0 := (L1.out.below HB.out).cell rowB_ok ln0 k 0 _ hlt rfl
      have q1 := (L1.out.below HB.out).cell rowB_ok ln0 k 1 _ hlt rfl
      have q2 := (L1.out.below HB.out).cell rowB_ok ln0 k 2 _ hlt rfl
      have hsx := Lib.hid (HS.out _ (lnAt_mem l k hkl))
      have hki : (k : Int) < (n : Int) := by omega
      have hdr := drop_ln l k hkl
      have hch2 := hch.out
      rw [hdr, chkLs_cons] at hch2
      have HC2 := Lib.hid hch2
      have hpk := Lib.hid (show prevAt l (k + 1) = some (key (l.getD k ln0)) from rfl)
      clear hdr hch2 hch
      generalize hxe : l.getD k ln0 = x at *
      obtain ⟨a, cu, m⟩ := x
      simp only [Nat.add_zero] at q0 q1 q2
      have HB2 := Lib.hid (show Below w.heap.size w (wr.alloc (.cells #[.string ⟨a.toArray⟩, .string ⟨cu.toArray⟩, .string ⟨m.toArray⟩] 48)) from HB.out.alloc HB.out.size _)
      have HX := Lib.hid (cells3 (heap_alloc_new wr (.cells #[.string ⟨a.toArray⟩, .string ⟨cu.toArray⟩, .string ⟨m.toArray⟩] 48))).1
      obtain ⟨x0, x1, x2⟩ := HX.out
      have l3 := Lib.hid (block_lt_of_cell x0)
      have hT := Lib.hid (HT.out.below HB2.out)
      have hM := Lib.hid (HM.out.below HB2.out)
      have HPU := Lib.hid (Put2_any cu m _ (by have := hsx.out.2.1; unfold maxLen; simp only at this; omega) (by have := hsx.out.2.2; simp only at this; omega) hT.out)
      unfold PutQ at HPU
      have HACC := Lib.hid (fun W hW => accCheck_l a W hsx.out.1 hW)
      generalize hpc : (if curB cu = false then (23 : Int) else chkI m) = pc at *
      go_wp2_with fail
      refine HPU.out.mono ?_
      rintro e w2 ⟨⟨vp, rfl⟩, hb⟩
      have HB3 := Lib.hid (below_next HB2.out hb ⟨rfl, rfl, rfl, rfl⟩)
      have d0 := (hb.cell l3.out).trans HX.out.1
      have d1 := (hb.cell (p := ⟨wr.heap.size, 1, none⟩) l3.out).trans HX.out.2.1
      have d2 := (hb.cell (p := ⟨wr.heap.size, 2, none⟩) l3.out).trans HX.out.2.2
      clear hb HPU
      by_cases hz : pc = 0
      case neg =>
        have hzb : (pc != 0) = true := by rw [bne_iff_ne]; exact hz
        have hr := Lib.hid (show r = false by
          rw [hv.out, HC2.out, if_pos (lineI_cur (by rw [hpc]; exact hz))]
          exact decide_eq_false (lineI_cur (by rw [hpc]; exact hz)))
        have hv1 := Lib.hid (HP.out w2 HB3.out)
        rw [hr.out] at hv1
        go_wp2_with fail
        exact hv1.out
      subst hz
      obtain ⟨g1, g2⟩ := chk_ok hpc
      rcases m with _ | ⟨m0, mr⟩
      · have hr := Lib.hid (show r = false by
          rw [hv.out, HC2.out]
          split
          · exact decide_eq_false (by assumption)
          · exact decide_eq_false (by rw [if_pos rfl]; decide))
        have hv1 := Lib.hid (HP.out w2 HB3.out)
        rw [hr.out] at hv1
        go_wp2_with fail
        exact hv1.out
      have HAC := Lib.hid (HACC.out w2 (HM.out.below HB3.out))
      clear HACC
      cases hcb : codeB a
      · rw [hcb] at HAC
        have hr := Lib.hid (show r = false by
          rw [hv.out, HC2.out, if_pos (lineI_acc hcb)]
          exact decide_eq_false (lineI_acc hcb))
        rw [hr.out] at HP
        go_wp2_with fail
        refine HAC.out.mono ?_
        rintro e w3 ⟨rfl, hb⟩
        have hv1 := Lib.hid (HP.out w3 (below_next HB3.out hb ⟨rfl, rfl, rfl, rfl⟩))
        clear hb
        go_wp2_with fail
        exact hv1.out
      rw [hcb] at HAC
      have HC3 := Lib.hid (show chkLs none l = if ordB (prevAt l k) (key (a, cu, m0 :: mr)) then 8 else chkLs (some (key (a, cu, m0 :: mr))) (l.drop (k + 1)) by
        rw [HC2.out, if_neg (by rw [lineI_parts g1 g2 hcb]; decide), if_neg (by simp)])
      clear HC2 hpc g1 g2 hcb x0 x1 x2 hT hM
      go_wp2_with fail
      refine HAC.out.mono ?_
      rintro e w3 ⟨rfl, hb⟩
      have HB4 := Lib.hid (below_next HB3.out hb ⟨rfl, rfl, rfl, rfl⟩)
      have HB5 := Lib.hid hb
      have ld := block_lt_of_cell d0
      have f0 := (hb.cell (p := ⟨wr.heap.size, 0, none⟩) ld).trans d0
      have f1 := (hb.cell (p := ⟨wr.heap.size, 1, none⟩) ld).trans d1
      have f2 := (hb.cell (p := ⟨wr.heap.size, 2, none⟩) ld).trans d2
      clear hb HAC d0 d1 d2 HX
      go_upto_region 7 with fail
      by_cases hk0 : k = 0
      · have hf : ordB (prevAt l k) (key (a, cu, m0 :: mr)) = false := by rw [hk0]; rfl
        have hch2 := HC3.out
        rw [hf, if_neg (by decide)] at hch2
        have hk0i : ¬ (0 : Int) < (k : Int) := by omega
        have hk0n : ¬ 0 < k := by omega
        have HCH := Lib.hid hch2
        clear hk0 hch2 hf HC3
        go_quiet (fail)
        have RR := Lib.hid (show LisR w l (k + 1) (w3.drewN nq) from ⟨by rw [hpk.out]; exact HCH.out, below_dr HB4.out nq⟩)
        clear hpk
        go_wp2_with fail
        exact ⟨⟨k + 1, by omega, by go_num, RR⟩, by simp [intOf]; omega⟩
      · obtain ⟨j, hj⟩ : ∃ j, k = j + 1 := ⟨k - 1, by omega⟩
        have hHj := Lib.hid hj
        have q0 := (L1.out.below HB4.out).cell rowB_ok ln0 j 0 _ (by omega) rfl
        have q1 := (L1.out.below HB4.out).cell rowB_ok ln0 j 1 _ (by omega) rfl
        have hpv : prevAt l k = some (key (l.getD j ln0)) := by rw [hj]; rfl
        have hch2 := HC3.out
        rw [hpv] at hch2
        have hw : IntKind.i64.wrap ((k : Int) - 1) = (j : Int) := (IntWalk.i64_in _ (by omega)).trans (by omega)
        have hji : (j : Int) < (n : Int) := by omega
        have hk0i : (0 : Int) < (k : Int) := by omega
        have hk0n : 0 < k := by omega
        clear hpv hj hk0 HC3
        generalize l.getD j ln0 = y at *
        obtain ⟨ya, yc, ym⟩ := y
        simp only [Nat.add_zero] at q0 q1
        have HCH := Lib.hid hch2
        clear hch2
        have HSS := Lib.hid (And.intro q0 (And.intro q1 (And.intro f0 (And.intro f1 f2))))
        have ly := block_lt_of_cell q0
        have lx := block_lt_of_cell f0
        have HD := Lib.hid (Below.refl w3.heap.size w3)
        generalize hcv : cmpKy (ya, yc) (a, cu) = cv at *
        go_region_held3 (fun w' => w'.cell? ⟨b1, o1 + j * 3, none⟩ = some (.string ⟨ya.toArray⟩) ∧ w'.cell? ⟨b1, o1 + j * 3 + 1, none⟩ = some (.string ⟨yc.toArray⟩) ∧ w'.cell? ⟨wr.heap.size, 0, none⟩ = some (.string ⟨a.toArray⟩) ∧ w'.cell? ⟨wr.heap.size, 1, none⟩ = some (.string ⟨cu.toArray⟩) ∧ w'.cell? ⟨wr.heap.size, 2, none⟩ = some (.string ⟨(m0 :: mr).toArray⟩))
          (first | exact ⟨g0, g1, g2, g3, g4⟩ | exact ⟨q0, q1, f0, f1, f2⟩ | go_keep)
          (first
            | (go_at_call 132; refine (kcmpL3 _ _ _ _ _).mono ?_; rintro e w' ⟨rfl, hb⟩; have HD := Lib.hid (below_next HD.out hb ⟨rfl, rfl, rfl, rfl⟩); have g0 := (HD.out.cell ly).trans HSS.out.1; have g1 := (HD.out.cell (p := ⟨b1, o1 + j * 3 + 1, none⟩) ly).trans HSS.out.2.1; have g2 := (HD.out.cell lx).trans HSS.out.2.2.1; have g3 := (HD.out.cell (p := ⟨wr.heap.size, 1, none⟩) lx).trans HSS.out.2.2.2.1; have g4 := (HD.out.cell (p := ⟨wr.heap.size, 2, none⟩) lx).trans HSS.out.2.2.2.2; clear hb))
        have hf : ordB (some (key (ya, yc, ym))) (key (a, cu, m0 :: mr)) = decide (0 ≤ cv) := by
          show decide (0 ≤ cmpKy (ya, yc) (a, cu)) = _
          rw [hcv]
        have hch2 := HCH.out
        rw [hf] at hch2
        have HB6 := Lib.hid (HB4.out.trans (HD.out.mono HB4.out.size))
        by_cases hc0 : 0 ≤ cv
        · rw [decide_eq_true hc0, if_pos rfl] at hch2
          have hr := Lib.hid (show r = false by rw [hv.out, hch2]; rfl)
          have hv1 := Lib.hid (HP.out _ HB6.out)
          rw [hr.out] at hv1
          clear hch2 HCH
          go_wp2_with fail
          exact hv1.out
        · rw [decide_eq_false hc0, if_neg (by decide)] at hch2
          have RR := Lib.hid (show LisR w l (k + 1) w' from ⟨by rw [hpk.out]; exact hch2, HB6.out⟩)
          clear hch2 hpk HCH
          go_wp2_with fail
          exact ⟨⟨k + 1, by omega, by go_num, RR⟩, by simp [intOf]; omega⟩
    · have hkn : k = n := by omega
      subst hkn
      have hki : ¬ (k : Int) < (k : Int) := by omega
      have hr := Lib.hid (show r = true by
        rw [hv.out, hch.out, List.drop_of_length_le (by rw [ll.out]; exact Nat.le_refl _)]
        rfl)
      have hv1 := Lib.hid (HP.out wr HB.out)
      rw [hr.out] at hv1
      go_wp2_with fail
      exact hv1.out
end Go.Proofs.YtjcbohbpkodkoaaGreatDoor

/- Regions that draw their order, whose callees may lay blocks. -/
namespace Go.Proofs.YtjcbohbpkodkoaaGreatDoor
open Go.RowKit Go.Maps Num

/-- a world that differs from w above w's blocks -/
structure Bel (w : World) where
  W : World
  h : Below w.heap.size w W
instance belThere (w : World) : Inhabited (Bel w) := ⟨⟨w, Below.refl _ w⟩⟩
/-- a region that draws its order, whose operations only read and whose callees may lay blocks: one walk, in the order of the text -/
theorem wp_region_quiet_bel {P : Program} {id : Nat} {Q : Exit → Act → World → Prop} {a : Act} {w : World} {l : List Oper} (hm : P.follows .mixedOrders = true) (hB : Region.lexB .any l.toArray = true)
    (h : wpQuiet P l.toArray (fun w' => ∃ p : Bel w, w' = p.W) (fun a' => ∀ w', (∃ p : Bel w, w' = p.W) → Q .normal a' w') l a) : (Code.region id l.toArray true).wp P Q a w :=
  wp_region_quiet (C := fun w' => ∃ p : Bel w, w' = p.W) hm hB ⟨⟨w.drew, Below.drew (Below.refl _ w)⟩, rfl⟩ (by simpa using h)
theorem Calls.bel_of {P : Program} {f : FuncId} {args : Array Value} {w : World} {p : Bel w} {v : Value} (h : Calls P f args p.W fun e w' => e = .returned v ∧ Below p.W.heap.size p.W w') :
    Calls P f args p.W fun e w'' => e = .returned v ∧ ∃ q : Bel w, w'' = q.W :=
  h.mono fun _ _ ⟨he, hb⟩ => ⟨he, ⟨_, p.h.trans (hb.mono p.h.size)⟩, rfl⟩
end Go.Proofs.YtjcbohbpkodkoaaGreatDoor

/- The plain functions: SHA-256 on integers, in the very forms of the program's operations. -/
namespace Go.Proofs.YtjcbohbpkodkoaaGreatDoor.Sha

def M32 : Int := 4294967296
def rotr (x : Int) (n : Nat) : Int := bits .or .u32 (x * 2 ^ (32 - n) % 4294967296) (x / 2 ^ n)
def byteAt (s : List UInt8) (i : Nat) : Int := ((s.getD i 0).toNat : Int)
/-- the first i bytes of word t -/
def part (s : List UInt8) (t : Nat) : Nat → Int
  | 0 => 0
  | i + 1 => bits .or .u32 (part s t i * 256 % 4294967296) (byteAt s (4 * t + i))
def fill (s : List UInt8) : Nat → List Int
  | 0 => List.replicate 64 0
  | t + 1 => (fill s t).set t (part s t 4)
def nextW (l : List Int) (t : Nat) : Int :=
  let x := l.getD (t - 15) 0
  let y := l.getD (t - 2) 0
  (l.getD (t - 16) 0 + bits .xor .u32 (bits .xor .u32 (rotr x 7) (rotr x 18)) (x / 8) + l.getD (t - 7) 0 + bits .xor .u32 (bits .xor .u32 (rotr y 17) (rotr y 19)) (y / 1024)) % 4294967296
def sched (l : List Int) : Nat → List Int
  | 0 => l
  | n + 1 => (sched l n).set (16 + n) (nextW (sched l n) (16 + n))
def notE (e : Int) : Int := bits .xor .u32 (if IntKind.u32.signed = true then -1 else IntKind.u32.max) e
def firstOf (s : List Int) (k w : Int) : Int :=
  s.getD 7 0 + bits .xor .u32 (bits .xor .u32 (rotr (s.getD 4 0) 6) (rotr (s.getD 4 0) 11)) (rotr (s.getD 4 0) 25) + bits .xor .u32 (bits .and .u32 (s.getD 4 0) (s.getD 5 0)) (bits .and .u32 (notE (s.getD 4 0)) (s.getD 6 0)) + k + w
def secondOf (s : List Int) : Int :=
  bits .xor .u32 (bits .xor .u32 (rotr (s.getD 0 0) 2) (rotr (s.getD 0 0) 13)) (rotr (s.getD 0 0) 22) + bits .xor .u32 (bits .xor .u32 (bits .and .u32 (s.getD 0 0) (s.getD 1 0)) (bits .and .u32 (s.getD 0 0) (s.getD 2 0))) (bits .and .u32 (s.getD 1 0) (s.getD 2 0))
def roundOf (s : List Int) (k w : Int) : List Int :=
  [(firstOf s k w + secondOf s) % 4294967296, s.getD 0 0, s.getD 1 0, s.getD 2 0, (s.getD 3 0 + firstOf s k w) % 4294967296, s.getD 4 0, s.getD 5 0, s.getD 6 0]
def rounds' (ks ws s : List Int) : Nat → List Int
  | 0 => s
  | n + 1 => roundOf (rounds' ks ws s n) (ks.getD n 0) (ws.getD n 0)
def addAll (st : List Int) (s : List Int) : Nat → List Int
  | 0 => s
  | n + 1 => (addAll st s n).set n (((addAll st s n).getD n 0 + st.getD n 0) % 4294967296)
def K64 : List Int := [1116352408, 1899447441, 3049323471, 3921009573, 961987163, 1508970993, 2453635748, 2870763221, 3624381080, 310598401, 607225278, 1426881987, 1925078388, 2162078206, 2614888103, 3248222580, 3835390401, 4022224774, 264347078, 604807628, 770255983, 1249150122, 1555081692, 1996064986, 2554220882, 2821834349, 2952996808, 3210313671, 3336571891, 3584528711, 113926993, 338241895, 666307205, 773529912, 1294757372, 1396182291, 1695183700, 1986661051, 2177026350, 2456956037, 2730485921, 2820302411, 3259730800, 3345764771, 3516065817, 3600352804, 4094571909, 275423344, 430227734, 506948616, 659060556, 883997877, 958139571, 1322822218, 1537002063, 1747873779, 1955562222, 2024104815, 2227730452, 2361852424, 2428436474, 2756734187, 3204031479, 3329325298]
def H8 : List Int := [1779033703, 3144134277, 1013904242, 2773480762, 1359893119, 2600822924, 528734635, 1541459225]
def stepOf (st : List Int) (blk : List UInt8) (ks : List Int) : List Int :=
  addAll st (rounds' ks (sched (fill blk 16) 48) st 64) 8

theorem fill_len (s : List UInt8) (t : Nat) : (fill s t).length = 64 := by induction t with
  | zero => simp [fill]
  | succ n ih => simp [fill, ih]
theorem sched_len (l : List Int) (n : Nat) : (sched l n).length = l.length := by induction n with
  | zero => rfl
  | succ n ih => simp [sched, ih]
theorem rounds_len (ks ws s : List Int) (h : s.length = 8) (n : Nat) : (rounds' ks ws s n).length = 8 := by cases n with
  | zero => exact h
  | succ n => rfl
theorem addAll_len (st s : List Int) (n : Nat) : (addAll st s n).length = s.length := by induction n with
  | zero => rfl
  | succ n ih => simp [addAll, ih]
theorem set_getD (l : List Int) (i j : Nat) (x : Int) (h : i < l.length) : (l.set i x).getD j 0 = if j = i then x else l.getD j 0 := by
  simp only [List.getD_eq_getElem?_getD, List.getElem?_set]
  by_cases e : i = j
  · subst e; simp [h]
  · rw [if_neg e, if_neg (fun h => e h.symm)]
theorem rep_get (n i : Nat) (z : Value) (h : i < n) : (List.replicate n z).toArray[i]? = some z := by simp [h]
theorem rep_getD (n i : Nat) (h : i < n) : (List.replicate n (0 : Int)).getD i 0 = 0 := by simp [List.getD_eq_getElem?_getD, h]
theorem set_same (l : List Int) (t : Nat) : l.set t (l.getD t 0) = l := by
  apply List.ext_getElem (by simp)
  intro i h1 h2
  rw [List.getElem_set]
  split
  · rename_i e; subst e; simp [List.getD_eq_getElem?_getD, h2]
  · rfl
theorem fill_zero (s : List UInt8) (t j : Nat) (h : t ≤ j) (h64 : t ≤ 64) : (fill s t).getD j 0 = 0 := by
  induction t with
  | zero => simp only [fill, List.getD_eq_getElem?_getD, List.getElem?_replicate]; split <;> rfl
  | succ n ih => rw [fill, set_getD _ _ _ _ (by rw [fill_len]; omega), if_neg (by omega), ih (by omega) (by omega)]
theorem byte_mod (s : ByteArray) (n : Nat) (h : n < s.size) : (s[n].toNat : Int) % 4294967296 = byteAt s.data.toList n := by
  have h1 : s.data.toList.getD n 0 = s[n] := by
    rw [List.getD_eq_getElem?_getD, List.getElem?_eq_getElem (by simpa using h)]; rfl
  have h2 : s[n].toNat < 256 := s[n].toNat_lt
  rw [byteAt, h1]; omega
theorem getD_zero_of_le (l : List Int) (j : Nat) (h : l.length ≤ j) : l.getD j 0 = 0 := by simp [List.getD_eq_getElem?_getD, List.getElem?_eq_none h]
end Go.Proofs.YtjcbohbpkodkoaaGreatDoor.Sha

/- The walk of digest.step. -/
namespace Go.Proofs.YtjcbohbpkodkoaaGreatDoor.Sha
open Go.RowKit

def W32 (l : List Int) : Nat → Value := fun j => .int .u32 (l.getD j 0)
structure SR (w : World) (st ks W : List Int) (wr : World) : Prop where
  bel : Below w.heap.size w wr
  size : wr.heap.size = w.heap.size + 4
  a : wr.rowIs w.heap.size 123 8 (W32 st)
  k : wr.rowIs (w.heap.size + 1) 125 64 (W32 ks)
  r : wr.rowIs (w.heap.size + 1 + 1) 123 8 (fun _ => .int .u32 0)
  v : wr.rowIs (w.heap.size + 1 + 1 + 1) 125 64 (W32 W)

theorem list8 (l : List Int) (h : l.length = 8) : ∃ a b c d e f g i, l = [a, b, c, d, e, f, g, i] := by
  match l, h with
  | [a, b, c, d, e, f, g, i], _ => exact ⟨a, b, c, d, e, f, g, i, rfl⟩
theorem SR.drew {w wr : World} {st ks W : List Int} (h : SR w st ks W wr) : SR w st ks W wr.drew := ⟨h.bel.drew, h.size, h.a, h.k, h.r, h.v⟩
theorem SR.drewN {w wr : World} {st ks W : List Int} (h : SR w st ks W wr) (n : Nat) : SR w st ks W (wr.drewN n) := ⟨⟨h.bel.os, h.bel.tape, h.bel.output, h.bel.size, h.bel.block⟩, h.size, h.a, h.k, h.r, h.v⟩
theorem SR.put {w wr : World} {st ks W : List Int} (h : SR w st ks W wr) (t : Nat) (x : Int) (hl : W.length = 64) (ht : t < 64) :
    SR w st ks (W.set t x) (wr.setCell ⟨w.heap.size + 1 + 1 + 1, t, none⟩ (.int .u32 x)) :=
  ⟨h.bel.setCell (by simp; omega) _, by simp [World.setCell, h.size], h.a.setOther (by simp; omega) _, h.k.setOther (by simp) _, h.r.setOther (by simp) _,
    (h.v.set t _).congr fun j _ => by
      simp only [W32, set_getD W t j x (by omega)]
      split <;> rfl⟩
theorem set_set_same (l : List Int) (t : Nat) (x y : Int) : (l.set t x).set t y = l.set t y := by simp
theorem SR.start (w : World) (st ks : List Int) (h1 : st.length = 8) (h3 : ks.length = 64) (c56 c58 : Array Value) (e56 : c56 = (List.replicate 8 (Value.int .u32 0)).toArray) (e58 : c58 = (List.replicate 64 (Value.int .u32 0)).toArray) :
    SR w st ks (List.replicate 64 0) ((((w.alloc (.cells ⟨st.map (Value.int .u32)⟩ 123)).alloc (.cells ⟨ks.map (Value.int .u32)⟩ 125)).alloc (.cells c56 123)).alloc (.cells c58 125)) := by
  subst e56 e58
  refine ⟨?_, by simp, ?_, ?_, ?_, ?_⟩
  · exact ((((Below.refl _ _).alloc (Nat.le_refl _) _).alloc (by simp) _).alloc (by simp; omega) _).alloc (by simp; omega) _
  · have := World.rowIs_alloc w ⟨st.map (Value.int .u32)⟩ 123 (W32 st) (fun i hi => by simp at hi ⊢; simp [W32, hi])
    simp only [List.size_toArray, List.length_map, h1] at this
    exact ((this.alloc _).alloc _).alloc _
  · have := World.rowIs_alloc (w.alloc (.cells ⟨st.map (Value.int .u32)⟩ 123)) ⟨ks.map (Value.int .u32)⟩ 125 (W32 ks) (fun i hi => by simp at hi ⊢; simp [W32, hi])
    simp only [List.size_toArray, List.length_map, h3] at this
    have := (this.alloc (.cells (List.replicate 8 (Value.int .u32 0)).toArray 123)).alloc (.cells (List.replicate 64 (Value.int .u32 0)).toArray 125)
    simpa using this
  · have := World.rowIs_alloc ((w.alloc (.cells ⟨st.map (Value.int .u32)⟩ 123)).alloc (.cells ⟨ks.map (Value.int .u32)⟩ 125)) (List.replicate 8 (Value.int .u32 0)).toArray 123 (fun _ => .int .u32 0) (fun i hi => rep_get 8 i _ (by simpa using hi))
    have := this.alloc (.cells (List.replicate 64 (Value.int .u32 0)).toArray 125)
    simpa using this
  · have := World.rowIs_alloc (((w.alloc (.cells ⟨st.map (Value.int .u32)⟩ 123)).alloc (.cells ⟨ks.map (Value.int .u32)⟩ 125)).alloc (.cells (List.replicate 8 (Value.int .u32 0)).toArray 123)) (List.replicate 64 (Value.int .u32 0)).toArray 125 (W32 (List.replicate 64 0)) (fun i hi => by rw [rep_get 64 i _ (by simpa using hi), W32, rep_getD 64 i (by simpa using hi)])
    simpa using this

structure SR2 (w : World) (st ks W S : List Int) (wr : World) : Prop where
  bel : Below w.heap.size w wr
  a : wr.rowIs w.heap.size 123 8 (W32 st)
  k : wr.rowIs (w.heap.size + 1) 125 64 (W32 ks)
  r : wr.rowIs (w.heap.size + 1 + 1) 123 8 (fun _ => .int .u32 0)
  v : wr.rowIs (w.heap.size + 1 + 1 + 1) 125 64 (W32 W)
  s : wr.rowIs (w.heap.size + 4) 123 8 (W32 S)
theorem SR2.drewN {w wr : World} {st ks W S : List Int} (h : SR2 w st ks W S wr) (n : Nat) : SR2 w st ks W S (wr.drewN n) := ⟨⟨h.bel.os, h.bel.tape, h.bel.output, h.bel.size, h.bel.block⟩, h.a, h.k, h.r, h.v, h.s⟩
theorem SR2.put {w wr : World} {st ks W S : List Int} (h : SR2 w st ks W S wr) (t : Nat) (x : Int) (hl : S.length = 8) (ht : t < 8) :
    SR2 w st ks W (S.set t x) (wr.setCell ⟨w.heap.size + 4, t, none⟩ (.int .u32 x)) :=
  ⟨h.bel.setCell (by simp) _, h.a.setOther (by simp) _, h.k.setOther (by simp) _, h.r.setOther (by simp) _, h.v.setOther (by simp) _,
    (h.s.set t _).congr fun j _ => by
      simp only [W32, set_getD S t j x (by omega)]
      split <;> rfl⟩
theorem SR.two {w wr : World} {st ks W : List Int} (h : SR w st ks W wr) (S : List Int) (c : Array Value) (hc : c = ⟨S.map (Value.int .u32)⟩) (hl : S.length = 8) : SR2 w st ks W S (wr.alloc (.cells c 123)) := by
  subst hc
  have := World.rowIs_alloc wr ⟨S.map (Value.int .u32)⟩ 123 (W32 S) (fun i hi => by simp at hi ⊢; simp [W32, hi])
  simp only [List.size_toArray, List.length_map, hl, h.size] at this
  exact ⟨h.bel.alloc (by rw [h.size]; omega) _, h.a.alloc _, h.k.alloc _, h.r.alloc _, h.v.alloc _, this⟩
theorem u64_in (n : Int) (h : 0 ≤ n) (h' : n ≤ 64) : IntKind.u64.wrap n = n := by
  simp [IntKind.wrap, IntKind.bits, IntKind.signed]; omega
theorem quietAdd {P : Program} {f : FuncId} {args : Array Value} {w : World} {a n : Nat} {v : Value}
    (h : Calls P f args (w.drewN (a + n)) fun e w' => e = .returned v ∧ w' = w.drewN (a + n)) :
    Calls P f args (w.drewN (a + n)) fun e w'' => e = .returned v ∧ ∃ m, w'' = w.drewN (a + m) :=
  h.mono fun _ _ ⟨he, hm⟩ => ⟨he, n, hm⟩
theorem region_st {P : Program} {id : Nat} {Q : Exit → Act → World → Prop} {a : Act} {w : World} {l : List Oper} (n : Nat) (hm : P.follows .mixedOrders = true) (hB : Region.lexTailB .any l.toArray n = true)
    (h : wpStill P l.toArray w.drew (fun a' => wpList P l.toArray Q (l.drop n) a' w.drew) (l.take n) a) : (Code.region id l.toArray true).wp P Q a w := wp_region_still_tail n hm hB h

theorem rot_s (n : Nat) (h1 : 1 ≤ n) (h2 : n ≤ 31) : bits BinOp.and IntKind.u64 (IntKind.u64.wrap (wrap64 (-(n : Int)))) 31 = ((32 - n : Nat) : Int) := by
  rcases n with _ | n
  · omega
  iterate 31 (rcases n with _ | n; · decide +kernel)
  omega
set_option maxHeartbeats 400000 in
theorem rot_core (x : Int) (n m : Nat) (w : World) (hs : bits BinOp.and IntKind.u64 (IntKind.u64.wrap (wrap64 (-(n : Int)))) 31 = (m : Int)) (h1 : 1 ≤ m) (h2 : m ≤ 31) (hk : IntKind.u64.wrap (32 - (m : Int)) = ((32 - m : Nat) : Int)) :
    Calls Tryz.prog 118 #[.int .u32 x, .int .i64 (n : Int)] w fun e w' => e = .returned (.int .u32 (bits .or .u32 (x * 2 ^ m % 4294967296) (x / 2 ^ (32 - m)))) ∧ w' = w := by
  have hb1 : (m : Int) ≤ 32 := by omega
  have hb2 : (0 : Int) ≤ ((32 - m : Nat) : Int) := by omega
  have hb3 : ((32 - m : Nat) : Int) ≤ 32 := by omega
  go_enter Tryz.func118, Tryz.ntmps118
  go_wp2
  go_ret
  exact ⟨rfl, rfl⟩
theorem rot_any (x : Int) (n : Int) (w : World) (h1 : 1 ≤ n) (h2 : n ≤ 31) :
    Calls Tryz.prog 118 #[.int .u32 x, .int .i64 n] w fun e w' => e = .returned (.int .u32 (rotr x n.toNat)) ∧ w' = w := by
  obtain ⟨k, rfl⟩ := Int.eq_ofNat_of_zero_le (show 0 ≤ n by omega)
  have h := rot_core x k (32 - k) w (rot_s k (by omega) (by omega)) (by omega) (by omega) (by rw [u64_in _ (by omega) (by omega)]; omega)
  rw [show 32 - (32 - k) = k by omega] at h
  exact h

set_option maxHeartbeats 6000000 in
set_option maxRecDepth 100000 in
theorem step_any (a0 a1 a2 a3 a4 a5 a6 a7 : Int) (st : List Int) (s : ByteArray) (ks : List Int) (w : World) (h1 : st = [a0, a1, a2, a3, a4, a5, a6, a7]) (h2 : s.size = 64) (h3 : ks.length = 64) :
    Calls Tryz.prog 84 #[.agg #[.int .u32 a0, .int .u32 a1, .int .u32 a2, .int .u32 a3, .int .u32 a4, .int .u32 a5, .int .u32 a6, .int .u32 a7], .string s, .agg ⟨ks.map (Value.int .u32)⟩] w fun e w' => e = .returned (.agg ⟨(stepOf st s.data.toList ks).map (Value.int .u32)⟩) ∧ Below w.heap.size w w' := by
  have H1 := Lib.hid h1
  have H3 := Lib.hid h3
  have H2 := Lib.hid h2
  clear h1 h3 h2
  go_enter Tryz.func84, Tryz.ntmps84
  go_wp2
  go_loopw [24] (fun i wr => ∃ t : Nat, t ≤ 16 ∧ i = .int .i64 t ∧ SR w st ks (fill s.data.toList t) wr) (fun i _ => 16 - (intOf i).toNat)
  case atStart => exact ⟨0, by omega, rfl, by
      have := H1.out
      subst this
      exact SR.start w _ ks rfl H3.out _ _ rfl rfl⟩
  case round =>
    obtain ⟨t, ht, rfl, hsr⟩ := hrel
    by_cases hlt : t < 16
    · have hd : decide ((t : Int) < 16) = true := by simp; omega
      go_wp2
      go_loopw [27] (fun i wi => ∃ j : Nat, j ≤ 4 ∧ i = .int .i64 j ∧ SR w st ks ((fill s.data.toList t).set t (part s.data.toList t j)) wi) (fun i _ => 4 - (intOf i).toNat)
      case atStart => exact ⟨0, by omega, rfl, by rw [show part s.data.toList t 0 = (fill s.data.toList t).getD t 0 from (fill_zero _ _ _ (Nat.le_refl _) (by omega)).symm, set_same]; exact hsr⟩
      case round =>
        obtain ⟨j, hj, rfl, hsi⟩ := hrel
        by_cases hlj : j < 4
        · obtain ⟨x, hx⟩ : ∃ x, x = part s.data.toList t j := ⟨_, rfl⟩
          have hc : wr.cell? ⟨w.heap.size + 1 + 1 + 1, t, none⟩ = some (.int .u32 x) := by
            have := hsi.v.cell (i := t) (by omega)
            simpa [W32, fill_len, hx, show t < 64 by omega] using this
          have HX := Lib.hid hx
          clear hx
          have hf := hsi.v.frozen t
          obtain ⟨n, hn⟩ : ∃ n : Nat, n = 4 * t + j := ⟨_, rfl⟩
          have hi : n < s.size := by have := H2.out; omega
          have hb : (t : Int) < 64 := by omega
          have hw1 : IntKind.i64.wrap (4 * (t : Int)) = 4 * (t : Int) := IntWalk.i64_in _ (by omega)
          have hw2 : IntKind.i64.wrap (4 * (t : Int) + (j : Int)) = (n : Int) := by rw [IntWalk.i64_in _ (by omega)]; omega
          have HN := Lib.hid hn
          clear hn
          go_wp2
          refine region_st 14 (by kernel_rfl) (by kernel_rfl) ?_
          simp only [List.take_succ_cons, List.take_zero, List.drop_succ_cons, List.drop_zero]
          repeat still_step
          refine wpStill_nil ?_
          go_wp2
          go_roundw
          case rel =>
            refine ⟨j + 1, by omega, by go_num, ?_⟩
            have := (hsi.put t (part s.data.toList t (j + 1)) (by simp [fill_len]) (by omega)).drew
            rw [set_set_same] at this
            rw [HX.out, byte_mod s n hi, HN.out]
            exact this
          case measure => simp [intOf]; omega
        · go_wp2
          go_roundw
          case rel => exact ⟨t + 1, by omega, by go_num, by obtain rfl : j = 4 := by omega
                                                            exact hsi⟩
          case measure => simp [intOf]; omega
    · have HT := Lib.hid (show t = 16 by omega)
      have hd0 : decide ((t : Int) < 16) = false := by simp; omega
      replace hsr : SR w st ks (fill s.data.toList 16) wr := by have := HT.out; subst this; exact hsr
      go_wp2
      go_loopw [10] (fun i wi => ∃ c : Nat, 16 ≤ c ∧ c ≤ 64 ∧ i = .int .i64 (c : Int) ∧ SR w st ks (sched (fill s.data.toList 16) (c - 16)) wi) (fun i _ => 64 - (intOf i).toNat)
      case atStart => exact ⟨16, by omega, by omega, rfl, hsr⟩
      case round =>
        obtain ⟨c, hq0, hq, rfl, hsi⟩ := hrel
        obtain ⟨L, hL⟩ : ∃ L, L = sched (fill s.data.toList 16) (c - 16) := ⟨_, rfl⟩
        rw [← hL] at hsi
        by_cases hlq : c < 64
        · have hd : decide ((c : Int) < 64) = true := by simp; omega
          obtain ⟨i1, hi1⟩ : ∃ i : Nat, i = c - 15 := ⟨_, rfl⟩
          obtain ⟨i2, hi2⟩ : ∃ i : Nat, i = c - 2 := ⟨_, rfl⟩
          obtain ⟨i3, hi3⟩ : ∃ i : Nat, i = c - 16 := ⟨_, rfl⟩
          obtain ⟨i4, hi4⟩ : ∃ i : Nat, i = c - 7 := ⟨_, rfl⟩
          have hw1 : IntKind.i64.wrap ((c : Int) - 15) = (i1 : Int) := by rw [IntWalk.i64_in _ (by omega)]; omega
          have hw2 : IntKind.i64.wrap ((c : Int) - 2) = (i2 : Int) := by rw [IntWalk.i64_in _ (by omega)]; omega
          have hw3 : IntKind.i64.wrap ((c : Int) - 16) = (i3 : Int) := by rw [IntWalk.i64_in _ (by omega)]; omega
          have hw4 : IntKind.i64.wrap ((c : Int) - 7) = (i4 : Int) := by rw [IntWalk.i64_in _ (by omega)]; omega
          have b1 : (i1 : Int) < 64 := by omega
          have b2 : (i2 : Int) < 64 := by omega
          have b3 : (i3 : Int) < 64 := by omega
          have b4 : (i4 : Int) < 64 := by omega
          have b5 : (c : Int) < 64 := by omega
          have c1 : wr.cell? ⟨w.heap.size + 1 + 1 + 1, i1, none⟩ = some (.int .u32 (L.getD i1 0)) := hsi.v.cell (by omega)
          have c2 : wr.cell? ⟨w.heap.size + 1 + 1 + 1, i2, none⟩ = some (.int .u32 (L.getD i2 0)) := hsi.v.cell (by omega)
          have c3 : wr.cell? ⟨w.heap.size + 1 + 1 + 1, i3, none⟩ = some (.int .u32 (L.getD i3 0)) := hsi.v.cell (by omega)
          have c4 : wr.cell? ⟨w.heap.size + 1 + 1 + 1, i4, none⟩ = some (.int .u32 (L.getD i4 0)) := hsi.v.cell (by omega)
          have c5 : wr.cell? ⟨w.heap.size + 1 + 1 + 1, c, none⟩ = some (.int .u32 (L.getD c 0)) := hsi.v.cell (by omega)
          have hf := hsi.v.frozen c
          generalize hx : L.getD i1 0 = x at *
          generalize hy : L.getD i2 0 = y at *
          generalize hz : L.getD i3 0 = z at *
          generalize hu : L.getD i4 0 = u at *
          generalize L.getD c 0 = v at *
          have HX := Lib.hid (And.intro hL (And.intro hx (And.intro hy (And.intro hz (And.intro hu (And.intro hi1 (And.intro hi2 (And.intro hi3 hi4))))))))
          clear hL hx hy hz hu hi1 hi2 hi3 hi4
          go_wp2
          go_quiet (fail)
          go_wp2
          refine region_st 29 (by kernel_rfl) (by kernel_rfl) ?_
          simp only [List.take_succ_cons, List.take_zero, List.drop_succ_cons, List.drop_zero]
          repeat (first | still_step | still_call (rot_any _ _ _ (by omega) (by omega)))
          refine wpStill_nil ?_
          go_wp2
          go_roundw
          case rel =>
            refine ⟨c + 1, by omega, by omega, by go_num, ?_⟩
            obtain ⟨hL, hx, hy, hz, hu, hi1, hi2, hi3, hi4⟩ := HX.out
            have e : sched (fill s.data.toList 16) (c + 1 - 16) = L.set c (nextW L c) := by
              rw [show c + 1 - 16 = (c - 16) + 1 by omega, sched, show 16 + (c - 16) = c by omega, hL]
            rw [e]
            have := ((hsi.drewN (nq + 1)).put c (nextW L c) (by rw [hL, sched_len, fill_len]) (by omega))
            rw [nextW, ← hi1, ← hi2, ← hi3, ← hi4, hx, hy, hz, hu] at this ⊢
            exact this
          case measure => simp [intOf]; omega
        · have hd : decide ((c : Int) < 64) = false := by simp; omega
          have HC := Lib.hid (show c = 64 by omega)
          have e48 : c - 16 = 48 := by rw [HC.out]
          rw [hL, e48] at hsi
          clear hL e48
          have d0 : wr.cell? ⟨w.heap.size, 0, none⟩ = some (.int .u32 a0) := by rw [hsi.a.cell (i := 0) (by omega), H1.out]; rfl
          have d1 : wr.cell? ⟨w.heap.size, 1, none⟩ = some (.int .u32 a1) := by rw [hsi.a.cell (i := 1) (by omega), H1.out]; rfl
          have d2 : wr.cell? ⟨w.heap.size, 2, none⟩ = some (.int .u32 a2) := by rw [hsi.a.cell (i := 2) (by omega), H1.out]; rfl
          have d3 : wr.cell? ⟨w.heap.size, 3, none⟩ = some (.int .u32 a3) := by rw [hsi.a.cell (i := 3) (by omega), H1.out]; rfl
          have d4 : wr.cell? ⟨w.heap.size, 4, none⟩ = some (.int .u32 a4) := by rw [hsi.a.cell (i := 4) (by omega), H1.out]; rfl
          have d5 : wr.cell? ⟨w.heap.size, 5, none⟩ = some (.int .u32 a5) := by rw [hsi.a.cell (i := 5) (by omega), H1.out]; rfl
          have d6 : wr.cell? ⟨w.heap.size, 6, none⟩ = some (.int .u32 a6) := by rw [hsi.a.cell (i := 6) (by omega), H1.out]; rfl
          have d7 : wr.cell? ⟨w.heap.size, 7, none⟩ = some (.int .u32 a7) := by rw [hsi.a.cell (i := 7) (by omega), H1.out]; rfl
          have hsz := hsi.size
          obtain ⟨W, hW⟩ : ∃ W, W = sched (fill s.data.toList 16) 48 := ⟨_, rfl⟩
          rw [← hW] at hsi
          have HW := Lib.hid hW
          clear hW
          go_wp2
          clear d0 d1 d2 d3 d4 d5 d6 d7
          go_loopw [88] (fun i wi => ∃ n : Nat, n ≤ 64 ∧ i = .int .i64 (n : Int) ∧ SR2 w st ks W (rounds' ks W st n) wi) (fun i _ => 64 - (intOf i).toNat)
          case atStart => exact ⟨0, by omega, rfl, hsi.two st _ (by rw [H1.out]; rfl) (by rw [H1.out]; rfl)⟩
          case round =>
            obtain ⟨n, hn, rfl, hs2⟩ := hrel
            obtain ⟨S, hS⟩ : ∃ S, S = rounds' ks W st n := ⟨_, rfl⟩
            rw [← hS] at hs2
            by_cases hln : n < 64
            · have hd : decide ((n : Int) < 64) = true := by simp; omega
              have hb : (n : Int) < 64 := by omega
              obtain ⟨b0, b1, b2, b3, b4, b5, b6, b7, hS8⟩ := list8 S (by rw [hS]; exact rounds_len _ _ _ (by rw [H1.out]; rfl) _)
              have d0 : wr.cell? ⟨w.heap.size + 4, 0, none⟩ = some (.int .u32 b0) := by rw [hs2.s.cell (i := 0) (by omega), hS8]; rfl
              have d1 : wr.cell? ⟨w.heap.size + 4, 1, none⟩ = some (.int .u32 b1) := by rw [hs2.s.cell (i := 1) (by omega), hS8]; rfl
              have d2 : wr.cell? ⟨w.heap.size + 4, 2, none⟩ = some (.int .u32 b2) := by rw [hs2.s.cell (i := 2) (by omega), hS8]; rfl
              have d3 : wr.cell? ⟨w.heap.size + 4, 3, none⟩ = some (.int .u32 b3) := by rw [hs2.s.cell (i := 3) (by omega), hS8]; rfl
              have d4 : wr.cell? ⟨w.heap.size + 4, 4, none⟩ = some (.int .u32 b4) := by rw [hs2.s.cell (i := 4) (by omega), hS8]; rfl
              have d5 : wr.cell? ⟨w.heap.size + 4, 5, none⟩ = some (.int .u32 b5) := by rw [hs2.s.cell (i := 5) (by omega), hS8]; rfl
              have d6 : wr.cell? ⟨w.heap.size + 4, 6, none⟩ = some (.int .u32 b6) := by rw [hs2.s.cell (i := 6) (by omega), hS8]; rfl
              have d7 : wr.cell? ⟨w.heap.size + 4, 7, none⟩ = some (.int .u32 b7) := by rw [hs2.s.cell (i := 7) (by omega), hS8]; rfl
              have e1 : wr.cell? ⟨w.heap.size + 1, n, none⟩ = some (.int .u32 (ks.getD n 0)) := hs2.k.cell (by omega)
              have e2 : wr.cell? ⟨w.heap.size + 1 + 1 + 1, n, none⟩ = some (.int .u32 (W.getD n 0)) := hs2.v.cell (by omega)
              have f0 := hs2.s.frozen 0
              have f1 := hs2.s.frozen 1
              have f2 := hs2.s.frozen 2
              have f3 := hs2.s.frozen 3
              have f4 := hs2.s.frozen 4
              have f5 := hs2.s.frozen 5
              have f6 := hs2.s.frozen 6
              have f7 := hs2.s.frozen 7
              generalize hx : ks.getD n 0 = x at *
              generalize hy : W.getD n 0 = y at *
              have HX := Lib.hid (And.intro hS (And.intro hS8 (And.intro hx hy)))
              clear hS hS8 hx hy hsz
              go_wp2
              go_quiet (fail)
              go_wp2
              go_quiet ((go_at_call 118; exact quietAdd (rot_any _ _ _ (by omega) (by omega))))
              go_wp2_with (go_at_call 118; refine (rot_any _ _ _ (by omega) (by omega)).mono ?_; rintro e w' ⟨rfl, rfl⟩)
              go_roundw
              case rel =>
                refine ⟨n + 1, by omega, by go_num, ?_⟩
                obtain ⟨hS, hS8, hx, hy⟩ := HX.out
                have e : rounds' ks W st (n + 1) = roundOf [b0, b1, b2, b3, b4, b5, b6, b7] x y := by rw [rounds', ← hS, hS8, hx, hy]
                rw [e]
                rw [hS8] at hs2
                exact ((((((((hs2.drewN _).put 0 _ rfl (by omega)).put 1 _ rfl (by omega)).put 2 _ rfl (by omega)).put 3 _ rfl (by omega)).put 4 _ rfl (by omega)).put 5 _ rfl (by omega)).put 6 _ rfl (by omega)).put 7 _ rfl (by omega)
              case measure => simp [intOf]; omega
            · have hd : decide ((n : Int) < 64) = false := by simp; omega
              have e64 : n = 64 := by omega
              rw [hS, e64] at hs2
              have HN := Lib.hid e64
              clear hS e64 hsz
              obtain ⟨R, hR⟩ : ∃ R, R = rounds' ks W st 64 := ⟨_, rfl⟩
              rw [← hR] at hs2
              have hR8 : R.length = 8 := by rw [hR]; exact rounds_len _ _ _ (by rw [H1.out]; rfl) _
              have HR := Lib.hid (And.intro hR hR8)
              clear hR hR8
              go_wp2
              go_loopw [166] (fun i wi => ∃ m : Nat, m ≤ 8 ∧ i = .int .i64 (m : Int) ∧ SR2 w st ks W (addAll st R m) wi) (fun i _ => 8 - (intOf i).toNat)
              case atStart => exact ⟨0, by omega, rfl, hs2⟩
              case round =>
                obtain ⟨m, hm, rfl, hs3⟩ := hrel
                obtain ⟨A, hA⟩ : ∃ A, A = addAll st R m := ⟨_, rfl⟩
                rw [← hA] at hs3
                have hA8 : A.length = 8 := by rw [hA, addAll_len]; exact HR.out.2
                by_cases hlm : m < 8
                · have hb : (m : Int) < 8 := by omega
                  have c1 : wr.cell? ⟨w.heap.size + 4, m, none⟩ = some (.int .u32 (A.getD m 0)) := hs3.s.cell (by omega)
                  have c2 : wr.cell? ⟨w.heap.size, m, none⟩ = some (.int .u32 (st.getD m 0)) := hs3.a.cell (by omega)
                  have hf := hs3.s.frozen m
                  generalize hx : A.getD m 0 = x at *
                  generalize hy : st.getD m 0 = y at *
                  have HX := Lib.hid (And.intro hA (And.intro hA8 (And.intro hx hy)))
                  clear hA hA8 hx hy
                  go_wp2
                  refine region_st 8 (by kernel_rfl) (by kernel_rfl) ?_
                  simp only [List.take_succ_cons, List.take_zero, List.drop_succ_cons, List.drop_zero]
                  repeat still_step
                  refine wpStill_nil ?_
                  go_wp2
                  go_roundw
                  case rel =>
                    refine ⟨m + 1, by omega, by go_num, ?_⟩
                    obtain ⟨hA, hA8, hx, hy⟩ := HX.out
                    rw [addAll, ← hA, hx, hy]
                    exact (hs3.put m _ hA8 (by omega)).drewN 1
                  case measure => simp [intOf]; omega
                · have e8 : m = 8 := by omega
                  rw [hA, e8] at hs3
                  rw [hA, e8] at hA8
                  clear e8 hA
                  obtain ⟨b0, b1, b2, b3, b4, b5, b6, b7, hS8⟩ := list8 _ hA8
                  clear hA8
                  have d0 : wr.cell? ⟨w.heap.size + 4, 0, none⟩ = some (.int .u32 b0) := by rw [hs3.s.cell (i := 0) (by omega), hS8]; rfl
                  have d1 : wr.cell? ⟨w.heap.size + 4, 1, none⟩ = some (.int .u32 b1) := by rw [hs3.s.cell (i := 1) (by omega), hS8]; rfl
                  have d2 : wr.cell? ⟨w.heap.size + 4, 2, none⟩ = some (.int .u32 b2) := by rw [hs3.s.cell (i := 2) (by omega), hS8]; rfl
                  have d3 : wr.cell? ⟨w.heap.size + 4, 3, none⟩ = some (.int .u32 b3) := by rw [hs3.s.cell (i := 3) (by omega), hS8]; rfl
                  have d4 : wr.cell? ⟨w.heap.size + 4, 4, none⟩ = some (.int .u32 b4) := by rw [hs3.s.cell (i := 4) (by omega), hS8]; rfl
                  have d5 : wr.cell? ⟨w.heap.size + 4, 5, none⟩ = some (.int .u32 b5) := by rw [hs3.s.cell (i := 5) (by omega), hS8]; rfl
                  have d6 : wr.cell? ⟨w.heap.size + 4, 6, none⟩ = some (.int .u32 b6) := by rw [hs3.s.cell (i := 6) (by omega), hS8]; rfl
                  have d7 : wr.cell? ⟨w.heap.size + 4, 7, none⟩ = some (.int .u32 b7) := by rw [hs3.s.cell (i := 7) (by omega), hS8]; rfl
                  have r0 := hs3.r.cell (i := 0) (by omega)
                  have r1 := hs3.r.cell (i := 1) (by omega)
                  have r2 := hs3.r.cell (i := 2) (by omega)
                  have r3 := hs3.r.cell (i := 3) (by omega)
                  have r4 := hs3.r.cell (i := 4) (by omega)
                  have r5 := hs3.r.cell (i := 5) (by omega)
                  have r6 := hs3.r.cell (i := 6) (by omega)
                  have r7 := hs3.r.cell (i := 7) (by omega)
                  have f0 := hs3.r.frozen 0
                  have f1 := hs3.r.frozen 1
                  have f2 := hs3.r.frozen 2
                  have f3 := hs3.r.frozen 3
                  have f4 := hs3.r.frozen 4
                  have f5 := hs3.r.frozen 5
                  have f6 := hs3.r.frozen 6
                  have f7 := hs3.r.frozen 7
                  have HS := Lib.hid hS8
                  clear hS8
                  go_wp2
                  refine bodyPost_ret (v := .agg #[.int .u32 b0, .int .u32 b1, .int .u32 b2, .int .u32 b3, .int .u32 b4, .int .u32 b5, .int .u32 b6, .int .u32 b7]) (by simp [results, Tryz.results84, go_sem, r0, r1, r2, r3, r4, r5, r6, r7]) rfl ⟨?_, ?_⟩
                  · have e : stepOf st s.data.toList ks = [b0, b1, b2, b3, b4, b5, b6, b7] := by rw [stepOf, ← HW.out, ← HR.out.1, HS.out]
                    rw [e]; rfl
                  · exact (((((((hs3.bel.setCell (by simp; omega) _).setCell (by simp; omega) _).setCell (by simp; omega) _).setCell (by simp; omega) _).setCell (by simp; omega) _).setCell (by simp; omega) _).setCell (by simp; omega) _).setCell (by simp; omega) _
end Go.Proofs.YtjcbohbpkodkoaaGreatDoor.Sha

/- Contracts of digest.start, constants. -/
namespace Go.Proofs.YtjcbohbpkodkoaaGreatDoor.Sha
open Go.RowKit

set_option maxHeartbeats 1000000 in
set_option maxRecDepth 100000 in
theorem start_any (w : World) : Calls Tryz.prog 82 #[] w fun e w' => e = .returned (.agg #[.int .u32 1779033703, .int .u32 3144134277, .int .u32 1013904242, .int .u32 2773480762, .int .u32 1359893119, .int .u32 2600822924, .int .u32 528734635, .int .u32 1541459225]) ∧ Below w.heap.size w w' := by
  go_enter Tryz.func82, Tryz.ntmps82
  go_wp2
  refine bodyPost_ret (results_cell_row (p := 0) (ty := 123) rfl _ _ w.heap.size 123 _ (0, 0) _ rfl (heap_alloc_new w _) Tryz.underlying123 rfl (by kernel_rfl)) rfl ⟨rfl, (Below.refl _ _).alloc (Nat.le_refl _) _⟩

theorem build_is {P : Program} {ops : Array Oper} {rest : List Oper} {o : Oper} {a : Act} {w : World} {Q : Exit → Act → World → Prop} (hg : o.guard = none) (t : TypeId) (parts : Array (Nat × Operand)) (ho : o.op = .build t parts)
    (cs : Array Value) (hf : P.built t (parts.map fun (i, x) => (i, a.eval x)).toList = some cs)
    (h : wpList P ops Q rest (a.put o.dst (.agg cs)) w) : wpList P ops Q (o :: rest) a w :=
  wpList_build hg t parts ho (by rw [hf]; rfl) (by rw [hf]; exact h)
def KA : Array Value := ⟨K64.map (Value.int .u32)⟩

set_option maxHeartbeats 1000000 in
set_option maxRecDepth 100000 in
theorem constants_any (w : World) : Calls Tryz.prog 83 #[] w fun e w' => e = .returned (.agg KA) ∧ Below w.heap.size w w' := by
  go_enter Tryz.func83, Tryz.ntmps83
  go_wp2_with (first
    | (refine build_is rfl 125 _ rfl KA (by kernel_rfl) ?_)
    | (refine wpList_store_row rfl 125 _ _ rfl w.heap.size KA rfl rfl 125 _ (heap_alloc_new w _) (by kernel_rfl) (by kernel_rfl) (by kernel_rfl) ?_))
  rw [World.setRow_alloc_new]
  refine bodyPost_ret (results_cell_row (p := 0) (ty := 125) rfl _ _ w.heap.size 125 KA (0, 0) _ rfl (heap_alloc_new w _) Tryz.underlying125 rfl (by kernel_rfl)) rfl ⟨rfl, (Below.refl _ _).alloc (Nat.le_refl _) _⟩
end Go.Proofs.YtjcbohbpkodkoaaGreatDoor.Sha

/- Contract of digest.padded. -/
namespace Go.Proofs.YtjcbohbpkodkoaaGreatDoor.Sha
open Go.RowKit

def zerosOf (n : Nat) : Nat := (119 - n % 64) % 64
/-- the i-th last byte of the length in bits -/
def lenByte (n i : Nat) : UInt8 := UInt8.ofNat (n * 8 / 2 ^ i)
def lenBytes (n : Nat) : Nat → List UInt8
  | 0 => []
  | j + 1 => lenBytes n j ++ [lenByte n (56 - 8 * j)]
def zeroL (r : Nat) : List UInt8 := List.replicate r 0
theorem zeroL_len (r : Nat) : (zeroL r).length = r := by simp [zeroL]
theorem repeat_zero (r : Nat) : Lib.repeatL [0] r = zeroL r := by
  induction r with
  | zero => rfl
  | succ n ih => rw [Lib.repeatL, ih]; rfl
theorem zeros_any (r : Nat) (w : World) (h : r ≤ 64) : Calls Tryz.prog 78 #[.string ⟨#[0]⟩, .int .i64 r] w fun e w' => e = .returned (.string ⟨(zeroL r).toArray⟩) ∧ Below w.heap.size w w' := by
  have := Tryz.strings_Repeat ⟨#[0]⟩ r w (by omega) (by show 1 * r ≤ _; omega)
  rw [show (⟨#[0]⟩ : ByteArray).data.toList = [0] from rfl, repeat_zero] at this
  exact this
theorem lenBytes_len (n j : Nat) : (lenBytes n j).length = j := by
  induction j with
  | zero => rfl
  | succ n ih => simp [lenBytes, ih]
theorem conv1 (w : World) (z : Int) : (convert 84 9 (.slice (some ⟨w.heap.size, 0, none⟩) 1 1)).run Tryz.prog (w.alloc (.cells #[.int .u8 z] 5)) = .ok (.string ⟨#[UInt8.ofNat z.toNat]⟩) (w.alloc (.cells #[.int .u8 z] 5)) := by
  have := run_convert_bytes_arg (P := Tryz.prog) (w.alloc (.cells #[.int .u8 z] 5)) 84 5 Tryz.underlying84 Tryz.underlying5 w.heap.size 0 1 1 [z] rfl (fun i hi => by
    obtain rfl : i = 0 := by omega
    rw [cell_of_row _ _ _ _ _ _ (heap_alloc_new w _)]; rfl) 9 Tryz.underlying9
  exact this
theorem lenByte_of (n c : Nat) (N : Int) (h : (n : Int) * 8 = N) : UInt8.ofNat (N / 2 ^ c % 256).toNat = lenByte n c := by
  subst h
  have e : ((n : Int) * 8 / 2 ^ c % 256).toNat = n * 8 / 2 ^ c % 256 := by
    have : ((n : Int) * 8 / 2 ^ c % 256) = ((n * 8 / 2 ^ c % 256 : Nat) : Int) := by rw [Int.natCast_emod, Int.natCast_ediv, Int.natCast_mul, Int.natCast_pow]; rfl
    rw [this]; rfl
  rw [e, lenByte]
  apply UInt8.toNat_inj.1
  simp
def padHead (s : List UInt8) : List UInt8 := s ++ (128 :: zeroL (zerosOf s.length))
def padOf (s : List UInt8) : List UInt8 := padHead s ++ lenBytes s.length 8

set_option maxHeartbeats 1000000 in
set_option maxRecDepth 100000 in
theorem padded_any (s : ByteArray) (w : World) (hs : s.size ≤ 140737488351232) :
    Calls Tryz.prog 81 #[.string s] w fun e w' => e = .returned (.string ⟨(padOf s.data.toList).toArray⟩) ∧ Below w.heap.size w w' := by
  obtain ⟨r, hr⟩ : ∃ r : Nat, r = zerosOf s.size := ⟨_, rfl⟩
  have hr64 : r < 64 := by rw [hr, zerosOf]; omega
  have hw : (119 - (s.size : Int) % 64) % 64 = (r : Int) := by rw [hr, zerosOf]; omega
  have HR := Lib.hid hr
  clear hr
  go_enter Tryz.func81, Tryz.ntmps81
  go_wp2_with fail
  refine (zeros_any r w (by omega)).mono ?_
  rintro e w1 ⟨rfl, hb1⟩
  have hl : (zeroL r).length ≤ 64 := by rw [zeroL_len]; omega
  go_wp2_with fail
  go_loopw [0, 4] (fun v i wr => ∃ j : Nat, j ≤ 8 ∧ i = .int .i64 (56 - 8 * (j : Int)) ∧ v = .string ⟨(padHead s.data.toList ++ lenBytes s.size j).toArray⟩ ∧ Below w.heap.size w wr) (fun _ i _ => (64 + intOf i).toNat)
  case atStart =>
    refine ⟨0, by omega, rfl, ?_, hb1⟩
    have : padHead s.data.toList = s.data.toList ++ (128 :: zeroL r) := by rw [HR.out]; rfl
    rw [this]
    exact congrArg Value.string (by apply ByteArray.ext; simp [lenBytes])
  case round =>
    obtain ⟨j, hj, rfl, rfl, hb⟩ := hrel
    obtain ⟨P, hP⟩ : ∃ P, P = padHead s.data.toList ++ lenBytes s.size j := ⟨_, rfl⟩
    rw [← hP]
    have HP := Lib.hid hP
    clear hP
    by_cases hlt : j < 8
    · obtain ⟨c, hc⟩ : ∃ c : Nat, 56 - 8 * (j : Int) = (c : Int) := ⟨56 - 8 * j, by omega⟩
      have hc64 : (c : Int) ≤ 64 := by omega
      have hPl : P.length ≤ 140737488352000 := by rw [HP.out]; simp only [List.length_append, lenBytes_len, padHead, List.length_cons, zeroL_len]; simp [zerosOf]; omega
      rw [hc]
      have HC := Lib.hid hc
      clear hc hw
      obtain ⟨N, hN⟩ : ∃ N : Int, (s.size : Int) * 8 = N := ⟨_, rfl⟩
      have hN0 : 0 ≤ N := by omega
      rw [hN]
      have HN := Lib.hid hN
      clear hN
      have hcv := conv1 wr
      go_wp2_with fail
      go_roundw
      case rel =>
        refine ⟨j + 1, by omega, ?_, ?_, hb.alloc (by have := hb.size; omega) _⟩
        · have := HC.out
          exact congrArg (Value.int .i64) (by push_cast; omega)
        · rw [lenByte_of s.size c N HN.out]
          have e : padHead s.data.toList ++ lenBytes s.size (j + 1) = P ++ [lenByte s.size c] := by
            rw [lenBytes, ← List.append_assoc, ← HP.out, show 56 - 8 * j = c from by have := HC.out; omega]
          rw [e]
          exact congrArg Value.string (by apply ByteArray.ext; simp)
      case measure => have := HC.out; simp [intOf]; omega
    · go_wp2_with fail
      go_ret
      refine ⟨?_, hb⟩
      have e : P = padOf s.data.toList := by
        obtain rfl : j = 8 := by omega
        rw [HP.out]; rfl
      subst e
      rfl
end Go.Proofs.YtjcbohbpkodkoaaGreatDoor.Sha

/- Small words for memory: appends of bytes to a slice of the call's own, whole rows, an index into an array value. -/
namespace Go.Proofs.YtjcbohbpkodkoaaGreatDoor.Sha
open Go.RowKit

theorem still_load_row {P : Program} {ops : Array Oper} {rest : List Oper} {o : Oper} {a : Act} {w : World} {Q : Act → Prop} (hgd : o.guard = none) (ty : TypeId) (x : Operand) (ho : o.op = .load ty x)
    (g : Nat) (hx : a.eval x = .pointer (some ⟨g, 0, none⟩)) (t : TypeId) (cs : Array Value) (fr : Nat × Nat) (d : TypeDesc) (hg : w.heap[g]? = some (.cells cs t fr))
    (hu : P.underlying ty = some d) (hd : (match d with | .struct _ | .array _ _ => true | _ => false) = true) (hi : (P.info? ty).map (·.size) = some cs.size)
    (h : wpStill P ops w Q rest (a.put o.dst (.agg cs))) : wpStill P ops w Q (o :: rest) a := by
  have hw : Region.wanted o (yielded ops a.tmps) = true := by simp [Region.wanted, hgd]
  unfold wpStill
  rw [if_pos hw]
  unfold Oper.still execOp
  simp only [ho, hx, Instr.loadAt, Instr.sureAddr, Sem.run_bind, Sem.run_pure, Result.andThen_ok, run_loadVar_row w g t ty cs fr d hg hu hd hi]
  rw [Oper.stillUpon_value]
  exact h

def U8s (ns : List Int) : List Value := ns.map (Value.int .u8)
/-- v is a slice of bytes of the call's own (from block B on), with the numbers ns. -/
def OwnB (B : Nat) (w : World) (v : Value) (ns : List Int) : Prop := w.ownsRow B 5 1 v ns.length (U8s ns)
theorem info5 : (Tryz.prog.info? 5).map (fun i => (i.zero, i.size, i.bytes)) = some (some (.int .u8 0), 1, 1) := by kernel_rfl
theorem OwnB.nil (B : Nat) (w : World) : OwnB B w (.slice none 0 0) [] := ⟨by simp [U8s], .inl ⟨rfl, rfl⟩⟩

theorem op_append_bytes {o : Oper} {a : Act} {K : Act → World → Prop} {Q : Exit → Act → World → Prop} (s x : Operand)
    (ho : o.op = .call { callee := .builtin .append, args := #[s, x], argTypes := #[84, 84] })
    (B : Nat) (v : Value) (ns : List Int) (w : World) (zs : List Int) (hs : a.eval s = v) (hown : OwnB B w v ns) (hx : a.eval x = .slice (some ⟨w.heap.size, 0, none⟩) zs.length zs.length)
    (hB : B ≤ w.heap.size) (hn : ns.length + zs.length ≤ 140737488355328)
    (h : ∀ v' w', OwnB B w' v' (ns ++ zs) → Below B w w' → K (a.put o.dst v') w') : o.wp Tryz.prog a (w.alloc (.cells ⟨U8s zs⟩ 5)) K Q := by
  obtain ⟨i0, hi, hz0, hz1, hz2⟩ := info_parts info5
  refine wp_append_own _ s x 84 ho B 5 i0 (.int .u8 0) 1 1 Tryz.underlying84 hi hz0 hz1 hz2 rfl (by decide) v ns.length (U8s ns) hs (World.ownsRow.alloc hown _) ⟨w.heap.size, 0, none⟩ zs.length zs.length (U8s zs) hx (by simp [U8s]) ?_ ?_ ?_ ?_ ?_ ?_
  · intro j u hu
    have hadd : (⟨w.heap.size, 0, none⟩ : Addr).add j = ⟨w.heap.size, j, none⟩ := by unfold Addr.add; split <;> simp_all
    rw [hadd, cell_of_row _ _ _ _ _ _ (heap_alloc_new w _)]
    simpa using hu
  · intro u hu
    simp only [U8s, List.mem_map] at hu
    obtain ⟨z, _, rfl⟩ := hu
    rfl
  · simp only [maxLen]; omega
  · omega
  · simp; omega
  · intro v' w' h2 h3 _
    refine h v' w' ?_ ?_
    · unfold OwnB
      rw [List.length_append]
      simpa [U8s] using h2
    · have hlt := World.ownsRow.lt hown
      exact ((Below.refl B w).alloc hB _).grown h3 (by simp; omega) (fun k hk => (hlt k hk).1)
theorem wp_append_bytes {ops : Array Oper} {rest : List Oper} {o : Oper} {a : Act} {Q : Exit → Act → World → Prop} (hgd : o.guard = none) (s x : Operand)
    (ho : o.op = .call { callee := .builtin .append, args := #[s, x], argTypes := #[84, 84] })
    (B : Nat) (v : Value) (ns : List Int) (w : World) (zs : List Int) (hs : a.eval s = v) (hown : OwnB B w v ns) (hx : a.eval x = .slice (some ⟨w.heap.size, 0, none⟩) zs.length zs.length)
    (hB : B ≤ w.heap.size) (hn : ns.length + zs.length ≤ 140737488355328)
    (h : ∀ v' w', OwnB B w' v' (ns ++ zs) → Below B w w' → wpList Tryz.prog ops Q rest (a.put o.dst v') w') : wpList Tryz.prog ops Q (o :: rest) a (w.alloc (.cells ⟨U8s zs⟩ 5)) :=
  wpList_plain hgd fun _ hK => op_append_bytes s x ho B v ns w zs hs hown hx hB hn fun v' w' h2 h3 => hK _ _ (h v' w' h2 h3)
theorem step_append_bytes {ops : Array Oper} {o : Oper} {a : Act} {K : Act → World → Prop} {Q : Exit → Act → World → Prop} {E : Prop} (hgd : o.guard = none) (s x : Operand)
    (ho : o.op = .call { callee := .builtin .append, args := #[s, x], argTypes := #[84, 84] })
    (B : Nat) (v : Value) (ns : List Int) (w : World) (zs : List Int) (hs : a.eval s = v) (hown : OwnB B w v ns) (hx : a.eval x = .slice (some ⟨w.heap.size, 0, none⟩) zs.length zs.length)
    (hB : B ≤ w.heap.size) (hn : ns.length + zs.length ≤ 140737488355328)
    (h : ∀ v' w', OwnB B w' v' (ns ++ zs) → Below B w w' → K (a.put o.dst v') w') :
    if Region.wanted o (yielded ops a.tmps) = true then Oper.wp Tryz.prog o a (w.alloc (.cells ⟨U8s zs⟩ 5)) K Q else E := by
  have hw : Region.wanted o (yielded ops a.tmps) = true := by simp [Region.wanted, hgd]
  rw [if_pos hw]
  exact op_append_bytes s x ho B v ns w zs hs hown hx hB hn h
theorem conv_own (B : Nat) (w : World) (v : Value) (ns : List Int) (h : OwnB B w v ns) : (convert 84 9 v).run Tryz.prog w = .ok (.string (strOfNums ns)) w := by
  rcases h.2 with ⟨rfl, h0⟩ | ⟨g, cap, cur, rfl, _, hg, hc, _, hsz, htake⟩
  · have : ns = [] := List.eq_nil_of_length_eq_zero h0
    subst this
    rw [run_convert_bytes_nil w 84 5 Tryz.underlying84 Tryz.underlying5 0 0 9 Tryz.underlying9]
    rfl
  · exact run_convert_bytes_arg w 84 5 Tryz.underlying84 Tryz.underlying5 g 0 ns.length cap ns rfl (fun i hi => by
      rw [Nat.zero_add, cell_of_row _ _ _ _ _ _ hg]
      have h1 : (cur.toList.take (ns.length * 1))[i]? = (U8s ns)[i]? := by rw [htake]
      rw [List.getElem?_take, if_pos (by omega)] at h1
      rw [← Array.getElem?_toList, h1]
      simp [U8s, hi]) 9 Tryz.underlying9

set_option maxRecDepth 100000 in
theorem index_arr8 (S : List Int) (k : Nat) (hl : S.length = 8) (hk : k < 8) (w : World) : (Instr.index 123 (.agg ⟨S.map (Value.int .u32)⟩) (.int .i64 (k : Int))).run Tryz.prog w = .ok (.int .u32 (S.getD k 0)) w := by
  obtain ⟨a, b, c, d, e, f, g, i, rfl⟩ := list8 S hl
  rcases k with _ | _ | _ | _ | _ | _ | _ | _ | k
  all_goals first | omega | rfl
end Go.Proofs.YtjcbohbpkodkoaaGreatDoor.Sha

/- The reference's rot, starts, roots; how its words are made. -/
namespace Go.Proofs.YtjcbohbpkodkoaaGreatDoor.Sha
open Go.RowKit

theorem bits_or_comm (a b : Int) : bits .or .u32 a b = bits .or .u32 b a := by
  show IntKind.u32.wrap ((BitVec.ofInt 32 a ||| BitVec.ofInt 32 b).toNat : Int) = IntKind.u32.wrap ((BitVec.ofInt 32 b ||| BitVec.ofInt 32 a).toNat : Int)
  rw [BitVec.or_comm]
set_option maxHeartbeats 400000 in
theorem rrot_core (x : Int) (n m : Nat) (w : World) (hn : n ≤ 32) (hm : m ≤ 32) (hs : IntKind.i64.wrap (32 - (n : Int)) = (m : Int)) :
    Calls Tryz.prog 122 #[.int .u32 x, .int .i64 (n : Int)] w fun e w' => e = .returned (.int .u32 (bits .or .u32 (x / 2 ^ n) (IntKind.u32.wrap (x * 2 ^ m)))) ∧ ∃ k, w' = w.drewN k := by
  have hb1 : (m : Int) ≤ 32 := by omega
  have hb2 : (n : Int) ≤ 32 := by omega
  go_enter Tryz.func122, Tryz.ntmps122
  go_wp2_with fail
  go_quiet (fail)
  go_wp2_with fail
  go_ret
  exact ⟨rfl, _, rfl⟩
theorem rrot_any (x : Int) (n : Int) (w : World) (h1 : 1 ≤ n) (h2 : n ≤ 31) :
    Calls Tryz.prog 122 #[.int .u32 x, .int .i64 n] w fun e w' => e = .returned (.int .u32 (rotr x n.toNat)) ∧ ∃ k, w' = w.drewN k := by
  obtain ⟨k, rfl⟩ := Int.eq_ofNat_of_zero_le (show 0 ≤ n by omega)
  have h := rrot_core x k (32 - k) w (by omega) (by omega) (by rw [IntWalk.i64_in _ (by omega)]; omega)
  rw [bits_or_comm, IntKind.wrap_u32] at h
  exact h
theorem quietAdd2 {P : Program} {f : FuncId} {args : Array Value} {w : World} {a n : Nat} {v : Value}
    (h : Calls P f args (w.drewN (a + n)) fun e w' => e = .returned v ∧ ∃ m, w' = (w.drewN (a + n)).drewN m) :
    Calls P f args (w.drewN (a + n)) fun e w'' => e = .returned v ∧ ∃ m, w'' = w.drewN (a + m) :=
  h.mono fun _ _ ⟨he, m, hm⟩ => ⟨he, n + m, by rw [hm, World.drewN_drewN, Nat.add_assoc]⟩
theorem quietOf2 {P : Program} {f : FuncId} {args : Array Value} {w : World} {n : Nat} {v : Value}
    (h : Calls P f args (w.drewN n) fun e w' => e = .returned v ∧ ∃ m, w' = (w.drewN n).drewN m) :
    Calls P f args (w.drewN n) fun e w'' => e = .returned v ∧ ∃ m, w'' = w.drewN m :=
  h.mono fun _ _ ⟨he, m, hm⟩ => ⟨he, n + m, by rw [hm, World.drewN_drewN]⟩
set_option maxHeartbeats 1000000 in
set_option maxRecDepth 100000 in
theorem starts_any (w : World) : Calls Tryz.prog 88 #[] w fun e w' => e = .returned (.agg #[.int .u32 1779033703, .int .u32 3144134277, .int .u32 1013904242, .int .u32 2773480762, .int .u32 1359893119, .int .u32 2600822924, .int .u32 528734635, .int .u32 1541459225]) ∧ Below w.heap.size w w' := by
  go_enter Tryz.func88, Tryz.ntmps88
  go_wp2
  refine bodyPost_ret (results_cell_row (p := 0) (ty := 123) rfl _ _ w.heap.size 123 _ (0, 0) _ rfl (heap_alloc_new w _) Tryz.underlying123 rfl (by kernel_rfl)) rfl ⟨rfl, (Below.refl _ _).alloc (Nat.le_refl _) _⟩
set_option maxHeartbeats 1000000 in
set_option maxRecDepth 100000 in
theorem roots_any (w : World) : Calls Tryz.prog 123 #[] w fun e w' => e = .returned (.agg KA) ∧ Below w.heap.size w w' := by
  go_enter Tryz.func123, Tryz.ntmps123
  go_wp2_with (first
    | (refine build_is rfl 125 _ rfl KA (by kernel_rfl) ?_)
    | (refine wpList_store_row rfl 125 _ _ rfl w.heap.size KA rfl rfl 125 _ (heap_alloc_new w _) (by kernel_rfl) (by kernel_rfl) (by kernel_rfl) ?_))
  rw [World.setRow_alloc_new]
  refine bodyPost_ret (results_cell_row (p := 0) (ty := 125) rfl _ _ w.heap.size 125 KA (0, 0) _ rfl (heap_alloc_new w _) Tryz.underlying125 rfl (by kernel_rfl)) rfl ⟨rfl, (Below.refl _ _).alloc (Nat.le_refl _) _⟩

/-- the reference's word -/
def refWord (s : List UInt8) (t : Nat) : Int := bits .or .u32 (bits .or .u32 (bits .or .u32 (byteAt s (4 * t) * 16777216 % 4294967296) (byteAt s (4 * t + 1) * 65536 % 4294967296)) (byteAt s (4 * t + 2) * 256 % 4294967296)) (byteAt s (4 * t + 3))
theorem or_join (i a b : Nat) (ha : a < 4294967296) (hb : b < 4294967296) (hx : a % 2 ^ i = 0) (hy : b < 2 ^ i) : bits .or .u32 (a : Int) (b : Int) = ((a + b : Nat) : Int) := by
  rw [u32_or_nat a b ha hb, nat_join i a b hx hy]
theorem byteAt_nat (s : List UInt8) (i : Nat) : ∃ b : Nat, b < 256 ∧ byteAt s i = (b : Int) := ⟨_, (s.getD i 0).toNat_lt, rfl⟩
theorem or_eq (i : Nat) (x y z : Int) (a b : Nat) (hx : x = (a : Int)) (hy : y = (b : Int)) (ha : a < 4294967296) (hb : b < 4294967296) (h0 : a % 2 ^ i = 0) (h1 : b < 2 ^ i) (hz : z = ((a + b : Nat) : Int)) : bits .or .u32 x y = z := by
  subst hx hy hz
  exact or_join i a b ha hb h0 h1
theorem refWord_eq (s : List UInt8) (t : Nat) : refWord s t = part s t 4 := by
  obtain ⟨b0, h0, e0⟩ := byteAt_nat s (4 * t)
  obtain ⟨b1, h1, e1⟩ := byteAt_nat s (4 * t + 1)
  obtain ⟨b2, h2, e2⟩ := byteAt_nat s (4 * t + 2)
  obtain ⟨b3, h3, e3⟩ := byteAt_nat s (4 * t + 3)
  have l : refWord s t = ((b0 * 16777216 + b1 * 65536 + b2 * 256 + b3 : Nat) : Int) := by
    unfold refWord
    rw [e0, e1, e2, e3]
    refine or_eq 8 _ _ _ (b0 * 16777216 + b1 * 65536 + b2 * 256) b3 ?_ rfl (by omega) (by omega) (by omega) (by omega) rfl
    refine or_eq 16 _ _ _ (b0 * 16777216 + b1 * 65536) (b2 * 256) ?_ (by omega) (by omega) (by omega) (by omega) (by omega) rfl
    exact or_eq 24 _ _ _ (b0 * 16777216) (b1 * 65536) (by omega) (by omega) (by omega) (by omega) (by omega) (by omega) rfl
  have p1 : part s t 1 = (b0 : Int) := by
    rw [part, part, show 4 * t + 0 = 4 * t from rfl, e0]
    exact or_eq 8 _ _ _ 0 b0 (by omega) rfl (by omega) (by omega) (by omega) (by omega) (by omega)
  have p2 : part s t 2 = ((b0 * 256 + b1 : Nat) : Int) := by
    rw [part, p1, e1]
    exact or_eq 8 _ _ _ (b0 * 256) b1 (by omega) rfl (by omega) (by omega) (by omega) (by omega) rfl
  have p3 : part s t 3 = (((b0 * 256 + b1) * 256 + b2 : Nat) : Int) := by
    rw [part, p2, e2]
    exact or_eq 8 _ _ _ ((b0 * 256 + b1) * 256) b2 (by omega) rfl (by omega) (by omega) (by omega) (by omega) rfl
  rw [l, part, p3, e3]
  exact (or_eq 8 _ _ _ (((b0 * 256 + b1) * 256 + b2) * 256) b3 (by omega) rfl (by omega) (by omega) (by omega) (by omega) (by omega)).symm
end Go.Proofs.YtjcbohbpkodkoaaGreatDoor.Sha
