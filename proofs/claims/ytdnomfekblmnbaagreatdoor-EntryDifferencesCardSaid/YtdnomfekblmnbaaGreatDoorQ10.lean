/- Lines in another order, and with a line that is cut in two: plain. -/
import Derived.Test.YtdnomfekblmnbaaGreatDoorQ9
import Derived.Test.YtdnomfekblmnbaaGreatDoorQ3
import Derived.Test.YtdnomfekblmnbaaGreatDoorQ2
import Derived.Test.YtdnomfekblmnbaaGreatDoorQ5
import Derived.Test.YtdnomfekblmnbaaGreatDoorQ4
import Derived.Deep.Strs
import Derived.Lib.SmallJoins
import Derived.Test.YtdnomfekblmnbaaGreatDoorRows
import Derived.Below
import Derived.ChangeSame
import Derived.ProofKit
import Derived.OpenShut
import Derived.ShutString
import Derived.SliceStrings
import Derived.HandedShaped
import Derived.Test.YtdnomfekblmnbaaGreatDoorCards
import Derived.Test.YtdnomfekblmnbaaGreatDoorTie
import Derived.WalkKit
import Derived.LaidMore
import Derived.Stop.Joined
import Derived.Stop.LaidErr
import Derived.SevenTiedAt
import Derived.Lib.LaidTab
import Derived.Lay
namespace Go.Proofs.YtdnomfekblmnbaaGreatDoor
open Go.RowKit Go.Maps Num

/-- the first line cut in two, the further part at the end -/
def cutT (x : Ln) (r : List Ln) (cut : List UInt8) : List Ln := (x.1, x.2.1, txt (val x.2.2 - val cut)) :: r ++ [(x.1, x.2.1, can cut)]
theorem turn_tot (l : List Ln) (k : Nat) (q : Ky) : tot (l.drop k ++ l.take k) q = tot l q := by
  have h : tot l q = tot (l.take k ++ l.drop k) q := by rw [List.take_append_drop]
  rw [h, tot_append, tot_append]; omega
theorem turn_mem {l : List Ln} {k : Nat} {z : Ln} (h : z ∈ l.drop k ++ l.take k) : z ∈ l := by
  rcases List.mem_append.1 h with h | h
  · exact List.mem_of_mem_drop h
  · exact List.mem_of_mem_take h
theorem val_can (a : List UInt8) : val (can a) = val a := by rw [can, val_txt]
theorem cutT_tot (x : Ln) (r : List Ln) (cut : List UInt8) (q : Ky) : tot (cutT x r cut) q = tot (x :: r) q := by
  unfold cutT
  rw [tot_snoc, tot_cons, tot_cons]
  have e1 : key (x.1, x.2.1, txt (val x.2.2 - val cut)) = key x := rfl
  have e2 : key (x.1, x.2.1, can cut) = key x := rfl
  rw [e1, e2]
  by_cases h : key x = q
  · rw [if_pos h, if_pos h, if_pos h, val_can, val_txt]; omega
  · rw [if_neg h, if_neg h, if_neg h]; omega
theorem cutT_ln {x : Ln} {r : List Ln} {cut : List UInt8} (h : ∀ z ∈ x :: r, lineI z = 0) : ∀ z ∈ cutT x r cut, lineI z = 0 := by
  obtain ⟨h1, h2, _⟩ := lineI_iff.1 (h x (by simp))
  intro z hz
  unfold cutT at hz
  rcases List.mem_append.1 hz with hz | hz
  · rcases List.mem_cons.1 hz with rfl | hz
    · exact lineI_iff.2 ⟨h1, h2, canB_t⟩
    · exact h z (List.mem_cons_of_mem _ hz)
  · rw [List.mem_singleton.1 hz]
    exact lineI_iff.2 ⟨h1, h2, canB_t⟩
theorem Vld.cut {d : Int} {c : List UInt8} {l : List Ln} (h : Vld d c l) {k : Nat} {x : Ln} {r : List Ln} (e : l.drop k ++ l.take k = x :: r) (cut : List UInt8) :
    Nrd d c (cutT x r cut) ∧ nrmL (cutT x r cut) = l ∧ ∀ q, Num.tot (cutT x r cut) q = Num.tot l q := by
  have ht : ∀ q, Num.tot (cutT x r cut) q = Num.tot l q := fun q => by rw [cutT_tot, ← e, turn_tot]
  have hl : ∀ z ∈ cutT x r cut, lineI z = 0 := cutT_ln fun z hz => (h.ln z (turn_mem (by rw [e]; exact hz))).1
  obtain ⟨h1, h2⟩ := h.nrd.same hl ht
  exact ⟨h1, by rw [h2, h.nrm], ht⟩
theorem cut_len {m cut : List UInt8} (h1 : m.length ≤ 13) (h2 : cut.length ≤ 13) : (txt (val m - val cut)).length ≤ 15 ∧ (can cut).length ≤ 14 := by
  have a1 := val_bd m
  have a2 := val_bd cut
  have b1 : 10 ^ m.length ≤ 10 ^ 13 := Nat.pow_le_pow_right (by omega) h1
  have b2 : 10 ^ cut.length ≤ 10 ^ 13 := Nat.pow_le_pow_right (by omega) h2
  have e1 := txt_bd (v := val m - val cut) (k := 14) (by omega)
  have e2 := txt_bd (v := val cut) (k := 13) (by omega)
  exact ⟨e1, e2⟩
theorem cutT_fit {c : List UInt8} {l : List Ln} (hf : Fit c l) {k : Nat} {x : Ln} {r : List Ln} (e : l.drop k ++ l.take k = x :: r) {cut : List UInt8} (hc : cut.length ≤ 13) :
    ∀ z ∈ cutT x r cut, z.1.length ≤ 60 ∧ z.2.1.length ≤ 60 ∧ z.2.2.length ≤ 15 := by
  have hm : ∀ z ∈ x :: r, z.1.length ≤ 60 ∧ z.2.1.length ≤ 60 ∧ z.2.2.length ≤ 13 := fun z hz => hf.ln z (turn_mem (by rw [e]; exact hz))
  obtain ⟨h1, h2, h3⟩ := hm x (by simp)
  obtain ⟨e1, e2⟩ := cut_len h3 hc
  intro z hz
  unfold cutT at hz
  rcases List.mem_append.1 hz with hz | hz
  · rcases List.mem_cons.1 hz with rfl | hz
    · exact ⟨h1, h2, e1⟩
    · obtain ⟨g1, g2, g3⟩ := hm z (List.mem_cons_of_mem _ hz)
      exact ⟨g1, g2, by omega⟩
  · rw [List.mem_singleton.1 hz]
    exact ⟨h1, h2, by show (can cut).length ≤ 15; omega⟩
theorem cutT_sml {c : List UInt8} {l : List Ln} (hf : Fit c l) {k : Nat} {x : Ln} {r : List Ln} (e : l.drop k ++ l.take k = x :: r) {cut : List UInt8} (hc : cut.length ≤ 13) : ∀ z ∈ cutT x r cut, Sml z := fun z hz => by
  obtain ⟨h1, h2, h3⟩ := cutT_fit hf e hc z hz
  exact ⟨by omega, by omega, by omega⟩
theorem turn_cons {l : List Ln} {k : Nat} (h : 0 < l.length) : ∃ x r, l.drop k ++ l.take k = x :: r := by
  have h2 : 0 < (l.drop k ++ l.take k).length := by
    rw [List.length_append, List.length_drop, List.length_take]; omega
  match hq : l.drop k ++ l.take k, h2 with
  | x :: r, _ => exact ⟨x, r, rfl⟩
theorem turn_len (l : List Ln) (k : Nat) (h : k ≤ l.length) : (l.drop k ++ l.take k).length = l.length := by
  rw [List.length_append, List.length_drop, List.length_take]; omega
end Go.Proofs.YtdnomfekblmnbaaGreatDoor

/- Contract of the reference's Great, for any entries. -/
namespace Go.Proofs.YtdnomfekblmnbaaGreatDoor
open Go.RowKit Go.Maps Num

/-- what an entry of any size reads as -/
def RdG (w : World) (p : RE) : Prop := p.1.1 = p.2.1 ∧ p.1.2.1 = p.2.2.1 ∧ rowL.Rds w (rawA p.1) (rawN p.1) (rawC p.1) p.2.2.2
def grB (p : RE) : Bool := g1B p.2.2.1 p.2.2.2
def greatB (ps : List RE) : Bool := decide (10 < ps.length) || ps.any grB
theorem re_mem (l : List RE) (k : Nat) (h : k < l.length) : l.getD k re0 ∈ l := by
  rw [List.getD_eq_getElem?_getD, List.getElem?_eq_getElem h]
  exact List.getElem_mem h
theorem take_re (l : List RE) (k : Nat) (h : k < l.length) : l.take (k + 1) = l.take k ++ [l.getD k re0] := by
  rw [List.take_succ_eq_append_getElem h, List.getD_eq_getElem?_getD, List.getElem?_eq_getElem h]; rfl
set_option maxRecDepth 100000 in
set_option maxHeartbeats 4000000 in
theorem rgreat_any (A : Option Addr) (n c : Nat) (ps : List RE) (w : World) (hl : rowE.Rds w A n c ps) (hr : ∀ p ∈ ps, RdG w p) : Calls Tryz.prog 10 #[.slice A n c] w (BoolPost (greatB ps) w) := by
  have ll := Lib.hid hl.len
  have HP := Lib.hid (fun W b (h : greatB ps = b) (hb : Below w.heap.size w W) => (show BoolPost (greatB ps) w (.returned (.bool b)) W from ⟨by rw [h], hb⟩))
  have HG := Lib.hid (show greatB ps = (decide (10 < n) || ps.any grB) by rw [← hl.len]; rfl)
  generalize BoolPost (greatB ps) w = Post at *
  generalize greatB ps = r at *
  have L1 := Lib.hid hl
  have HR := Lib.hid hr
  clear hl hr
  go_enter Tryz.func10, Tryz.ntmps10
  by_cases h1 : 10 < n
  · have t1 : decide (10 < (n : Int)) = true := by rw [decide_eq_true_iff]; omega
    have hv := Lib.hid (show r = true by rw [HG.out, decide_eq_true h1]; rfl)
    clear h1
    go_wp2_with fail
    exact HP.out _ _ hv.out (Below.refl _ _)
  have t1 : decide (10 < (n : Int)) = false := by rw [decide_eq_false_iff_not]; omega
  have HG1 := Lib.hid (show r = ps.any grB by rw [HG.out, decide_eq_false h1, Bool.false_or])
  have hn10 : n ≤ 10 := by omega
  clear HG h1
  go_wp2_with fail
  go_loopw [3] (fun i wr => ∃ k : Nat, k ≤ n ∧ i = .int .i64 (k : Int) ∧ Hid (∀ x ∈ ps.take k, grB x = false) ∧ Hid (Below w.heap.size w wr)) (fun i _ => n - (intOf i).toNat)
  case atStart => exact ⟨0, by omega, rfl, Lib.hid (by simp), Lib.hid (Below.refl _ _)⟩
  case round =>
    obtain ⟨k, hk, rfl, HE, HB⟩ := hrel
    by_cases hlt : k < n
    · have hkl : k < ps.length := by rw [ll.out]; exact hlt
      obtain ⟨b1, o1, rfl, hb1, _⟩ := L1.out.at_ (by omega)
      obtain ⟨p0, p1, p2⟩ := rds_cells3 (L1.out.below HB.out) k hlt
      have hki : (k : Int) < (n : Int) := by omega
      have hm := re_mem ps k hkl
      obtain ⟨e1, e2, e3⟩ := HR.out _ hm
      have HT := Lib.hid (show grB (ps.getD k re0) = true → r = true from fun h => HG1.out.trans (List.any_eq_true.2 ⟨_, hm, h⟩))
      have HTK := Lib.hid (take_re ps k hkl)
      clear hkl hm
      generalize ps.getD k re0 = y at *
      obtain ⟨⟨d1, z1, A1, n1, m1⟩, ⟨d2, z2, k2⟩⟩ := y
      simp only [rawA, rawN, rawC] at p0 p1 p2 e1 e2 e3
      subst e1 e2
      have LC := Lib.hid (rgreat1_any d1 z1 A1 n1 m1 k2 wr (e3.below HB.out))
      unfold enV at LC
      obtain ⟨gy, hgy⟩ : ∃ gy, g1B z1 k2 = gy := ⟨_, rfl⟩
      rw [hgy] at LC
      have HYG := Lib.hid (show grB ((d1, z1, A1, n1, m1), (d1, z1, k2)) = gy from hgy)
      clear hgy e3
      go_wp2_with fail
      refine LC.out.mono ?_
      rintro e w' ⟨rfl, hb⟩
      have HB2 := Lib.hid (below_next HB.out hb ⟨rfl, rfl, rfl, rfl⟩)
      clear hb LC
      cases gy
      · have HE2 := Lib.hid (show ∀ x ∈ ps.take (k + 1), grB x = false from fun x hx => by
          rw [HTK.out] at hx
          rcases List.mem_append.1 hx with h | h
          · exact HE.out x h
          · rw [List.mem_singleton.1 h]; exact HYG.out)
        go_wp2_with fail
        go_roundw
        case rel => exact ⟨k + 1, by omega, by go_num, HE2, HB2⟩
        case measure => simp [intOf]; omega
      · have hv := Lib.hid (HT.out HYG.out)
        go_wp2_with fail
        exact HP.out _ _ hv.out HB2.out
    · have hkn : k = n := by omega
      subst hkn
      have hki : ¬ (k : Int) < (k : Int) := by omega
      have e := HE.out
      rw [List.take_of_length_le (by rw [ll.out]; exact Nat.le_refl _)] at e
      have hv := Lib.hid (show r = false by rw [HG1.out, List.any_eq_false]; exact fun x hx => by rw [e x hx]; decide)
      clear e HE
      go_wp2_with fail
      exact HP.out _ _ hv.out HB.out
end Go.Proofs.YtdnomfekblmnbaaGreatDoor

/- Arguments that are entries, or slices of entries, opened. -/
namespace Go.Proofs.YtdnomfekblmnbaaGreatDoor
open Go.RowKit Go.Maps Go.WideShapes Go.ChangeShapes Go.ChangeAt Go.Deep Num

theorem c9 : Tryz.prog.cellsOf 9 = 1 := by kernel_rfl
theorem c30 : Tryz.prog.cellsOf 30 = 1 := by kernel_rfl
theorem c29 : Tryz.prog.cellsOf 29 = 1 := by kernel_rfl
theorem c40 : Tryz.prog.cellsOf 40 = 1 := by kernel_rfl
theorem c45 : Tryz.prog.cellsOf 45 = 3 := by kernel_rfl
theorem c32 : Tryz.prog.cellsOf 32 = 3 := by kernel_rfl
theorem Row.Rds.mk_cells {α : Type} {R : Row α} (ok : R.Ok) (x0 : α) {W : World} {b o n c : Nat} {l : List α} (hl : l.length = n) (hc : n ≤ c) (ht : c ≤ maxLen) (hb : 0 < n → b < W.heap.size)
    (hx : ∀ k j, k < n → j < R.k → W.cell? ⟨b, o + k * R.k + j, none⟩ = (R.enc (l.getD k x0))[j]?) : R.Rds W (some ⟨b, o, none⟩) n c l :=
  ⟨hl, hc, ht, fun h0 => ⟨b, o, rfl, hb h0, fun j u hu => by
    have hj := (List.getElem?_eq_some_iff.1 hu).1
    rw [Row.vs_len ok, hl] at hj
    have k0 := ok.k0
    have hj2 : j / R.k < n := Nat.div_lt_of_lt_mul (by rwa [Nat.mul_comm] at hj)
    have h3 : j % R.k < R.k := Nat.mod_lt _ k0
    have e1 := Row.vs_at ok x0 l (j / R.k) (j % R.k) (by rw [hl]; exact hj2) h3
    have e2 : j / R.k * R.k + j % R.k = j := by rw [Nat.mul_comm]; exact Nat.div_add_mod j R.k
    rw [e2, hu] at e1
    have e3 := hx (j / R.k) (j % R.k) hj2 h3
    rw [Nat.add_assoc, e2] at e3
    rw [e3, e1]⟩⟩
section
variable {H : Type} {enc : TypeId × Value → H} {W : World} {sp : Nat → Bool} {held : Bool}
/-- a slice whose elements have three cells each -/
theorem trod_rows {α : Type} [Inhabited α] {R : Row α} (ok : R.Ok) (h3 : R.k = 3) (x0 : α) (Pq : α → Prop) {t e : TypeId} (ht : Tryz.prog.underlying t = some (.slice e)) (ce : Tryz.prog.cellsOf e = 3)
    (hel : ∀ (fuel : Nat) (v0 v1 v2 : Value) (y : DataW H × List MemPlace), DataW.trod enc Tryz.prog W 0 sp held fuel e [v0, v1, v2] = some y → ∃ x : α, R.enc x = [v0, v1, v2] ∧ Pq x)
    {fuel : Nat} {v : Value} {x : DataW H × List MemPlace} (h : DataW.trod enc Tryz.prog W 0 sp held fuel t [v] = some x) :
    ∃ A n c l, v = .slice A n c ∧ R.Rds W A n c l ∧ ∀ q ∈ l, Pq q := by
  rcases open_slice ht h with ⟨hcs, _⟩ | ⟨a, len, cap, m, k, D, Pl, hcs, _, hl, hm, hmm, _, hx⟩
  · simp only [List.cons.injEq, and_true] at hcs
    exact ⟨none, 0, 0, [], hcs, ⟨rfl, Nat.le_refl _, by unfold maxLen; omega, fun h => absurd h (Nat.lt_irrefl 0)⟩, fun q hq => (List.not_mem_nil hq).elim⟩
  · simp only [List.cons.injEq, and_true] at hcs
    have hlm : len ≤ m := by rw [hmm]; split <;> omega
    have key : ∀ i, i < len → ∃ x : α, (∀ j, j < 3 → W.cell? (a.add (i * 3 + j)) = (R.enc x)[j]?) ∧ Pq x := fun i hi => by
      obtain ⟨cs', h1, h2⟩ := hx i (by omega)
      rw [ce] at h1
      obtain ⟨_, hlen, hcell⟩ := World.cells?_some h1
      match cs', hlen with
      | [v0, v1, v2], _ =>
        obtain ⟨x, e1, hP⟩ := hel _ _ _ _ _ h2
        refine ⟨x, fun j hj => ?_, hP⟩
        have e0 := hcell j hj
        rw [add_add] at e0
        rw [e0, e1]
    obtain ⟨q, hq⟩ := choose_lt key
    refine ⟨some a, len, cap, (List.range len).map q, hcs, ?_, fun z hz => ?_⟩
    · obtain ⟨b, off, spot⟩ := a
      have hcell0 : 0 < len → ∃ u, W.cell? ((⟨b, off, spot⟩ : Addr).add 0) = some u := fun h0 => by
        have := (hq 0 h0).1 0 (by omega)
        rw [Nat.zero_mul, Nat.zero_add] at this
        have h4 : 0 < (R.enc (q 0)).length := by rw [ok.hk, h3]; omega
        rw [List.getElem?_eq_getElem h4] at this
        exact ⟨_, this⟩
      by_cases h0 : 0 < len
      · obtain ⟨u, hu⟩ := hcell0 h0
        have hspot : spot = none := by simpa [Addr.add] using World.cell?_spot hu
        subst hspot
        refine Row.Rds.mk_cells ok x0 (by simp) hl hm (fun _ => block_lt_of_cell hu) fun i j hi hj => ?_
        rw [h3] at hj ⊢
        have := (hq i hi).1 j hj
        rw [add_plain] at this
        rw [List.getD_eq_getElem?_getD, List.getElem?_map, List.getElem?_range hi, Nat.add_assoc]
        exact this
      · exact ⟨by simp, hl, hm, fun h => absurd h h0⟩
    · obtain ⟨i, hi, rfl⟩ := List.mem_map.1 hz
      exact (hq i (List.mem_range.1 hi)).2
theorem trod_lines {fuel : Nat} {v : Value} {x : DataW H × List MemPlace} (h : DataW.trod enc Tryz.prog W 0 sp held fuel 30 [v] = some x) :
    ∃ A n c l, v = .slice A n c ∧ rowL.Rds W A n c l := by
  obtain ⟨A, n, c, l, h1, h2, _⟩ := trod_rows rowL_ok rfl ln0 (fun _ => True) Tryz.underlying30 c45 (fun fuel v0 v1 v2 y hy => by
    obtain ⟨y0, y1, y2, k', _, _, t0, t1, t2⟩ := trod_struct3 Tryz.underlying45 hy
    obtain ⟨s0, e0, _⟩ := DataW.trod_string Tryz.underlying9 t0
    obtain ⟨s1, e1, _⟩ := DataW.trod_string Tryz.underlying9 t1
    obtain ⟨s2, e2, _⟩ := DataW.trod_string Tryz.underlying40 t2
    simp [c9, c40] at e0 e1 e2
    subst e0 e1 e2
    exact ⟨(s0.data.toList, s1.data.toList, s2.data.toList), rfl, trivial⟩) h
  exact ⟨A, n, c, l, h1, h2⟩
/-- the three cells of an entry -/
theorem trod_en {f0 f1 f2 : Nat} {v0 v1 v2 : Value} {y0 y1 y2 : DataW H × List MemPlace} (t0 : DataW.trod enc Tryz.prog W 0 sp held f0 29 [v0] = some y0) (t1 : DataW.trod enc Tryz.prog W 0 sp held f1 9 [v1] = some y1) (t2 : DataW.trod enc Tryz.prog W 0 sp held f2 30 [v2] = some y2) :
    ∃ d cz A n c l, v0 = .int .i64 d ∧ v1 = .string ⟨(cz : List UInt8).toArray⟩ ∧ v2 = .slice A n c ∧ rowL.Rds W A n c l ∧ cz.length ≤ maxLen := by
  obtain ⟨d, e0, _⟩ := DataW.trod_int Tryz.underlying29 t0
  obtain ⟨s, e1, _, hs⟩ := DataW.trod_string Tryz.underlying9 t1
  obtain ⟨A, n, c, l, e2, hl⟩ := trod_lines t2
  simp only [List.cons.injEq, and_true] at e0 e1
  exact ⟨d, s.data.toList, A, n, c, l, e0, e1, e2, hl, by show s.data.toList.length ≤ _; rw [Array.length_toList]; exact hs⟩
theorem trod_ens {fuel : Nat} {v : Value} {x : DataW H × List MemPlace} (h : DataW.trod enc Tryz.prog W 0 sp held fuel 22 [v] = some x) :
    ∃ A n c ps, v = .slice A n c ∧ rowE.Rds W A n c ps ∧ ∀ p ∈ ps, RdG W p ∧ p.2.2.1.length ≤ maxLen :=
  trod_rows (α := RE) rowE_ok rfl re0 (fun p => RdG W p ∧ p.2.2.1.length ≤ maxLen) Tryz.underlying22 c32 (fun fuel v0 v1 v2 y hy => by
    obtain ⟨y0, y1, y2, k', _, _, t0, t1, t2⟩ := trod_struct3 Tryz.underlying32 hy
    simp [c9, c29, c30] at t0 t1 t2
    obtain ⟨d, cz, A, n, c, l, rfl, rfl, rfl, hl, hz⟩ := trod_en t0 t1 t2
    exact ⟨((d, cz, A, n, c), (d, cz, l)), rfl, ⟨rfl, rfl, hl⟩, hz⟩) h

set_option maxRecDepth 100000 in
theorem arg_entry {r : Reach} {b0 : Nat} {v : Value} {d : DataW H} {p : List MemPlace} (hok : Value.okWide Tryz.prog W r b0 32 v) (h : DataW.Trod enc Tryz.prog W 0 sp held 32 v d p) :
    ∃ d cz A n c l, v = .agg (enV d cz A n c) ∧ rowL.Rds W A n c l := by
  obtain ⟨v0, v1, v2, y0, y1, y2, n, rfl, _, _, t0, t1, t2⟩ := Joins.open_agg3 Tryz.underlying32 (by kernel_rfl) c32 hok h
  obtain ⟨d, cz, A, n, c, l, rfl, rfl, rfl, hl, _⟩ := trod_en t0 t1 t2
  exact ⟨d, cz, A, n, c, l, rfl, hl⟩
set_option maxRecDepth 100000 in
theorem arg_entries {r : Reach} {b0 : Nat} {v : Value} {d : DataW H} {p : List MemPlace} (hok : Value.okWide Tryz.prog W r b0 22 v) (h : DataW.Trod enc Tryz.prog W 0 sp held 22 v d p) :
    ∃ A n c ps, v = .slice A n c ∧ rowE.Rds W A n c ps ∧ ∀ p ∈ ps, RdG W p ∧ p.2.2.1.length ≤ maxLen := by
  obtain ⟨a0, len, cap, rfl⟩ := okWide_slice Tryz.underlying22 hok
  obtain ⟨fuel, hf⟩ := h
  exact trod_ens hf
end
end Go.Proofs.YtdnomfekblmnbaaGreatDoor

/- The row's last step for a law: true, the arguments as they were, of the world Below is known. Arguments that are slices of strings. -/
namespace Go.Proofs.YtdnomfekblmnbaaGreatDoor
open Go.RowKit Go.WideShapes Go.ChangeShapes Go.ChangeAt
section
variable {H : Type} {enc : TypeId × Value → H} {P : Program}
theorem post_of_below {f : Func} {s : ChangeSpec} {apart fresh handsOn again : Bool} {W W' : World} {args : Array Value} {v : Value} {ds gs : List (DataW H)} {before pa pv : List MemPlace}
    (hW : DataW.Whole enc P f.params.toList s.vars apart W args.toList ds gs before)
    (hres : ∀ (b : Nat) (sp : Nat → Bool) (hd : Bool), DataW.TrodAll enc P W' b sp hd f.resultTypes.toList (v.resultList f.resultTypes.size) (s.fn H (ds ++ gs)).results [])
    (hargs : ∀ sp : Nat → Bool, (∀ p ∈ before, sp p.block = true) → DataW.TrodAll enc P W' 0 sp true f.params.toList args.toList (s.fn H (ds ++ gs)).args pa)
    (hvars : ∀ sp : Nat → Bool, (∀ p ∈ before, sp p.block = true) → DataW.TrodVars enc P W' sp s.vars (s.fn H (ds ++ gs)).vars pv)
    (hps : before = pa ++ pv) (hb : Below W.heap.size W W')
    (hok : ∀ (j : Nat) (t : TypeId) (r : Value), f.resultTypes[j]? = some t → (v.resultList f.resultTypes.size)[j]? = some r → Value.okWide P W' .any 0 t r) :
    s.post enc P f apart fresh handsOn again W args v W' := by
  have hlt : ∀ p ∈ before, p.block < W.heap.size := fun p hp => hW.lt p hp
  have hold : ∀ p ∈ before, (fun b => decide (b < W.heap.size)) p.block = true := fun p hp => by simpa using hlt p hp
  refine ⟨ds, gs, before, [], pa, pv, hW, hres _ _ _, hargs _ hold, hvars _ hold, World.keptBut_mono (fun p hp => ⟨hp, ?_⟩) (hb.frame (· ∈ before)), fun _ => ?_⟩
  · rw [hps, List.mem_append] at hp
    exact Or.inr hp
  · obtain ⟨_, _, _, _, _, hz, hn⟩ := hW
    refine ⟨hok, _, _, ([] ++ pa) ++ pv, ⟨[] ++ pa, pv, trodAll_append (hargs _ (fun _ _ => rfl)) (hres _ _ _), hvars _ (fun _ _ => rfl), rfl, ?_, ?_⟩, ?_⟩
    · intro b off hp
      have hin : MemPlace.cell b off ∈ before := by rw [hps]; simpa using hp
      rw [hb.frozen (hlt _ hin)]
      exact hz b off hin
    · intro ha
      have := hn ha
      rw [hps] at this
      simpa using this
    · intro p hp _
      rw [hps]
      simpa using hp
theorem trodAll_stays (hl : laidOutB P = true) {W W' : World} (hb : Below W.heap.size W W') {sp : Nat → Bool} : ∀ {ts : List TypeId} {vs : List Value} {ds : List (DataW H)} {ps : List MemPlace},
    (∀ t ∈ ts, P.readableRec t = true ∧ t < P.types.size) → DataW.TrodAll enc P W 0 (fun _ => true) true ts vs ds ps → (∀ x ∈ ps, x.block < W.heap.size) → (∀ x ∈ ps, sp x.block = true) → DataW.TrodAll enc P W' 0 sp true ts vs ds ps
  | [], vs, ds, ps, _, h, _, _ => by
    obtain ⟨rfl, rfl, rfl⟩ := trodAll_nil h
    exact trodAll_mk0
  | t :: ts, vs, ds, ps, hr, h, hlt, hsp => by
    obtain ⟨v, vs', d, ds', p, q, rfl, rfl, rfl, h0, r0⟩ := trodAll_cons h
    obtain ⟨h1, h2⟩ := hr t (by simp)
    refine trodAll_cons_mk (WideElems.Trod_stays hl h1 h2 h0 (fun x hx => hb.same (hlt x (by simp [hx]))) (fun x hx => hsp x (by simp [hx]))) (trodAll_stays hl hb (fun t' ht' => hr t' (by simp [ht'])) r0 (fun x hx => hlt x (by simp [hx])) (fun x hx => hsp x (by simp [hx])))
theorem post_true {f : Func} {s : ChangeSpec} {apart fresh handsOn again : Bool} {W W' : World} {args : Array Value} {ds gs : List (DataW H)} {before : List MemPlace} {tb : TypeId}
    (hW : DataW.Whole enc P f.params.toList s.vars apart W args.toList ds gs before) (hv : s.vars = []) (hl : laidOutB P = true) (hr : (f.params.toList.all fun t => P.readableRec t && decide (t < P.types.size)) = true)
    (hrt : f.resultTypes = #[tb]) (htb : P.underlying tb = some .bool) (hfn : (s.fn H (ds ++ gs)).results = [.lit (.bool true)] ∧ (s.fn H (ds ++ gs)).args = ds ∧ (s.fn H (ds ++ gs)).vars = [])
    (hb : Below W.heap.size W W') : s.post enc P f apart fresh handsOn again W args (.bool true) W' := by
  have hW' := hW
  have hlt : ∀ p ∈ before, p.block < W.heap.size := fun p hp => hW.lt p hp
  obtain ⟨p, q, hA, hV, rfl, hfz, hnd⟩ := hW
  rw [hv] at hV
  obtain ⟨rfl, rfl⟩ := trodVars_none hV
  have hr' : ∀ t ∈ f.params.toList, P.readableRec t = true ∧ t < P.types.size := fun t ht => by
    have := List.all_eq_true.1 hr t ht
    simpa using this
  refine post_of_below (pa := p) (pv := []) hW' ?_ ?_ ?_ rfl hb ?_
  · intro b sp hd
    rw [hfn.1, hrt]
    exact trodAll_cons_mk (shut_bool htb _) trodAll_mk0
  · intro sp hsp
    rw [hfn.2.1]
    exact trodAll_stays hl hb hr' hA (fun x hx => hlt x (by simp [hx])) (fun x hx => hsp x (by simp [hx]))
  · intro sp _
    rw [hfn.2.2, hv]
    rfl
  · exact ok_one hrt rfl (okWide_bool_mk htb _)
end
end Go.Proofs.YtdnomfekblmnbaaGreatDoor

/- What every row of this seat needs: the world's shape. -/
namespace Go.Proofs.YtdnomfekblmnbaaGreatDoor
open Go.RowKit Go.WideShapes Go.ChangeShapes Go.ChangeAt
theorem laid : laidOutB Tryz.prog = true := by kernel_rfl
theorem own : ownKnob Tryz.prog.godebug = none := by kernel_rfl
theorem ml_of {w : World} (h : w.ShapedOpen Tryz.prog) : ML w :=
  Go.Proofs.cell_of_shapedOpen_int (zero := #[.int .i64 0]) (t := 3) h (of_decide_eq_true (by kernel_rfl)) (by kernel_rfl) rfl (by kernel_rfl) (by kernel_rfl) Tryz.underlying3
end Go.Proofs.YtdnomfekblmnbaaGreatDoor

/- The frame of the cards of this seat. -/
namespace Go.Proofs.YtdnomfekblmnbaaGreatDoor
open Go.ChangeShapes Go.WideShapes Go.ChangeAt Go.RowKit
section
variable {H : Type} {enc : TypeId × Value → H}
/-- a row that lists variables, whose contract needs the shape of those that it does not list -/
theorem handed_both {a : Assume} {C : Checked} {os : Os} {f : FuncId} {fn : Func} {s : ChangeSpec} {conds : List PathCond} {apart fresh handsOn again : Bool} {X : World → Array Value → Prop}
    (hX : ∀ (w w' : World) (args : Array Value), w.heap = w'.heap → X w args → X w' args)
    (own : ownKnob C.prog.godebug = none) (started : os.Started) (noInit : C.prog.inits.idxOf? f = none) (hfn : C.prog.funcs[f]? = some fn)
    (witness : ∃ (w : World) (tape : Tape) (i : Input), w.os = os ∧ (w.forCall tape i).Shaped C.prog ∧ i.vars = [] ∧ Input.okWide C.prog (w.forCall tape i) .any w.heap.size f i ∧
      ((s.pre enc C.prog fn conds apart (w.forCall tape i).memory i.args ∧ X (w.forCall tape i).memory i.args) ∧ sizedMet enc C.prog fn (OpenSpec.ofChange s) apart (w.forCall tape i).memory i.args) ∧ a.holds C.prog (lone (Frame.enter C.prog f i.args .normal) [] (w.forCall tape i)))
    (contract : ∀ (W : World) (base : Nat) (args : Array Value) (ds gs : List (DataW H)) (before : List MemPlace),
      (∀ (j : Nat) t v, fn.params[j]? = some t → args[j]? = some v → Value.okWide C.prog W .any base t v) →
      DataW.Whole enc C.prog fn.params.toList s.vars apart W args.toList ds gs before → X W args → W.ShapedOpen C.prog →
      Calls C.prog f args W fun e W' => ∃ v, e = .returned v ∧ s.post enc C.prog fn apart fresh handsOn again W args v W') :
    ReturnsInHanded a C os f .any (fun w args => (s.pre enc C.prog fn conds apart w args ∧ X w args) ∧ sizedMet enc C.prog fn (OpenSpec.ofChange s) apart w args) (s.post enc C.prog fn apart fresh handsOn again) := by
  refine returnsInHanded_of_calls own started noInit witness ?_
  intro w tape i _ hsh _ hok hpre _
  obtain ⟨_, _, _, fn', hfn', _, _, _, _, hval⟩ := hok
  have e : fn' = fn := Option.some.inj (hfn'.symm.trans hfn)
  subst e
  obtain ⟨⟨⟨ds, gs, before, hw, _⟩, hx⟩, _⟩ := hpre
  refine (contract (w.forCall tape i) w.heap.size i.args ds gs before hval (DataW.Whole.of_heap (w' := w.forCall tape i) (by rfl) hw) (hX _ _ _ (by rfl) hx) hsh).mono fun e W' ⟨v, he, hp⟩ => ?_
  subst he
  exact ChangeSpec.post_blind hp
end
theorem gPowType : (Tryz.prog.globals[2]?).map (·.type) = some 235 := by kernel_rfl
theorem cells235 : Tryz.prog.cellsOf 235 = 20 := by kernel_rfl
theorem cells127 : Tryz.prog.cellsOf 127 = 1 := by kernel_rfl
theorem powData : (Rows.laid_internal_strconv_uint64pow10 : DataW Unit) = Lib.tabData .u64 Lib.pow10Tab := by kernel_rfl
/-- the table of the powers of ten, from the row's list -/
theorem tab_of {W : World} (h : laidMetH Tryz.prog Rows.entryChecksRow.laid W) : Tab W := by
  rw [MakeChecks.laidMetH_plain _ _ _ (by kernel_rfl)] at h
  have h1 : laidMet Tryz.prog (("math/bits.deBruijn32tab", Rows.laid_math_bits_deBruijn32tab) :: ("math/bits.deBruijn64tab", Rows.laid_math_bits_deBruijn64tab) :: ("internal/strconv.uint64pow10", Rows.laid_internal_strconv_uint64pow10) :: Rows.entryChecksRow.laid.drop 3) W := h
  have h2 := h1.tail.tail
  rw [powData] at h2
  exact Lib.tabIs_of_head gPow gPowType Tryz.underlying235 Tryz.underlying127 cells127 cells235 h2
end Go.Proofs.YtdnomfekblmnbaaGreatDoor

/- Contract of the reference's Opposite. -/
namespace Go.Proofs.YtdnomfekblmnbaaGreatDoor
open Go.RowKit Go.Maps Num

def OppP (d : Int) (cz : List UInt8) (l : List Ln) (w : World) (e : Ending) (w' : World) : Prop :=
  Below w.heap.size w w' ∧ ∃ A c, e = .returned (.agg (enV d cz A l.length c)) ∧ Lns w' A l.length c (l.map negL) ∧ OwnL w.heap.size w' (.slice A l.length c) (l.map negL)
theorem OwnL.low {B B' : Nat} {w : World} {v : Value} {l : List Ln} (h : OwnL B w v l) (hb : B' ≤ B) : OwnL B' w v l := by
  rcases h.2 with ⟨rfl, h0⟩ | ⟨g, cap, cur, rfl, hB, hr⟩
  · exact ⟨h.1, .inl ⟨rfl, h0⟩⟩
  · exact ⟨h.1, .inr ⟨g, cap, cur, rfl, Nat.le_trans hb hB, hr⟩⟩
set_option maxRecDepth 100000 in
set_option maxHeartbeats 4000000 in
theorem ropp_any (d : Int) (cz : List UInt8) (A : Option Addr) (n c : Nat) (l : List Ln) (w : World) (hl : Lns w A n c l) (hs : ∀ x ∈ l, x.2.2.length ≤ 60) :
    Calls Tryz.prog 69 #[.agg (enV d cz A n c)] w (OppP d cz l w) := by
  have hn := hl.small
  have ll := Lib.hid hl.len
  have hB0 : Below w.heap.size w ((w.alloc (.cells #[.int .i64 d, .string ⟨cz.toArray⟩, .slice A n c] 32)).alloc (.cells #[.int .i64 0, .string ⟨#[]⟩, .slice none 0 0] 32)) := ((Below.refl _ w).alloc (Nat.le_refl _) _).alloc (by simp) _
  have y0 : ((w.alloc (.cells #[.int .i64 d, .string ⟨cz.toArray⟩, .slice A n c] 32)).alloc (.cells #[.int .i64 0, .string ⟨#[]⟩, .slice none 0 0] 32)).heap[w.heap.size]? = some (.cells #[.int .i64 d, .string ⟨cz.toArray⟩, .slice A n c] 32) := by
    rw [heap_alloc_old _ _ (by simp)]; exact heap_alloc_new w _
  have y1 : ((w.alloc (.cells #[.int .i64 d, .string ⟨cz.toArray⟩, .slice A n c] 32)).alloc (.cells #[.int .i64 0, .string ⟨#[]⟩, .slice none 0 0] 32)).heap[w.heap.size + 1]? = some (.cells #[.int .i64 0, .string ⟨#[]⟩, .slice none 0 0] 32) := by
    have := heap_alloc_new (w.alloc (.cells #[.int .i64 d, .string ⟨cz.toArray⟩, .slice A n c] 32)) (.cells #[.int .i64 0, .string ⟨#[]⟩, .slice none 0 0] 32)
    rwa [show (w.alloc (.cells #[.int .i64 d, .string ⟨cz.toArray⟩, .slice A n c] 32)).heap.size = w.heap.size + 1 by simp] at this
  have hsz : ((w.alloc (.cells #[.int .i64 d, .string ⟨cz.toArray⟩, .slice A n c] 32)).alloc (.cells #[.int .i64 0, .string ⟨#[]⟩, .slice none 0 0] 32)).heap.size = w.heap.size + 2 := by simp
  have HB1 := Lib.hid hB0
  have Y0 := Lib.hid y0
  have Y1 := Lib.hid y1
  have HZ := Lib.hid hsz
  have L1 := Lib.hid hl
  have HS := Lib.hid hs
  have HP := Lib.hid (fun W A' c' (hb : Below w.heap.size w W) (hL : Lns W A' l.length c' (l.map negL)) (hO : OwnL w.heap.size W (.slice A' l.length c') (l.map negL)) => (show OppP d cz l w (.returned (.agg (enV d cz A' l.length c'))) W from ⟨hb, A', c', rfl, hL, hO⟩))
  clear hB0 hl hs
  generalize OppP d cz l w = Post at *
  unfold enV at HP ⊢
  go_enter Tryz.func69, Tryz.ntmps69
  obtain ⟨⟨c00, c01, c02⟩, _⟩ := cells3 y0
  clear y0 y1
  go_wp2_with fail
  generalize (w.alloc (.cells #[.int .i64 d, .string ⟨cz.toArray⟩, .slice A n c] 32)).alloc (.cells #[.int .i64 0, .string ⟨#[]⟩, .slice none 0 0] 32) = w1 at *
  rw [show w.heap.size + 1 + 1 = w1.heap.size from hsz.symm]
  have C02 := Lib.hid c02
  have hs1 : w.heap.size + 2 ≤ w1.heap.size := by omega
  clear hsz HZ c00 c01 c02 Y0
  have HC0 : Below w1.heap.size w1 (w1.alloc (.cells #[.int .i64 d, .string ⟨cz.toArray⟩, .slice none 0 0] 32)) := (Below.refl _ _).alloc (Nat.le_refl _) _
  have R0 := Lib.hid (show RevR d cz l w1 0 (w1.alloc (.cells #[.int .i64 d, .string ⟨cz.toArray⟩, .slice none 0 0] 32)) from ⟨_, heap_alloc_new w1 _, OwnL.nil _ _, HC0⟩)
  have hh := Lib.hid (fun W (h : Below w1.heap.size w1 W) => below_next HB1.out h ⟨rfl, rfl, rfl, rfl⟩)
  clear HC0
  go_loopw [4, 5] (fun i _ wr => ∃ k : Nat, k ≤ n ∧ i = .int .i64 (k : Int) ∧ Hid (RevR d cz l w1 k wr)) (fun i _ _ => n - (intOf i).toNat)
  case atStart => exact ⟨0, by omega, rfl, R0⟩
  case round =>
    obtain ⟨k, hk, rfl, hR⟩ := hrel
    obtain ⟨v, hbx, hov, hbw⟩ := hR.out
    have HC := Lib.hid hbw
    have HB := Lib.hid (hh.out _ hbw)
    have HO := Lib.hid hov
    have HX := Lib.hid hbx
    clear hR R0 hbw hov hbx
    have a02 := (HC.out.cell (p := ⟨w.heap.size, 2, none⟩) (by show w.heap.size < _; omega)).trans C02.out
    by_cases hlt : k < n
    · obtain ⟨b1, o1, rfl, hb1, hc1⟩ := L1.out.at_ (by omega)
      obtain ⟨q0, q1, q2⟩ := hc1 k hlt
      have r0 := (HB.out.cell (p := ⟨b1, o1 + k * 3, none⟩) hb1).trans q0
      have r1 := (HB.out.cell (p := ⟨b1, o1 + k * 3 + 1, none⟩) hb1).trans q1
      have r2 := (HB.out.cell (p := ⟨b1, o1 + k * 3 + 2, none⟩) hb1).trans q2
      have hki : (k : Int) < (n : Int) := by omega
      have htk := Lib.hid (take_ln l k (by rw [ll.out]; exact hlt))
      have hmem := lnAt_mem l k (by rw [ll.out]; exact hlt)
      have h60 := HS.out _ hmem
      have hlk : ((l.take k).map negL).length ≤ 1000 := by rw [List.length_map, List.length_take]; omega
      clear q0 q1 q2 hc1 hmem
      generalize l.getD k ln0 = x at *
      obtain ⟨a, cu, m⟩ := x
      simp only at r0 r1 r2 h60
      have CN := Lib.hid (fun W => rneg_any m W (by omega))
      unfold RetP at CN
      have HC3 := Lib.hid (show Below w1.heap.size w1 (wr.alloc (.cells #[.string ⟨a.toArray⟩, .string ⟨cu.toArray⟩, .string ⟨m.toArray⟩] 45)) from HC.out.alloc HC.out.size _)
      have x0 := Lib.hid (heap_alloc_new wr (.cells #[.string ⟨a.toArray⟩, .string ⟨cu.toArray⟩, .string ⟨m.toArray⟩] 45))
      have HL3 := Lib.hid (show Below wr.heap.size wr (wr.alloc (.cells #[.string ⟨a.toArray⟩, .string ⟨cu.toArray⟩, .string ⟨m.toArray⟩] 45)) from (Below.refl _ _).alloc (Nat.le_refl _) _)
      go_wp2_with fail
      refine (CN.out _).mono ?_
      rintro e w2 ⟨rfl, rfl⟩
      clear CN a02
      generalize wr.alloc (.cells #[.string ⟨a.toArray⟩, .string ⟨cu.toArray⟩, .string ⟨m.toArray⟩] 45) = w2 at *
      have x2 := x0.out
      obtain ⟨⟨d0, d1, d2⟩, e0, e1, e2⟩ := cells3 x2
      go_upto_region 7 with fail
      have h3 : Below wr.heap.size wr (w2.setCell ⟨wr.heap.size, 2, none⟩ (.string ⟨(txt (-val m)).toArray⟩)) := below_grown HL3.out (Nat.le_refl _) (grown_setCell _ _ _) (Nat.le_refl _)
      have x3 := set2 x2 (.string ⟨(txt (-val m)).toArray⟩)
      generalize (w2.setCell ⟨wr.heap.size, 2, none⟩ (.string ⟨(txt (-val m)).toArray⟩)) = W3 at *
      have hlw1 : w1.heap.size < wr.heap.size := by
        rcases Nat.lt_or_ge w1.heap.size wr.heap.size with h | h
        · exact h
        · have := HX.out; rw [Array.getElem?_eq_none h] at this; cases this
      have hB3 := (h3.block _ hlw1).trans HX.out
      have ho3 := Lib.hid (HO.out.below h3)
      have HC4 := Lib.hid (HC.out.trans (h3.mono HC.out.size))
      have hsz3 := h3.size
      have hB3h := Lib.hid hB3
      obtain ⟨⟨p0, p1, p2⟩, s0, s1, s2⟩ := cells3 hB3
      obtain ⟨⟨t0, t1, t2⟩, _⟩ := cells3 x3
      have hne : some w1.heap.size ≠ v.ownBlock := fun e => by have := ho3.out.own _ e.symm; omega
      clear d0 d1 d2 e0 e1 e2 x2 x3 hB3 h3 r0 r1 r2 x0 HL3 HC3
      go_wp2_with (first | (refine wpList_append_l rfl (.tmp 28) (.tmp 30) rfl (w1.heap.size + 1) v _ W3 (a, cu, txt (-val m)) rfl ho3.out rfl (by omega) hlk ?_; intro v' w4 ho4 hg4; obtain ⟨A4, n4, c4, rfl⟩ := ho4.slice; have hB4 := (hg4.block _ (by omega) hne).trans hB3h.out; obtain ⟨⟨u0, u1, u2⟩, m0, m1, m2⟩ := cells3 hB4) | fail)
      have hb4 := below_own HC4.out (Nat.le_refl _) hg4 (fun q e => Nat.le_of_succ_le (ho3.out.own q e))
      have hb5 := below_grown hb4 (Nat.le_refl _) (grown_setCell w4 ⟨w1.heap.size, 2, none⟩ (.slice A4 n4 c4)) (Nat.le_refl _)
      have ho5 : OwnL (w1.heap.size + 1) (w4.setCell ⟨w1.heap.size, 2, none⟩ (.slice A4 n4 c4)) (.slice A4 n4 c4) ((l.take (k + 1)).map negL) := by
        rw [htk.out, List.map_append]
        exact ho4.kept (grown_setCell w4 ⟨w1.heap.size, 2, none⟩ (.slice A4 n4 c4)) (fun q e => by have := Option.some.inj e; simp only at this; omega)
      have RR := Lib.hid (show RevR d cz l w1 (k + 1) (w4.setCell ⟨w1.heap.size, 2, none⟩ (.slice A4 n4 c4)) from ⟨_, set2 hB4 _, ho5, hb5⟩)
      exact ⟨⟨k + 1, by omega, by go_num, RR⟩, by simp [intOf]; omega⟩
    · have hkn : k = n := by omega
      subst hkn
      have hki : ¬ (k : Int) < (k : Int) := by omega
      have e : List.take k l = l := List.take_of_length_le (by rw [ll.out]; exact Nat.le_refl _)
      have ho := HO.out
      rw [e] at ho
      have hlen : (l.map negL).length = k := by rw [List.length_map, ll.out]
      have hsm : ∀ y ∈ l.map negL, Sml y := fun y hy => by
        obtain ⟨x, hx, rfl⟩ := List.mem_map.1 hy
        exact negL_sml (L1.out.sml x hx) (HS.out x hx)
      obtain ⟨A', c', rfl, _⟩ := ho.cells (by rw [hlen]; exact hn) hsm
      have hr : ∀ q, some (w.heap.size + 1) = some q → q < w1.heap.size + 1 := fun q e => by have := Option.some.inj e; omega
      have ho' := ((ho.kept (grown_setCell wr ⟨w.heap.size + 1, 0, none⟩ (.int .i64 d)) hr).kept (grown_setCell _ ⟨w.heap.size + 1, 1, none⟩ (.string ⟨cz.toArray⟩)) hr).kept (grown_setCell _ ⟨w.heap.size + 1, 2, none⟩ (.slice A' k c')) hr
      obtain ⟨A2, c2, e2, hln⟩ := ho'.cells (by rw [hlen]; exact hn) hsm
      injection e2 with e3 _ e4
      subst e3
      subst e4
      rw [hlen] at hln HX
      have hL := Lib.hid hln
      have z1 := (HC.out.block (w.heap.size + 1) (by omega)).trans Y1.out
      obtain ⟨⟨c10, c11, c12⟩, f10, f11, f12⟩ := cells3 z1
      obtain ⟨⟨b10, b11, b12⟩, _⟩ := cells3 HX.out
      obtain ⟨⟨g10, g11, g12⟩, _⟩ := cells3 (set3 z1 (.int .i64 d) (.string ⟨cz.toArray⟩) (.slice A' k c'))
      have hb := Lib.hid (below_set3 HB.out (b := w.heap.size + 1) (by omega) (.int .i64 d) (.string ⟨cz.toArray⟩) (.slice A' k c'))
      have hO9 := ho'.low (B' := w.heap.size) (by omega)
      rw [hlen] at hO9
      have HO9 := Lib.hid hO9
      clear z1 hln ho ho' e hlen hsm hr hO9
      rw [ll.out] at HP
      go_wp2_with fail
      exact bodyPost_ret (v := .agg #[.int .i64 d, .string ⟨cz.toArray⟩, .slice A' k c']) (by simp [results, Tryz.results69, go_sem, g10, g11, g12]) rfl (HP.out _ A' c' hb.out hL.out HO9.out)
end Go.Proofs.YtdnomfekblmnbaaGreatDoor

/- Contract of the reference's Reverse. -/
namespace Go.Proofs.YtdnomfekblmnbaaGreatDoor
open Go.RowKit Go.Maps Num

set_option maxRecDepth 100000 in
set_option maxHeartbeats 4000000 in
theorem rrev_any (d : Int) (cz : List UInt8) (A : Option Addr) (n c : Nat) (l : List Ln) (w : World) (hl : Lns w A n c l) (hcz : cz.length ≤ maxLen) (hs : ∀ x ∈ l, x.2.2.length ≤ 13) :
    Calls Tryz.prog 23 #[.agg (enV d cz A n c)] w (RevPost d cz l w) := by
  have hB0 : Below w.heap.size w ((w.alloc (.cells #[.int .i64 d, .string ⟨cz.toArray⟩, .slice A n c] 32)).alloc (.cells #[.int .i64 0, .string ⟨#[]⟩, .slice none 0 0] 32)) := ((Below.refl _ w).alloc (Nat.le_refl _) _).alloc (by simp) _
  have y0 : ((w.alloc (.cells #[.int .i64 d, .string ⟨cz.toArray⟩, .slice A n c] 32)).alloc (.cells #[.int .i64 0, .string ⟨#[]⟩, .slice none 0 0] 32)).heap[w.heap.size]? = some (.cells #[.int .i64 d, .string ⟨cz.toArray⟩, .slice A n c] 32) := by
    rw [heap_alloc_old _ _ (by simp)]; exact heap_alloc_new w _
  have y1 : ((w.alloc (.cells #[.int .i64 d, .string ⟨cz.toArray⟩, .slice A n c] 32)).alloc (.cells #[.int .i64 0, .string ⟨#[]⟩, .slice none 0 0] 32)).heap[w.heap.size + 1]? = some (.cells #[.int .i64 0, .string ⟨#[]⟩, .slice none 0 0] 32) := by
    have := heap_alloc_new (w.alloc (.cells #[.int .i64 d, .string ⟨cz.toArray⟩, .slice A n c] 32)) (.cells #[.int .i64 0, .string ⟨#[]⟩, .slice none 0 0] 32)
    rwa [show (w.alloc (.cells #[.int .i64 d, .string ⟨cz.toArray⟩, .slice A n c] 32)).heap.size = w.heap.size + 1 by simp] at this
  have hsz : ((w.alloc (.cells #[.int .i64 d, .string ⟨cz.toArray⟩, .slice A n c] 32)).alloc (.cells #[.int .i64 0, .string ⟨#[]⟩, .slice none 0 0] 32)).heap.size = w.heap.size + 2 := by simp
  have HCH := Lib.hid (fun W (h : Below w.heap.size w W) => rchkE_any d cz A n c l W (hl.below h) hcz hs)
  have HOP := Lib.hid (fun W (h : Below w.heap.size w W) => ropp_any d cz A n c l W (hl.below h) (fun x hx => Nat.le_trans (hs x hx) (by decide)))
  have HB0 := Lib.hid hB0
  have Y0 := Lib.hid y0
  have Y1 := Lib.hid y1
  have HZ := Lib.hid hsz
  have HP := Lib.hid (show ∀ e w', RevPost d cz l w e w' ↔ (Below w.heap.size w w' ∧ if chkE d cz l = 0 then ∃ A c, e = .returned (.tuple #[.agg (enV d cz A l.length c), .int .i64 0]) ∧ Lns w' A l.length c (l.map negL) else e = .returned (.tuple #[.agg (enV 0 [] none 0 0), .int .i64 1])) from fun _ _ => Iff.rfl)
  clear hB0 hl hs
  generalize RevPost d cz l w = Post at *
  generalize chkE d cz l = ce at *
  unfold OppP at HOP
  unfold enV at HCH HOP HP ⊢
  go_enter Tryz.func23, Tryz.ntmps23
  obtain ⟨⟨c00, c01, c02⟩, _⟩ := cells3 y0
  clear y0 y1
  go_wp2_with fail
  refine (HCH.out _ HB0.out).mono ?_
  rintro e w1 ⟨rfl, hb1⟩
  have HB1 := Lib.hid (below_next HB0.out hb1 ⟨rfl, rfl, rfl, rfl⟩)
  have z0 := (hb1.block w.heap.size (by rw [HZ.out]; omega)).trans Y0.out
  have z1 := (hb1.block (w.heap.size + 1) (by rw [HZ.out]; omega)).trans Y1.out
  have hs1 : w.heap.size + 2 ≤ w1.heap.size := by have := hb1.size; rw [HZ.out] at this; exact this
  clear c00 c01 c02
  obtain ⟨⟨c00, c01, c02⟩, _⟩ := cells3 z0
  obtain ⟨⟨c10, c11, c12⟩, f10, f11, f12⟩ := cells3 z1
  have Z1 := Lib.hid z1
  clear HCH Y0 Y1 HZ hb1 HB0 hsz
  by_cases hz : ce = 0
  case neg =>
    have hzb : (ce == 0) = false := beq_eq_false_iff_ne.2 hz
    have hzb' : (ce != 0) = true := by rw [bne_iff_ne]; exact hz
    obtain ⟨⟨g10, g11, g12⟩, _⟩ := cells3 (set3 z1 (.int .i64 0) (.string ⟨#[]⟩) (.slice none 0 0))
    have hb := Lib.hid (below_set3 HB1.out (b := w.heap.size + 1) (by omega) (.int .i64 0) (.string ⟨#[]⟩) (.slice none 0 0))
    clear z0 z1
    go_wp2_with fail
    exact bodyPost_ret (v := .tuple #[.agg #[.int .i64 0, .string ⟨#[]⟩, .slice none 0 0], .int .i64 1]) (by simp [results, Tryz.results23, go_sem, g10, g11, g12]) rfl ((HP.out _ _).2 ⟨hb.out, by rw [if_neg hz]⟩)
  subst hz
  clear z0 z1
  go_wp2_with fail
  refine (HOP.out _ HB1.out).mono ?_
  rintro e w2 ⟨hb2, A2, c2, rfl, hL2, hO2⟩
  have HB2 := Lib.hid (below_next HB1.out hb2 ⟨rfl, rfl, rfl, rfl⟩)
  have z1 := (hb2.block (w.heap.size + 1) (by omega)).trans Z1.out
  have hr : ∀ q, some (w.heap.size + 1) = some q → q < w1.heap.size := fun q e => by have := Option.some.inj e; omega
  have HO2 := Lib.hid hO2
  have HL2 := Lib.hid hL2
  clear c00 c01 c02 c10 c11 c12 f10 f11 f12 hb2 hO2 hL2
  obtain ⟨N, hNe⟩ : ∃ N, l.length = N := ⟨_, rfl⟩
  rw [hNe] at HO2 HL2 HP ⊢
  have HN := Lib.hid hNe
  clear hNe
  obtain ⟨⟨c10, c11, c12⟩, f10, f11, f12⟩ := cells3 z1
  obtain ⟨⟨g10, g11, g12⟩, _⟩ := cells3 (set3 z1 (.int .i64 d) (.string ⟨cz.toArray⟩) (.slice A2 N c2))
  have hb := Lib.hid (below_set3 HB2.out (b := w.heap.size + 1) (by omega) (.int .i64 d) (.string ⟨cz.toArray⟩) (.slice A2 N c2))
  have ho' := ((HO2.out.kept (grown_setCell w2 ⟨w.heap.size + 1, 0, none⟩ (.int .i64 d)) hr).kept (grown_setCell _ ⟨w.heap.size + 1, 1, none⟩ (.string ⟨cz.toArray⟩)) hr).kept (grown_setCell _ ⟨w.heap.size + 1, 2, none⟩ (.slice A2 N c2)) hr
  obtain ⟨A3, c3, e3, hln⟩ := ho'.cells (by rw [List.length_map, HN.out]; exact HL2.out.small) (fun y hy => HL2.out.sml y hy)
  injection e3 with e4 e6 e5
  subst e4
  subst e5
  rw [List.length_map, HN.out] at hln
  have hL := Lib.hid hln
  clear z1 ho' hln hr e6
  go_wp2_with fail
  exact bodyPost_ret (v := .tuple #[.agg #[.int .i64 d, .string ⟨cz.toArray⟩, .slice A2 N c2], .int .i64 0]) (by simp [results, Tryz.results23, go_sem, g10, g11, g12]) rfl ((HP.out _ _).2 ⟨hb.out, by rw [if_pos trivial]; exact ⟨A2, c2, rfl, hL.out⟩⟩)
end Go.Proofs.YtdnomfekblmnbaaGreatDoor

/- Contract of the laws' count. -/
namespace Go.Proofs.YtdnomfekblmnbaaGreatDoor
open Go.RowKit Go.Maps Num

/-- how often a list has an entry -/
def cntE (l : List En) (x : En) : Nat := l.countP fun y => decide (cmpE x y = 0)
def CntR (w : World) (l : List En) (x : En) (k : Nat) (W : World) (v : Value) : Prop := v = .int .i64 (cntE (l.take k) x : Int) ∧ Below w.heap.size w W
set_option maxRecDepth 100000 in
set_option maxHeartbeats 4000000 in
theorem count_any (A B : Option Addr) (n c p q : Nat) (l : List En) (d : Int) (cz : List UInt8) (m : List Ln) (w : World) (hl : Ens w A n c l) (hm : Lns w B p q m) :
    Calls Tryz.prog 34 #[.slice A n c, .agg (enV d cz B p q)] w fun e w' => e = .returned (.int .i64 (cntE l (d, cz, m) : Int)) ∧ Below w.heap.size w w' := by
  have hn := hl.small
  have ll := Lib.hid hl.len
  have hB0 : Below w.heap.size w (w.alloc (.cells #[.int .i64 d, .string ⟨cz.toArray⟩, .slice B p q] 32)) := (Below.refl _ w).alloc (Nat.le_refl _) _
  have X0 := Lib.hid (heap_alloc_new w (.cells #[.int .i64 d, .string ⟨cz.toArray⟩, .slice B p q] 32))
  have H0 := Lib.hid hB0
  have L1 := Lib.hid hl
  have L2 := Lib.hid hm
  have lsz : w.heap.size < (w.alloc (.cells #[.int .i64 d, .string ⟨cz.toArray⟩, .slice B p q] 32)).heap.size := by simp
  clear hl hm hB0
  unfold enV
  go_enter Tryz.func34, Tryz.ntmps34
  go_wp2_with fail
  generalize (w.alloc (.cells #[.int .i64 d, .string ⟨cz.toArray⟩, .slice B p q] 32)) = w1 at *
  have R0 := Lib.hid (show CntR w1 l (d, cz, m) 0 w1 (.int .i64 0) from ⟨by rw [List.take_zero]; rfl, Below.refl _ _⟩)
  have hh := Lib.hid (fun W (h : Below w1.heap.size w1 W) => below_next H0.out h ⟨rfl, rfl, rfl, rfl⟩)
  go_loopw [5, 10] (fun v i wr => ∃ k : Nat, k ≤ n ∧ i = .int .i64 (k : Int) ∧ Hid (CntR w1 l (d, cz, m) k wr v)) (fun _ i _ => n - (intOf i).toNat)
  case atStart => exact ⟨0, by omega, rfl, R0⟩
  case round =>
    obtain ⟨k, hk, rfl, hR⟩ := hrel
    obtain ⟨rfl, hBx⟩ := hR.out
    have HC := Lib.hid hBx
    have HB := Lib.hid (hh.out _ hBx)
    have hle : cntE (l.take k) (d, cz, m) ≤ k := Nat.le_trans (List.countP_le_length) (by rw [List.length_take]; omega)
    clear hR hBx R0
    by_cases hlt : k < n
    · obtain ⟨b1, o1, rfl, hb1, hc1⟩ := L1.out.at_ (by omega)
      obtain ⟨q0, q1, A1, n1, c1, q2, hl1⟩ := hc1 k hlt
      have r0 := (HB.out.cell (p := ⟨b1, o1 + k * 3, none⟩) hb1).trans q0
      have r1 := (HB.out.cell (p := ⟨b1, o1 + k * 3 + 1, none⟩) hb1).trans q1
      have r2 := (HB.out.cell (p := ⟨b1, o1 + k * 3 + 2, none⟩) hb1).trans q2
      have hki : (k : Int) < (n : Int) := by omega
      have htk := Lib.hid (take_en l k (by rw [ll.out]; exact hlt))
      have hl1 := hl1.below HB.out
      clear q0 q1 q2 hc1
      generalize l.getD k en0 = y at *
      obtain ⟨d1, z1, k1⟩ := y
      simp only at r0 r1 r2 hl1
      have h2 : Below wr.heap.size wr (wr.alloc (.cells #[.int .i64 d1, .string ⟨z1.toArray⟩, .slice A1 n1 c1] 32)) := (Below.refl _ wr).alloc (Nat.le_refl _) _
      have HB2 := Lib.hid (HB.out.trans (h2.mono HB.out.size))
      have HC2 := Lib.hid (HC.out.trans (h2.mono HC.out.size))
      have xb := (HC2.out.block w.heap.size lsz).trans X0.out
      obtain ⟨⟨x0, x1, x2⟩, _⟩ := cells3 xb
      have ce := ecmp_any d d1 cz z1 B A1 p q n1 c1 m k1 _ (L2.out.below HB2.out) (hl1.below h2)
      unfold enV at ce
      have CE := Lib.hid ce
      have hst := Lib.hid (show cntE (l.take (k + 1)) (d, cz, m) = cntE (l.take k) (d, cz, m) + if cmpE (d, cz, m) (d1, z1, k1) = 0 then 1 else 0 by
        rw [htk.out]; unfold cntE; rw [List.countP_append]; by_cases h : cmpE (d, cz, m) (d1, z1, k1) = 0 <;> simp [h])
      generalize cmpE (d, cz, m) (d1, z1, k1) = r at *
      generalize cntE (l.take k) (d, cz, m) = t at *
      clear ce h2 hl1 xb
      go_wp2_with fail
      refine CE.out.mono ?_
      rintro e w2 ⟨rfl, hb⟩
      have HC3 := Lib.hid (below_next HC2.out hb ⟨rfl, rfl, rfl, rfl⟩)
      clear hb CE
      by_cases hz : r = 0
      · subst hz
        have hw : IntKind.i64.wrap ((t : Int) + 1) = (t : Int) + 1 := IntWalk.i64_in _ (by omega)
        go_wp2_with fail
        go_roundw
        case rel => exact ⟨k + 1, by omega, by go_num, Lib.hid ⟨by rw [hst.out, if_pos trivial]; rfl, HC3.out⟩⟩
        case measure => simp [intOf]; omega
      · have hzb : (r == 0) = false := beq_eq_false_iff_ne.2 hz
        go_wp2_with fail
        go_roundw
        case rel => exact ⟨k + 1, by omega, by go_num, Lib.hid ⟨by rw [hst.out, if_neg hz]; rfl, HC3.out⟩⟩
        case measure => simp [intOf]; omega
    · have hkn : k = n := by omega
      subst hkn
      have hki : ¬ (k : Int) < (k : Int) := by omega
      have e : List.take k l = l := List.take_of_length_le (by rw [ll.out]; exact Nat.le_refl _)
      rw [e]
      go_wp2_with fail
      go_ret
      exact ⟨rfl, HB.out⟩
end Go.Proofs.YtdnomfekblmnbaaGreatDoor

/- Contract of slices.IsSortedFunc at entries and entry.Compare. -/
namespace Go.Proofs.YtdnomfekblmnbaaGreatDoor
open Go.RowKit Go.Maps Num

/-- from place k on the list is in order -/
def sortedB (l : List En) : Bool := (List.range (l.length - 1)).all fun i => !decide (cmpE (l.getD (i + 1) en0) (l.getD i en0) < 0)
def SrtR (w : World) (l : List En) (k : Nat) (W : World) : Prop := (∀ i, k ≤ i → i + 1 < l.length → ¬ cmpE (l.getD (i + 1) en0) (l.getD i en0) < 0) ∧ Below w.heap.size w W
theorem sortedB_true {l : List En} (h : ∀ i, 0 ≤ i → i + 1 < l.length → ¬ cmpE (l.getD (i + 1) en0) (l.getD i en0) < 0) : sortedB l = true := by
  unfold sortedB
  rw [List.all_eq_true]
  intro i hi
  rw [List.mem_range] at hi
  rw [decide_eq_false (h i (Nat.zero_le _) (by omega))]
  rfl
theorem sortedB_false {l : List En} {i : Nat} (h0 : i + 1 < l.length) (h : cmpE (l.getD (i + 1) en0) (l.getD i en0) < 0) : sortedB l = false := by
  cases e : sortedB l with
  | false => rfl
  | true =>
    unfold sortedB at e
    rw [List.all_eq_true] at e
    have := e i (List.mem_range.2 (by omega))
    rw [decide_eq_true h] at this
    cases this
set_option maxRecDepth 100000 in
set_option maxHeartbeats 4000000 in
theorem sorted_any (A : Option Addr) (n c : Nat) (l : List En) (w : World) (hl : Ens w A n c l) :
    Calls Tryz.prog 33 #[.slice A n c, .func (.func 14) #[] #[]] w (BoolPost (sortedB l) w) := by
  have hn := hl.small
  have ll := Lib.hid hl.len
  have L1 := Lib.hid hl
  clear hl
  have hT := Lib.hid (sortedB_true (l := l))
  have hF := Lib.hid (fun i => @sortedB_false l i)
  generalize sortedB l = r at *
  have hw0 : IntKind.i64.wrap ((n : Int) - 1) = (n : Int) - 1 := IntWalk.i64_in _ (by omega)
  go_enter Tryz.func33, Tryz.ntmps33
  go_wp2_with fail
  clear hw0
  have R0 := Lib.hid (show SrtR w l (n - 1) w from ⟨fun i h1 h2 => by rw [ll.out] at h2; omega, Below.refl _ _⟩)
  go_loopw [5] (fun i wr => ∃ k : Int, -1 ≤ k ∧ k ≤ (n : Int) - 1 ∧ i = .int .i64 k ∧ Hid (SrtR w l k.toNat wr)) (fun i _ => (intOf i).toNat)
  case atStart => exact ⟨(n : Int) - 1, by omega, by omega, rfl, by rw [show ((n : Int) - 1).toNat = n - 1 by omega]; exact R0⟩
  case round =>
    obtain ⟨k, hk1, hk2, rfl, hR⟩ := hrel
    have HE := Lib.hid hR.out.1
    have HB := Lib.hid hR.out.2
    clear hR R0
    by_cases hpos : 0 < k
    · obtain ⟨j, hj⟩ : ∃ j : Nat, k = (j : Int) + 1 := ⟨(k - 1).toNat, by omega⟩
      have hjn : j + 1 < n := by omega
      obtain ⟨b1, o1, rfl, hb1, hc1⟩ := L1.out.at_ (by omega)
      obtain ⟨q0, q1, A1, n1, c1, q2, hl1⟩ := hc1 (j + 1) hjn
      obtain ⟨v0, v1, A2, n2, c2, v2, hl2⟩ := hc1 j (by omega)
      have r0 := (HB.out.cell (p := ⟨b1, o1 + (j + 1) * 3, none⟩) hb1).trans q0
      have r1 := (HB.out.cell (p := ⟨b1, o1 + (j + 1) * 3 + 1, none⟩) hb1).trans q1
      have r2 := (HB.out.cell (p := ⟨b1, o1 + (j + 1) * 3 + 2, none⟩) hb1).trans q2
      have s0 := (HB.out.cell (p := ⟨b1, o1 + j * 3, none⟩) hb1).trans v0
      have s1 := (HB.out.cell (p := ⟨b1, o1 + j * 3 + 1, none⟩) hb1).trans v1
      have s2 := (HB.out.cell (p := ⟨b1, o1 + j * 3 + 2, none⟩) hb1).trans v2
      have hl1 := hl1.below HB.out
      have hl2 := hl2.below HB.out
      have hF1 := Lib.hid (hF.out j (by rw [ll.out]; exact hjn))
      have hE1 := Lib.hid (show ¬ cmpE (l.getD (j + 1) en0) (l.getD j en0) < 0 → ∀ i, j ≤ i → i + 1 < l.length → ¬ cmpE (l.getD (i + 1) en0) (l.getD i en0) < 0 from fun h i hi h2 => by
        rcases Nat.eq_or_lt_of_le hi with h3 | h3
        · subst h3; exact h
        · exact HE.out i (by omega) h2)
      clear q0 q1 q2 v0 v1 v2 hc1 HE hF
      generalize hx : l.getD (j + 1) en0 = x at r0 r1 r2 hl1 hF1 hE1
      generalize hy : l.getD j en0 = y at s0 s1 s2 hl2 hF1 hE1
      obtain ⟨d1, z1, k1⟩ := x
      obtain ⟨d2, z2, k2⟩ := y
      simp only at r0 r1 r2 s0 s1 s2 hl1 hl2
      obtain ⟨g, hg⟩ : ∃ g : Nat, g = j + 1 := ⟨_, rfl⟩
      rw [← hg] at r0 r1 r2
      have hkg : k = (g : Int) := by omega
      subst hkg
      have hw : IntKind.i64.wrap ((g : Int) - 1) = (j : Int) := (IntWalk.i64_in _ (by omega)).trans (by omega)
      have hgi : (g : Int) < (n : Int) := by omega
      have hji : (j : Int) < (n : Int) := by omega
      have hgn : 0 < g := by omega
      have ce := ecmp_any d1 d2 z1 z2 A1 A2 n1 c1 n2 c2 k1 k2 wr.drew (hl1.below (below_dr (Below.refl _ _) 1)) (hl2.below (below_dr (Below.refl _ _) 1))
      unfold enV at ce
      have CE := Lib.hid ce
      have HBr := Lib.hid (Below.refl wr.heap.size wr)
      have HS := Lib.hid (And.intro r0 (And.intro r1 (And.intro r2 (And.intro s0 (And.intro s1 s2)))))
      have lb := block_lt_of_cell r0
      generalize cmpE (d1, z1, k1) (d2, z2, k2) = cv at *
      have hgj := Lib.hid hg
      clear ce hl1 hl2 hx hy hg hj
      go_upto_region 4 with fail
      go_region_held3 (fun w' => w'.cell? ⟨b1, o1 + g * 3, none⟩ = some (.int .i64 d1) ∧ w'.cell? ⟨b1, o1 + g * 3 + 1, none⟩ = some (.string ⟨z1.toArray⟩) ∧ w'.cell? ⟨b1, o1 + g * 3 + 2, none⟩ = some (.slice A1 n1 c1) ∧ w'.cell? ⟨b1, o1 + j * 3, none⟩ = some (.int .i64 d2) ∧ w'.cell? ⟨b1, o1 + j * 3 + 1, none⟩ = some (.string ⟨z2.toArray⟩) ∧ w'.cell? ⟨b1, o1 + j * 3 + 2, none⟩ = some (.slice A2 n2 c2))
        (first | exact ⟨f0, f1, f2, f3, f4, f5⟩ | exact ⟨r0, r1, r2, s0, s1, s2⟩ | go_keep)
        (first
          | (go_at_call 14; refine CE.out.mono ?_; rintro e w' ⟨rfl, hb⟩; have HBr := Lib.hid (below_next HBr.out hb ⟨rfl, rfl, rfl, rfl⟩); have f0 := (HBr.out.cell lb).trans HS.out.1; have f1 := (HBr.out.cell (p := ⟨b1, o1 + g * 3 + 1, none⟩) lb).trans HS.out.2.1; have f2 := (HBr.out.cell (p := ⟨b1, o1 + g * 3 + 2, none⟩) lb).trans HS.out.2.2.1; have f3 := (HBr.out.cell (p := ⟨b1, o1 + j * 3, none⟩) lb).trans HS.out.2.2.2.1; have f4 := (HBr.out.cell (p := ⟨b1, o1 + j * 3 + 1, none⟩) lb).trans HS.out.2.2.2.2.1; have f5 := (HBr.out.cell (p := ⟨b1, o1 + j * 3 + 2, none⟩) lb).trans HS.out.2.2.2.2.2; clear hb))
      have HB2 := Lib.hid (HB.out.trans (HBr.out.mono HB.out.size))
      by_cases hc : cv < 0
      · have hv := Lib.hid (hF1.out hc)
        go_wp2_with fail
        go_ret
        exact ⟨by rw [hv.out]; rfl, HB2.out⟩
      · have hn1 := Lib.hid (hE1.out (by omega))
        clear hE1
        go_wp2_with fail
        go_roundw
        case rel => exact ⟨(j : Int), by omega, by omega, by go_num, Lib.hid ⟨fun i h1 h2 => by have := hn1.out i (by omega) h2; omega, HB2.out⟩⟩
        case measure => (have := hgj.out; simp [intOf]; omega)
    · have hv := Lib.hid (hT.out (fun i _ h2 => by have := HE.out i (by omega) h2; omega))
      go_wp2_with fail
      go_ret
      exact ⟨by rw [hv.out]; rfl, HB.out⟩
end Go.Proofs.YtdnomfekblmnbaaGreatDoor

/- Contract of integer.Sub. -/
namespace Go.Proofs.YtdnomfekblmnbaaGreatDoor
open Go.RowKit Num
theorem sv_not' (b : Bool) (ms : List Nat) : sv (!b) ms = - sv b ms := by cases b <;> simp [sv]
set_option maxRecDepth 100000 in
set_option maxHeartbeats 2000000 in
theorem Sub_any (a b : ByteArray) (w : World) (ha : a.size ≤ 120) (hb : b.size ≤ 120) (ht : Tab w) :
    Calls Tryz.prog 37 #[.string a, .string b] w (StrPost (txt (val a.data.toList - val b.data.toList)) w) := by
  have h1 := fun W => read_any a W ha
  have h2 := fun W => read_any b W hb
  have e1 := Lib.hid (val_sv a.data.toList)
  have e2 := Lib.hid (val_sv b.data.toList)
  have t1 := Lib.hid (grp_topOk a.data.toList)
  have t2 := Lib.hid (grp_topOk b.data.toList)
  unfold ReadPost at h1 h2
  generalize neg a.data.toList = na at *
  generalize neg b.data.toList = nb at *
  generalize grp (dgs a.data.toList) = ga at *
  generalize grp (dgs b.data.toList) = gb at *
  have H1 := Lib.hid h1
  have H2 := Lib.hid h2
  clear h1 h2
  go_enter Tryz.func37, Tryz.ntmps37
  go_wp2_with fail
  refine (H2.out _).mono ?_
  rintro e w2 ⟨B, p, d, rfl, hp, hm, hz, hb2⟩
  have M2 := Lib.hid hm
  have Z2 := Lib.hid hz
  have B2 := Lib.hid hb2
  clear hm hz hb2
  go_wp2_with fail
  have x0 : (w2.alloc (.cells #[.bool !nb, .slice B p d] 92)).cell? ⟨w2.heap.size, 0, none⟩ = some (.bool !nb) := by go_simp
  have x1 : (w2.alloc (.cells #[.bool !nb, .slice B p d] 92)).cell? ⟨w2.heap.size, 1, none⟩ = some (.slice B p d) := by go_simp
  have hbw : Below w2.heap.size w2 (w2.alloc (.cells #[.bool !nb, .slice B p d] 92)) := (Below.refl _ _).alloc (Nat.le_refl _) _
  have M2' := Lib.hid (M2.out.below hbw)
  have BW := Lib.hid (B2.out.trans (hbw.mono B2.out.size))
  clear hbw
  generalize (w2.alloc (.cells #[.bool !nb, .slice B p d] 92)) = W at *
  have l0 := block_lt_of_cell x0
  have HX := Lib.hid (And.intro x0 x1)
  have HB := Lib.hid (Below.refl W.heap.size W)
  have HT := Lib.hid ht
  clear ht
  go_region_held3 (fun w' => w'.cell? ⟨w2.heap.size, 0, none⟩ = some (.bool !nb) ∧ w'.cell? ⟨w2.heap.size, 1, none⟩ = some (.slice B p d))
    (first | exact ⟨d0, d1⟩ | go_keep)
    (first
      | (go_at_call 73; refine (H1.out _).mono ?_; rintro e w5 ⟨A, n, c, rfl, hn, hm, hz, hb5⟩; have HB := Lib.hid (below_next HB.out hb5 ⟨rfl, rfl, rfl, rfl⟩); have M1 := Lib.hid hm; have Z1 := Lib.hid hz; have M3 := Lib.hid (M2'.out.below HB.out); have d0 := (HB.out.cell l0).trans HX.out.1; have d1 := (HB.out.cell (p := ⟨w2.heap.size, 1, none⟩) l0).trans HX.out.2; clear hm hz hb5)
      | (go_at_call 78; refine (add_any na (!nb) A B n c p d ga gb _ M1.out M3.out t1.out t2.out Z1.out Z2.out (by omega) (by omega)).mono ?_; rintro e w6 ⟨v, ng, G, k, cc, os, rfl, ⟨rfl, hm, hk, hv⟩, hb6⟩; have M5 := Lib.hid hm; have V3 := Lib.hid hv; have HB := Lib.hid (below_next HB.out hb6 ⟨rfl, rfl, rfl, rfl⟩); have d0 := (HB.out.cell l0).trans HX.out.1; have d1 := (HB.out.cell (p := ⟨w2.heap.size, 1, none⟩) l0).trans HX.out.2; clear hm hv hb6)
      | (go_at_call 74; refine (text_any ng G k cc os _ M5.out (HT.out.below (BW.out.trans (HB.out.mono BW.out.size))) (by omega)).mono ?_; rintro e w7 ⟨rfl, hb7⟩; have HB := Lib.hid (below_next HB.out hb7 ⟨rfl, rfl, rfl, rfl⟩); have d0 := (HB.out.cell l0).trans HX.out.1; have d1 := (HB.out.cell (p := ⟨w2.heap.size, 1, none⟩) l0).trans HX.out.2; clear hb7))
  go_wp2_with fail
  go_ret
  refine ⟨?_, BW.out.trans (HB.out.mono BW.out.size)⟩
  rw [e1.out, e2.out, Int.sub_eq_add_neg, ← sv_not', ← V3.out]
  rfl
end Go.Proofs.YtdnomfekblmnbaaGreatDoor
