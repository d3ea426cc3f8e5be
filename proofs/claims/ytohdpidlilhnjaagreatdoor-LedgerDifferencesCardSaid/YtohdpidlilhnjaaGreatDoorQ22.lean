/- Contract of entry.Reverse: the answer's lines lie in a new block (printed by gen_revn.py out of Rev). -/
import Derived.Test.YtohdpidlilhnjaaGreatDoorQ5
import Derived.Test.YtohdpidlilhnjaaGreatDoorQ12
import Derived.Test.YtohdpidlilhnjaaGreatDoorQ15
import Derived.Test.YtohdpidlilhnjaaGreatDoorQ10
namespace Go.Proofs.YtohdpidlilhnjaaGreatDoor
open Go.RowKit Go.Maps Num

def RevPostN (d : Int) (cz : List UInt8) (l : List Ln) (w : World) (e : Ending) (w' : World) : Prop :=
  Below w.heap.size w w' ∧ if chkE d cz l = 0 then ∃ A c, e = .returned (.tuple #[.agg (enV d cz A l.length c), .int .i64 0]) ∧ (Lns w' A l.length c (l.map negL) ∧ ∀ g o s, A = some ⟨g, o, s⟩ → w.heap.size ≤ g)
  else e = .returned (.tuple #[.agg (enV 0 [] none 0 0), .int .i64 1])
set_option maxRecDepth 100000 in
set_option maxHeartbeats 4000000 in
theorem RevN_any (d : Int) (cz : List UInt8) (A : Option Addr) (n c : Nat) (l : List Ln) (w : World) (hl : Lns w A n c l) (hcz : cz.length ≤ maxLen) (hs : ∀ x ∈ l, x.2.2.length ≤ 60) (ht : Tab w) (hm : ML w) :
    Calls Tryz.prog 39 #[.agg (enV d cz A n c)] w (RevPostN d cz l w) := by
  have hn := hl.small
  have ll := Lib.hid hl.len
  have hB0 : Below w.heap.size w ((w.alloc (.cells #[.int .i64 d, .string ⟨cz.toArray⟩, .slice A n c] 39)).alloc (.cells #[.int .i64 0, .string ⟨#[]⟩, .slice none 0 0] 39)) := ((Below.refl _ w).alloc (Nat.le_refl _) _).alloc (by simp) _
  have y0 : ((w.alloc (.cells #[.int .i64 d, .string ⟨cz.toArray⟩, .slice A n c] 39)).alloc (.cells #[.int .i64 0, .string ⟨#[]⟩, .slice none 0 0] 39)).heap[w.heap.size]? = some (.cells #[.int .i64 d, .string ⟨cz.toArray⟩, .slice A n c] 39) := by
    rw [heap_alloc_old _ _ (by simp)]; exact heap_alloc_new w _
  have y1 : ((w.alloc (.cells #[.int .i64 d, .string ⟨cz.toArray⟩, .slice A n c] 39)).alloc (.cells #[.int .i64 0, .string ⟨#[]⟩, .slice none 0 0] 39)).heap[w.heap.size + 1]? = some (.cells #[.int .i64 0, .string ⟨#[]⟩, .slice none 0 0] 39) := by
    have := heap_alloc_new (w.alloc (.cells #[.int .i64 d, .string ⟨cz.toArray⟩, .slice A n c] 39)) (.cells #[.int .i64 0, .string ⟨#[]⟩, .slice none 0 0] 39)
    rwa [show (w.alloc (.cells #[.int .i64 d, .string ⟨cz.toArray⟩, .slice A n c] 39)).heap.size = w.heap.size + 1 by simp] at this
  have hsz : ((w.alloc (.cells #[.int .i64 d, .string ⟨cz.toArray⟩, .slice A n c] 39)).alloc (.cells #[.int .i64 0, .string ⟨#[]⟩, .slice none 0 0] 39)).heap.size = w.heap.size + 2 := by simp
  have hch := Chk_any d cz A n c l _ (hl.below hB0) hcz (ht.below hB0) (hm.below hB0)
  have HCH := Lib.hid hch
  have HB0 := Lib.hid hB0
  have Y0 := Lib.hid y0
  have Y1 := Lib.hid y1
  have HZ := Lib.hid hsz
  have HP := Lib.hid (show ∀ e w', RevPostN d cz l w e w' ↔ (Below w.heap.size w w' ∧ if chkE d cz l = 0 then ∃ A c, e = .returned (.tuple #[.agg (enV d cz A l.length c), .int .i64 0]) ∧ (Lns w' A l.length c (l.map negL) ∧ ∀ g o s, A = some ⟨g, o, s⟩ → w.heap.size ≤ g) else e = .returned (.tuple #[.agg (enV 0 [] none 0 0), .int .i64 1])) from fun _ _ => Iff.rfl)
  have L1 := Lib.hid hl
  have HS := Lib.hid hs
  have HT := Lib.hid ht
  have HM := Lib.hid hm
  clear hch hB0 y0 y1 hl hs ht hm hsz
  generalize RevPostN d cz l w = Post at *
  generalize chkE d cz l = ce at *
  unfold enV at HCH ⊢
  go_enter Tryz.func39, Tryz.ntmps39
  go_wp2_with fail
  refine HCH.out.mono ?_
  rintro e w1 ⟨rfl, hb1⟩
  have HB1 := Lib.hid (below_next HB0.out hb1 ⟨rfl, rfl, rfl, rfl⟩)
  have z0 := (hb1.block w.heap.size (by rw [HZ.out]; omega)).trans Y0.out
  have z1 := (hb1.block (w.heap.size + 1) (by rw [HZ.out]; omega)).trans Y1.out
  have hs1 : w.heap.size + 2 ≤ w1.heap.size := by have := hb1.size; rw [HZ.out] at this; exact this
  have Z1 := Lib.hid z1
  obtain ⟨⟨c00, c01, c02⟩, _⟩ := cells3 z0
  clear HCH Y0 Y1 HZ hb1 HB0
  by_cases hz : ce = 0
  case neg =>
    have hzb : (ce == 0) = false := beq_eq_false_iff_ne.2 hz
    have hzb' : (ce != 0) = true := by rw [bne_iff_ne]; exact hz
    obtain ⟨⟨c10, c11, c12⟩, f10, f11, f12⟩ := cells3 z1
    obtain ⟨⟨g10, g11, g12⟩, _⟩ := cells3 (set3 z1 (.int .i64 0) (.string ⟨#[]⟩) (.slice none 0 0))
    clear z0 z1
    go_wp2_with fail
    have hb := below_set3 HB1.out (b := w.heap.size + 1) (by omega) (.int .i64 0) (.string ⟨#[]⟩) (.slice none 0 0)
    exact bodyPost_ret (v := .tuple #[.agg (enV 0 [] none 0 0), .int .i64 1]) (by simp [results, Tryz.results39, go_sem, g10, g11, g12, enV]) rfl ((HP.out _ _).2 ⟨hb, by rw [if_neg hz]⟩)
  subst hz
  clear z0 z1
  have HC0 : Below w1.heap.size w1 (w1.alloc (.cells #[.int .i64 d, .string ⟨cz.toArray⟩, .slice none 0 0] 39)) := (Below.refl _ _).alloc (Nat.le_refl _) _
  have R0 := Lib.hid (show RevR d cz l w1 0 (w1.alloc (.cells #[.int .i64 d, .string ⟨cz.toArray⟩, .slice none 0 0] 39)) from ⟨_, heap_alloc_new w1 _, OwnL.nil _ _, HC0⟩)
  have c02' := (HC0.cell (p := ⟨w.heap.size, 2, none⟩) (block_lt_of_cell c02)).trans c02
  have hh := Lib.hid (fun W (h : Below w1.heap.size w1 W) => below_next HB1.out h ⟨rfl, rfl, rfl, rfl⟩)
  clear HC0
  go_wp2_with fail
  go_loopw [19] (fun i wr => ∃ k : Nat, k ≤ n ∧ i = .int .i64 (k : Int) ∧ Hid (RevR d cz l w1 k wr)) (fun i _ => n - (intOf i).toNat)
  case atStart => exact ⟨0, by omega, rfl, R0⟩
  case round =>
    obtain ⟨k, hk, rfl, hR⟩ := hrel
    obtain ⟨v, hbx, hov, hbw⟩ := hR.out
    have HC := Lib.hid hbw
    have HB := Lib.hid (hh.out _ hbw)
    have HO := Lib.hid hov
    have HX := Lib.hid hbx
    clear hR R0 hbw hov hbx
    by_cases hlt : k < n
    · obtain ⟨b1, o1, rfl, hb1, hc1⟩ := L1.out.at_ (by omega)
      obtain ⟨q0, q1, q2⟩ := hc1 k hlt
      have r0 := (HB.out.cell (p := ⟨b1, o1 + k * 3, none⟩) hb1).trans q0
      have r1 := (HB.out.cell (p := ⟨b1, o1 + k * 3 + 1, none⟩) hb1).trans q1
      have r2 := (HB.out.cell (p := ⟨b1, o1 + k * 3 + 2, none⟩) hb1).trans q2
      have hki : (k : Int) < (n : Int) := by omega
      have htk := Lib.hid (take_ln l k (by rw [ll.out]; exact hlt))
      have hmem := lnAt_mem l k (by rw [ll.out]; exact hlt)
      have h60 := HS.out _ hmem
      have hlk : ((l.take k).map negL).length ≤ 1000 := by rw [List.length_map, List.length_take]; omega
      clear q0 q1 q2 hc1 hmem
      generalize l.getD k ln0 = x at *
      obtain ⟨a, cu, m⟩ := x
      simp only at r0 r1 r2 h60
      have cn := fun W hW => Neg_any ⟨m.toArray⟩ W (show m.length ≤ 120 by omega) hW
      rw [show (⟨m.toArray⟩ : ByteArray).data.toList = m from rfl] at cn
      have HC2 := Lib.hid (show Below w1.heap.size w1 (wr.alloc (.cells #[.string ⟨a.toArray⟩, .string ⟨cu.toArray⟩, .string ⟨m.toArray⟩] 40)) from HC.out.alloc HC.out.size _)
      have x0 := Lib.hid (heap_alloc_new wr (.cells #[.string ⟨a.toArray⟩, .string ⟨cu.toArray⟩, .string ⟨m.toArray⟩] 40))
      have hlw : Below wr.heap.size wr (wr.alloc (.cells #[.string ⟨a.toArray⟩, .string ⟨cu.toArray⟩, .string ⟨m.toArray⟩] 40)) := (Below.refl _ _).alloc (Nat.le_refl _) _
      have HLW := Lib.hid hlw
      clear hlw
      go_wp2_with fail
      refine (cn _ (HT.out.below (hh.out _ HC2.out))).mono ?_
      rintro e w2 ⟨rfl, hb⟩
      have HC3 := Lib.hid (below_next HC2.out hb ⟨rfl, rfl, rfl, rfl⟩)
      have HL3 := Lib.hid (below_next HLW.out hb ⟨rfl, rfl, rfl, rfl⟩)
      have x2 := (hb.block wr.heap.size (by simp)).trans x0.out
      obtain ⟨⟨d0, d1, d2⟩, e0, e1, e2⟩ := cells3 x2
      clear hb cn
      go_upto_region 8 with fail
      have h3 : Below wr.heap.size wr (w2.setCell ⟨wr.heap.size, 2, none⟩ (.string ⟨(txt (-val m)).toArray⟩)) := below_grown HL3.out (Nat.le_refl _) (grown_setCell _ _ _) (Nat.le_refl _)
      have x3 := set2 x2 (.string ⟨(txt (-val m)).toArray⟩)
      generalize (w2.setCell ⟨wr.heap.size, 2, none⟩ (.string ⟨(txt (-val m)).toArray⟩)) = W3 at *
      have hlw1 : w1.heap.size < wr.heap.size := by
        rcases Nat.lt_or_ge w1.heap.size wr.heap.size with h | h
        · exact h
        · have := HX.out; rw [Array.getElem?_eq_none h] at this; cases this
      have hB3 := (h3.block _ hlw1).trans HX.out
      have ho3 := Lib.hid (HO.out.below h3)
      have HC4 := Lib.hid (HC.out.trans (h3.mono HC.out.size))
      have hsz3 := h3.size
      have hB3h := Lib.hid hB3
      obtain ⟨⟨p0, p1, p2⟩, s0, s1, s2⟩ := cells3 hB3
      obtain ⟨⟨t0, t1, t2⟩, _⟩ := cells3 x3
      have hne : some w1.heap.size ≠ v.ownBlock := fun e => by have := ho3.out.own _ e.symm; omega
      clear d0 d1 d2 e0 e1 e2 x2 x3 hB3 h3 r0 r1 r2
      go_wp2_with (first | (refine wpList_append_l rfl (.tmp 28) (.tmp 30) rfl (w1.heap.size + 1) v _ W3 (a, cu, txt (-val m)) rfl ho3.out rfl (by omega) hlk ?_; intro v' w4 ho4 hg4; obtain ⟨A4, n4, c4, rfl⟩ := ho4.slice; have hB4 := (hg4.block _ (by omega) hne).trans hB3h.out; obtain ⟨⟨u0, u1, u2⟩, m0, m1, m2⟩ := cells3 hB4) | fail)
      have hb4 := below_own HC4.out (Nat.le_refl _) hg4 (fun q e => Nat.le_of_succ_le (ho3.out.own q e))
      have hb5 := below_grown hb4 (Nat.le_refl _) (grown_setCell w4 ⟨w1.heap.size, 2, none⟩ (.slice A4 n4 c4)) (Nat.le_refl _)
      have ho5 : OwnL (w1.heap.size + 1) (w4.setCell ⟨w1.heap.size, 2, none⟩ (.slice A4 n4 c4)) (.slice A4 n4 c4) ((l.take (k + 1)).map negL) := by
        rw [htk.out, List.map_append]
        exact ho4.kept (grown_setCell w4 ⟨w1.heap.size, 2, none⟩ (.slice A4 n4 c4)) (fun q e => by have := Option.some.inj e; simp only at this; omega)
      exact ⟨⟨k + 1, by omega, by go_num, Lib.hid ⟨_, set2 hB4 _, ho5, hb5⟩⟩, by simp [intOf]; omega⟩
    · have hkn : k = n := by omega
      subst hkn
      have hki : ¬ (k : Int) < (k : Int) := by omega
      have e : List.take k l = l := List.take_of_length_le (by rw [ll.out]; exact Nat.le_refl _)
      have ho := HO.out
      rw [e] at ho
      have hlen : (l.map negL).length = k := by rw [List.length_map, ll.out]
      have hsm : ∀ y ∈ l.map negL, Sml y := fun y hy => by
        obtain ⟨x, hx, rfl⟩ := List.mem_map.1 hy
        exact negL_sml (L1.out.sml x hx) (HS.out x hx)
      obtain ⟨A', c', rfl, _⟩ := ho.cells (by rw [hlen]; exact hn) hsm
      have HNW := Lib.hid (show ∀ g o s, A' = some ⟨g, o, s⟩ → w.heap.size ≤ g from fun g o s e => by have := ho.own g (by rw [e]; rfl); omega)
      have hr : ∀ q, some (w.heap.size + 1) = some q → q < w1.heap.size + 1 := fun q e => by have := Option.some.inj e; omega
      have ho' := ((ho.kept (grown_setCell wr ⟨w.heap.size + 1, 0, none⟩ (.int .i64 d)) hr).kept (grown_setCell _ ⟨w.heap.size + 1, 1, none⟩ (.string ⟨cz.toArray⟩)) hr).kept (grown_setCell _ ⟨w.heap.size + 1, 2, none⟩ (.slice A' k c')) hr
      obtain ⟨A2, c2, e2, hln⟩ := ho'.cells (by rw [hlen]; exact hn) hsm
      injection e2 with e3 _ e4
      subst e3
      subst e4
      rw [hlen] at hln HX
      have hL := Lib.hid hln
      have z1 := (HC.out.block (w.heap.size + 1) (by omega)).trans Z1.out
      obtain ⟨⟨c10, c11, c12⟩, f10, f11, f12⟩ := cells3 z1
      obtain ⟨⟨b10, b11, b12⟩, _⟩ := cells3 HX.out
      obtain ⟨⟨g10, g11, g12⟩, _⟩ := cells3 (set3 z1 (.int .i64 d) (.string ⟨cz.toArray⟩) (.slice A' k c'))
      have hb := below_set3 HB.out (b := w.heap.size + 1) (by omega) (.int .i64 d) (.string ⟨cz.toArray⟩) (.slice A' k c')
      clear z1 hln ho ho' e hlen hsm hr
      go_wp2_with fail
      exact bodyPost_ret (v := .tuple #[.agg (enV d cz A' k c'), .int .i64 0]) (by simp [results, Tryz.results39, go_sem, g10, g11, g12, enV]) rfl ((HP.out _ _).2 ⟨hb, by
        rw [if_pos trivial, ll.out]
        exact ⟨A', c', rfl, hL.out, HNW.out⟩⟩)
end Go.Proofs.YtohdpidlilhnjaaGreatDoor

/- Entries that lie beside a slice that grows. -/
namespace Go.Proofs.YtohdpidlilhnjaaGreatDoor
open Go.RowKit Go.Maps Num

theorem Lns.grown {w w' : World} {A : Option Addr} {n c : Nat} {l : List Ln} {row : Option Nat} (h : Lns w A n c l) (hg : w.grownBy w' row) (hr : ∀ g o s, A = some ⟨g, o, s⟩ → row ≠ some g) : Lns w' A n c l :=
  ⟨h.len, h.cap, h.top, h.small, h.sml, fun h0 => by
    obtain ⟨b, o, e, hlt, hc⟩ := h.at_ h0
    have hk := hg.block b hlt fun e2 => hr b o Option.none e e2.symm
    exact ⟨b, o, e, Nat.lt_of_lt_of_le hlt hg.size, fun k hk' => by
      rw [World.cell?_of_block (a := ⟨b, o + k * 3, Option.none⟩) hk, World.cell?_of_block (a := ⟨b, o + k * 3 + 1, Option.none⟩) hk, World.cell?_of_block (a := ⟨b, o + k * 3 + 2, Option.none⟩) hk]; exact hc k hk'⟩⟩
/-- the entry r, whose lines lie in a block from B on, and not in the block g -/
def Apart (B : Nat) (row : Option Nat) (w : World) (r : RE) : Prop := RdE w r ∧ 0 < rawN r.1 ∧ ∀ g o s, rawA r.1 = some ⟨g, o, s⟩ → B ≤ g ∧ row ≠ some g
theorem Apart.below {B : Nat} {row : Option Nat} {w w' : World} {r : RE} (h : Apart B row w r) (hb : Below w.heap.size w w') : Apart B row w' r := ⟨h.1.below hb, h.2⟩
/-- the lines stay as they are where the slice beside them grows -/
theorem Apart.grown {B : Nat} {row row2 : Option Nat} {w w' : World} {r : RE} (h : Apart B row w r) (hg : w.grownBy w' row) (h2 : row2 = row ∨ ∃ g, row2 = some g ∧ w.heap.size ≤ g) : Apart B row2 w' r := by
  obtain ⟨⟨e1, e2, hl⟩, hn, ha⟩ := h
  refine ⟨⟨e1, e2, hl.grown hg fun g o s e => (ha g o s e).2⟩, hn, fun g o s e => ⟨(ha g o s e).1, ?_⟩⟩
  rcases h2 with rfl | ⟨g2, rfl, hg2⟩
  · exact (ha g o s e).2
  · obtain ⟨b, o', e', hlt, _⟩ := hl.at_ hn
    rw [e] at e'
    have := Option.some.inj e'
    have hb : g = b := congrArg Addr.block this
    intro h3
    have := Option.some.inj h3
    omega
end Go.Proofs.YtohdpidlilhnjaaGreatDoor

/- LedgerDifferences: the walk (printed by gen_lgg.py). -/
namespace Go.Proofs.YtohdpidlilhnjaaGreatDoor
open Go.RowKit Go.Maps Num

theorem lessB_sm {a b : List Ln} (ha : listB a = true) (la : a.length ≤ 16) (lb : b.length ≤ 16) (sa : ∀ x ∈ a, x.1.length ≤ 60 ∧ x.2.1.length ≤ 60 ∧ x.2.2.length ≤ 13) (sb : ∀ x ∈ b, x.1.length ≤ 60 ∧ x.2.1.length ≤ 60 ∧ x.2.2.length ≤ 13) :
    (∀ z ∈ lessB a b, Sml z ∧ z.2.2.length ≤ 60) ∧ (lessB a b).length ≤ 32 := by
  have hA : ∀ z ∈ a ++ b.map negL, Amk 1 z := fun z hz => by
    rcases List.mem_append.1 hz with h | h
    · exact amk_one (sa z h).2.2
    · obtain ⟨y, hy, rfl⟩ := List.mem_map.1 h
      exact amk_neg (sb y hy).2.2
  obtain ⟨p1, p2⟩ := nrmL_amkG _ hA
  rw [List.length_append, List.length_map] at p1 p2
  refine ⟨fun z hz => ?_, by unfold lessB; omega⟩
  have hn := less_of (a := a) (b := b) (listB_can ha)
  obtain ⟨x, hx, e⟩ := nrm_key hn hz
  have h20 := amk_100 (p2 z hz) (by omega)
  simp only [key, Prod.mk.injEq] at e
  have hk : x.1.length ≤ 60 ∧ x.2.1.length ≤ 60 := by
    rcases List.mem_append.1 hx with h | h
    · exact ⟨(sa x h).1, (sa x h).2.1⟩
    · obtain ⟨y, hy, rfl⟩ := List.mem_map.1 h
      exact ⟨(sb y hy).1, (sb y hy).2.1⟩
  rw [e.1, e.2] at hk
  exact ⟨⟨by omega, by omega, by omega⟩, by omega⟩
theorem revN_ok {d : Int} {cz : List UInt8} {l : List Ln} {w w' : World} {e : Ending} (h : chkE d cz l = 0) (hp : RevPostN d cz l w e w') :
    ∃ A c, e = .returned (.tuple #[.agg (enV d cz A l.length c), .int .i64 0]) ∧ Lns w' A l.length c (l.map negL) ∧ (∀ g o s, A = some ⟨g, o, s⟩ → w.heap.size ≤ g) ∧ Below w.heap.size w w' := by
  obtain ⟨hb, h2⟩ := hp
  rw [if_pos h] at h2
  obtain ⟨A, c, e1, e2, e3⟩ := h2
  exact ⟨A, c, e1, e2, e3, hb⟩
theorem wp_append1h {α : Type} {R : Row α} (ok : R.Ok) {ops : Array Oper} {rest : List Oper} {o : Oper} {a : Act} {Q : Exit → Act → World → Prop} (hgd : o.guard = none) (s t : Operand)
    (ho : o.op = .call { callee := .builtin .append, args := #[s, t], argTypes := #[R.S, R.S] })
    (B : Nat) (v : Value) (ns : List α) (w : World) (H : Nat) (hH : w.heap.size = H) (x : α) (cs : Array Value) (E' : TypeId) (hcs : cs = (R.enc x).toArray) (hE : E' = R.E) (hs : a.eval s = v) (hown : R.Own B w v ns) (hx : a.eval t = .slice (some ⟨H, 0, none⟩) 1 1)
    (hB : B ≤ w.heap.size) (hn : ns.length + 1 ≤ 1000000)
    (h : ∀ v' w', R.Own B w' v' (ns ++ [x]) → w.grownBy w' v.ownBlock → (v'.ownBlock = v.ownBlock ∨ ∃ g, v'.ownBlock = some g ∧ w.heap.size ≤ g) → wpList Tryz.prog ops Q rest (a.put o.dst v') w') : wpList Tryz.prog ops Q (o :: rest) a (w.alloc (.cells cs E')) := by
  subst hH
  exact Row.wp_append1 ok hgd s t ho B v ns w x cs E' hcs hE hs hown hx hB hn h
/-- the entries reversed so far -/
def DifR (w : World) (ps : List RE) (k : Nat) (v : Value) (W : World) : Prop :=
  ∃ rs : List RE, rs.map Prod.snd = revL ((ps.take k).map Prod.snd) ∧ rowE.Own w.heap.size W v rs ∧ (∀ r ∈ rs, Apart w.heap.size v.ownBlock W r) ∧ Below w.heap.size w W
theorem lsL_ok {a b : List Ln} (ha : listB a = true) (hb : listB b = true) : lsL a b = lessB a b ∧ lsI a b = 0 := by
  unfold lsL lsI
  rw [ha, hb]
  exact ⟨rfl, rfl⟩
theorem trial_own (A : Option Addr) (n c : Nat) (ps : List RE) (w : World) (hg : greatB ps = false) (hok : OkL (ps.map Prod.snd)) (h : Res w A n c ps) (ht : Tab w) (hm : ML w) :
    Calls Tryz.prog 14 #[.slice A n c, .int .i64 84005] w (ListC (nrmL (flat (ps.map Prod.snd) fun x => decide (x ≤ 84005))) 0 w) := by
  have h1 := Trial_any A n c ps 84005 w h (fit_z hg) (by rw [← h.rds.len]; have := (great_parts hg).1; omega) ht hm
  obtain ⟨ta, ia⟩ := tr_ok hok (d := 84005) (by decide) (by decide)
  rwa [ta, ia] at h1
theorem rev_z {ps rs : List RE} (hg : greatB ps = false) (he : ∀ r ∈ rs, r.2 ∈ ps.map Prod.snd ++ revL (ps.map Prod.snd)) : ∀ p ∈ rs, p.2.2.1.length ≤ 1000 := fun r hr => by
  rcases List.mem_append.1 (he r hr) with h | h
  · obtain ⟨p, hp, e⟩ := List.mem_map.1 h
    rw [← e]
    exact fit_z hg p hp
  · unfold revL at h
    obtain ⟨e, he', e2⟩ := List.mem_map.1 h
    obtain ⟨p, hp, rfl⟩ := List.mem_map.1 he'
    rw [← e2]
    exact fit_z hg p hp
theorem trial_rev (A : Option Addr) (n c : Nat) (ps rs : List RE) (w : World) (hg : greatB ps = false) (hok : OkL (ps.map Prod.snd)) (h : Res w A n c rs) (hn : n ≤ 20) (he : rs.map Prod.snd = revL (ps.map Prod.snd)) (ht : Tab w) (hm : ML w) :
    Calls Tryz.prog 14 #[.slice A n c, .int .i64 84005] w (ListC (lessB [] (nrmL (flat (ps.map Prod.snd) fun x => decide (x ≤ 84005)))) 0 w) := by
  have h1 := Trial_any A n c rs 84005 w h (rev_z hg fun r hr => List.mem_append.2 (.inr (by rw [← he]; exact List.mem_map_of_mem hr))) hn ht hm
  rw [he] at h1
  obtain ⟨ta, ia⟩ := tr_ok (revL_ok hok) (d := 84005) (by decide) (by decide)
  rwa [ta, ia, revL_trial hok] at h1
theorem trial_both (A : Option Addr) (n c : Nat) (ps rs : List RE) (w : World) (hg : greatB ps = false) (hok : OkL (ps.map Prod.snd)) (h : Res w A n c rs) (hn : n ≤ 20) (he : rs.map Prod.snd = ps.map Prod.snd ++ revL (ps.map Prod.snd)) (ht : Tab w) (hm : ML w) :
    Calls Tryz.prog 14 #[.slice A n c, .int .i64 84005] w (ListC [] 0 w) := by
  have h1 := Trial_any A n c rs 84005 w h (rev_z hg fun r hr => by rw [← he]; exact List.mem_map_of_mem hr) hn ht hm
  rw [he] at h1
  obtain ⟨ta, ia⟩ := tr_ok (okL_append hok (revL_ok hok)) (d := 84005) (by decide) (by decide)
  rwa [ta, ia, both_trial hok] at h1
set_option maxRecDepth 100000 in
set_option maxHeartbeats 16000000 in
theorem diffs_in (A B C : Option Addr) (n1 c1 n2 c2 n c : Nat) (a b : List Ln) (ps : List RE) (w : World) (h1 : rowB.Rds w A n1 c1 a) (h2 : rowB.Rds w B n2 c2 b) (hl : rowE.Rds w C n c ps) (hr : ∀ p ∈ ps, RdG w p) (ht : Tab w) (hm : ML w) :
    Calls Tryz.prog 8 #[.slice A n1 c1, .slice B n2 c2, .slice C n c] w (BoolPost true w) := by
  have HP := Lib.hid (fun W (h : Below w.heap.size w W) => (show BoolPost true w (.returned (.bool true)) W from ⟨rfl, h⟩))
  have HW := Lib.hid (fun W (h : Below w.heap.size w W) => awake_any W (ht.below h) (hm.below h))
  have HG1 := Lib.hid (fun W (h : Below w.heap.size w W) => rGreatB_any A n1 c1 a W (h1.below h))
  have HG2 := Lib.hid (fun W (h : Below w.heap.size w W) => rGreatB_any B n2 c2 b W (h2.below h))
  have HFI := Lib.hid (fun W (h : Below w.heap.size w W) => fine_any C n c ps W (hl.below h) (fun p hp => (hr p hp).below h) (ht.below h) (hm.below h))
  unfold BoolPost at HW HG1 HG2 HFI
  cases hga : grLB a
  case true =>
    rw [hga] at HG1
    clear h1 h2 hl hr ht hm
    generalize BoolPost true w = Post at *
    go_enter Tryz.func8, Tryz.ntmps8
    go_wp2_with fail
    refine (HG1.out _ (Below.refl _ _)).mono ?_
    rintro e w1 ⟨rfl, hb⟩
    have B1 := Lib.hid (hb)
    clear hb
    go_wp2_with fail
    refine (HW.out _ B1.out).mono ?_
    rintro e w2 ⟨rfl, hb⟩
    have B2 := Lib.hid (below_next B1.out hb ⟨rfl, rfl, rfl, rfl⟩)
    clear hb
    go_wp2_with fail
    exact HP.out _ B2.out
  case false =>
  rw [hga] at HG1
  cases hgb : grLB b
  case true =>
    rw [hgb] at HG2
    clear h1 h2 hl hr ht hm
    generalize BoolPost true w = Post at *
    go_enter Tryz.func8, Tryz.ntmps8
    go_wp2_with fail
    refine (HG1.out _ (Below.refl _ _)).mono ?_
    rintro e w1 ⟨rfl, hb⟩
    have B1 := Lib.hid (hb)
    clear hb
    go_wp2_with fail
    refine (HG2.out _ B1.out).mono ?_
    rintro e w2 ⟨rfl, hb⟩
    have B2 := Lib.hid (below_next B1.out hb ⟨rfl, rfl, rfl, rfl⟩)
    clear hb
    go_wp2_with fail
    refine (HW.out _ B2.out).mono ?_
    rintro e w3 ⟨rfl, hb⟩
    have B3 := Lib.hid (below_next B2.out hb ⟨rfl, rfl, rfl, rfl⟩)
    clear hb
    go_wp2_with fail
    exact HP.out _ B3.out
  case false =>
  rw [hgb] at HG2
  obtain ⟨ga, sa⟩ := grLB_parts hga
  obtain ⟨gb, sb⟩ := grLB_parts hgb
  have hn1 : n1 ≤ 16 := by rw [← h1.len]; exact ga
  have hn2 : n2 ≤ 16 := by rw [← h2.len]; exact gb
  have HC1 := Lib.hid (fun W (h : Below w.heap.size w W) => rCheckB_any A n1 c1 a W (h1.below h) (fun x hx => by have := sa x hx; omega) (by omega))
  have HC2 := Lib.hid (fun W (h : Below w.heap.size w W) => rCheckB_any B n2 c2 b W (h2.below h) (fun x hx => by have := sb x hx; omega) (by omega))
  unfold BoolPost at HC1 HC2
  cases hla : listB a
  case false =>
    rw [hla] at HC1
    clear h1 h2 hl hr ht hm
    generalize BoolPost true w = Post at *
    go_enter Tryz.func8, Tryz.ntmps8
    go_wp2_with fail
    refine (HG1.out _ (Below.refl _ _)).mono ?_
    rintro e w1 ⟨rfl, hb⟩
    have B1 := Lib.hid (hb)
    clear hb
    go_wp2_with fail
    refine (HG2.out _ B1.out).mono ?_
    rintro e w2 ⟨rfl, hb⟩
    have B2 := Lib.hid (below_next B1.out hb ⟨rfl, rfl, rfl, rfl⟩)
    clear hb
    go_wp2_with fail
    refine (HC1.out _ B2.out).mono ?_
    rintro e w3 ⟨rfl, hb⟩
    have B3 := Lib.hid (below_next B2.out hb ⟨rfl, rfl, rfl, rfl⟩)
    clear hb
    go_wp2_with fail
    refine (HW.out _ B3.out).mono ?_
    rintro e w4 ⟨rfl, hb⟩
    have B4 := Lib.hid (below_next B3.out hb ⟨rfl, rfl, rfl, rfl⟩)
    clear hb
    go_wp2_with fail
    exact HP.out _ B4.out
  case true =>
  rw [hla] at HC1
  cases hlb : listB b
  case false =>
    rw [hlb] at HC2
    clear h1 h2 hl hr ht hm
    generalize BoolPost true w = Post at *
    go_enter Tryz.func8, Tryz.ntmps8
    go_wp2_with fail
    refine (HG1.out _ (Below.refl _ _)).mono ?_
    rintro e w1 ⟨rfl, hb⟩
    have B1 := Lib.hid (hb)
    clear hb
    go_wp2_with fail
    refine (HG2.out _ B1.out).mono ?_
    rintro e w2 ⟨rfl, hb⟩
    have B2 := Lib.hid (below_next B1.out hb ⟨rfl, rfl, rfl, rfl⟩)
    clear hb
    go_wp2_with fail
    refine (HC1.out _ B2.out).mono ?_
    rintro e w3 ⟨rfl, hb⟩
    have B3 := Lib.hid (below_next B2.out hb ⟨rfl, rfl, rfl, rfl⟩)
    clear hb
    go_wp2_with fail
    refine (HC2.out _ B3.out).mono ?_
    rintro e w4 ⟨rfl, hb⟩
    have B4 := Lib.hid (below_next B3.out hb ⟨rfl, rfl, rfl, rfl⟩)
    clear hb
    go_wp2_with fail
    refine (HW.out _ B4.out).mono ?_
    rintro e w5 ⟨rfl, hb⟩
    have B5 := Lib.hid (below_next B4.out hb ⟨rfl, rfl, rfl, rfl⟩)
    clear hb
    go_wp2_with fail
    exact HP.out _ B5.out
  case true =>
  rw [hlb] at HC2
  cases hf : fineB ps
  case false =>
    rw [hf] at HFI
    clear h1 h2 hl hr ht hm
    generalize BoolPost true w = Post at *
    go_enter Tryz.func8, Tryz.ntmps8
    go_wp2_with fail
    refine (HG1.out _ (Below.refl _ _)).mono ?_
    rintro e w1 ⟨rfl, hb⟩
    have B1 := Lib.hid (hb)
    clear hb
    go_wp2_with fail
    refine (HG2.out _ B1.out).mono ?_
    rintro e w2 ⟨rfl, hb⟩
    have B2 := Lib.hid (below_next B1.out hb ⟨rfl, rfl, rfl, rfl⟩)
    clear hb
    go_wp2_with fail
    refine (HC1.out _ B2.out).mono ?_
    rintro e w3 ⟨rfl, hb⟩
    have B3 := Lib.hid (below_next B2.out hb ⟨rfl, rfl, rfl, rfl⟩)
    clear hb
    go_wp2_with fail
    refine (HC2.out _ B3.out).mono ?_
    rintro e w4 ⟨rfl, hb⟩
    have B4 := Lib.hid (below_next B3.out hb ⟨rfl, rfl, rfl, rfl⟩)
    clear hb
    go_wp2_with fail
    refine (HFI.out _ B4.out).mono ?_
    rintro e w5 ⟨rfl, hb⟩
    have B5 := Lib.hid (below_next B4.out hb ⟨rfl, rfl, rfl, rfl⟩)
    clear hb
    go_wp2_with fail
    refine (HW.out _ B5.out).mono ?_
    rintro e w6 ⟨rfl, hb⟩
    have B6 := Lib.hid (below_next B5.out hb ⟨rfl, rfl, rfl, rfl⟩)
    clear hb
    go_wp2_with fail
    exact HP.out _ B6.out
  case true =>
  rw [hf] at HFI
  have sA : ∀ x ∈ a, Sml x ∧ x.2.2.length ≤ 60 := fun x hx => by have := sa x hx; exact ⟨⟨by omega, by omega, by omega⟩, by omega⟩
  have sB' : ∀ x ∈ b, Sml x ∧ x.2.2.length ≤ 60 := fun x hx => by have := sb x hx; exact ⟨⟨by omega, by omega, by omega⟩, by omega⟩
  obtain ⟨s3, l3⟩ := lessB_sm hla ga gb sa sb
  obtain ⟨s4, l4⟩ := lessB_sm (a := []) listB_nil (by simp) gb (fun x hx => by cases hx) sb
  have hab := lessB_list hla (listB_ln hlb)
  have hnb := lessB_list listB_nil (listB_ln hlb)
  have hbk := lessB_back hla hlb
  have M1 := fun W (h : Below w.heap.size w W) => Minus_any A A n1 c1 n1 c1 a a W (h1.below h) (h1.below h) (fun x hx => (sA x hx).1) sA (by omega) (by omega) (ht.below h) (hm.below h)
  rw [(lsL_ok hla hla).1, (lsL_ok hla hla).2, lessB_self hla] at M1
  have M2 := fun W (h : Below w.heap.size w W) => Minus_any none B 0 0 n2 c2 [] b W (Row.Rds.nil W none 0 (by decide)) (h2.below h) (fun x hx => by cases hx) sB' (by omega) (by omega) (ht.below h) (hm.below h)
  rw [(lsL_ok listB_nil hlb).1, (lsL_ok listB_nil hlb).2] at M2
  have M3 := fun W (h : Below w.heap.size w W) => Minus_any A B n1 c1 n2 c2 a b W (h1.below h) (h2.below h) (fun x hx => (sA x hx).1) sB' (by omega) (by omega) (ht.below h) (hm.below h)
  rw [(lsL_ok hla hlb).1, (lsL_ok hla hlb).2] at M3
  have M4 := fun A1 d1 A2 d2 W (h : Below w.heap.size w W) (r1 : rowB.Rds W A1 (lessB a b).length d1 (lessB a b)) (r2 : rowB.Rds W A2 (lessB [] b).length d2 (lessB [] b)) => Minus_any A1 A2 _ d1 _ d2 (lessB a b) (lessB [] b) W r1 r2 (fun x hx => (s3 x hx).1) s4 (by omega) (by omega) (ht.below h) (hm.below h)
  rw [(lsL_ok hab hnb).1, (lsL_ok hab hnb).2, hbk] at M4
  have M5 := fun A1 d1 W (h : Below w.heap.size w W) (r1 : rowB.Rds W A1 a.length d1 a) => Same_any A1 A a.length d1 n1 c1 a a W r1 (h1.below h) (by omega) (by omega)
  rw [decide_eq_true rfl] at M5
  unfold BoolPost at M5
  have K1 := Lib.hid M1
  have K2 := Lib.hid M2
  have K3 := Lib.hid M3
  have K4 := Lib.hid M4
  have K5 := Lib.hid M5
  obtain ⟨hg, hok⟩ := fine_parts hf
  have hres := great_res hl hr hg
  have hn : n ≤ 10 := by rw [← hl.len]; exact (great_parts hg).1
  have KC := Lib.hid (fun W (h : Below w.heap.size w W) => cloneE_any C n c ps W (hl.below h) (by omega))
  have KT1 := Lib.hid (fun W (h : Below w.heap.size w W) => trial_own C n c ps W hg hok (hres.below h) (ht.below h) (hm.below h))
  have KT2 := Lib.hid (fun A m d rs W (h : Below w.heap.size w W) (r : Res W A m d rs) (hn : m ≤ 20) he => trial_rev A m d ps rs W hg hok r hn he (ht.below h) (hm.below h))
  have KT3 := Lib.hid (fun A m d rs W (h : Below w.heap.size w W) (r : Res W A m d rs) (hn : m ≤ 20) he => trial_both A m d ps rs W hg hok r hn he (ht.below h) (hm.below h))
  have hsl := hok.list fun x => decide (x ≤ 84005)
  obtain ⟨sS, lS⟩ := fit_nrm hg hok fun x => decide (x ≤ 84005)
  have lN : (lessB [] (nrmL (flat (ps.map Prod.snd) fun x => decide (x ≤ 84005)))).length ≤ 640 := by
    unfold lessB
    exact Nat.le_trans (nrmL_len _) (by rw [List.nil_append, List.length_map]; exact lS)
  have M6 := fun A1 d1 W (h : Below w.heap.size w W) (r1 : rowB.Rds W A1 (nrmL (flat (ps.map Prod.snd) fun x => decide (x ≤ 84005))).length d1 (nrmL (flat (ps.map Prod.snd) fun x => decide (x ≤ 84005)))) => Minus_any none A1 0 0 _ d1 [] _ W (Row.Rds.nil W none 0 (by decide)) r1 (fun x hx => by cases hx) (fun x hx => ⟨(sS x hx).1, by have := (sS x hx).2; omega⟩) (by omega) (by omega) (ht.below h) (hm.below h)
  rw [(lsL_ok listB_nil hsl).1, (lsL_ok listB_nil hsl).2] at M6
  generalize nrmL (flat (ps.map Prod.snd) fun x => decide (x ≤ 84005)) = S at *
  generalize lessB [] S = NS at *
  have M7 := fun A1 d1 A2 d2 W (r1 : rowB.Rds W A1 NS.length d1 NS) (r2 : rowB.Rds W A2 NS.length d2 NS) => Same_any A1 A2 _ d1 _ d2 NS NS W r1 r2 (by omega) (by omega)
  rw [decide_eq_true rfl] at M7
  unfold BoolPost at M7
  have K6 := Lib.hid M6
  have K7 := Lib.hid M7
  clear M1 M2 M3 M4 M5 M6 M7 hsl sS lS lN sA sB' s3 l3 s4 l4 hab hnb hbk h1 h2
  generalize BoolPost true w = Post at *
  generalize lessB a b = ab at *
  generalize lessB [] b = nb at *
  go_enter Tryz.func8, Tryz.ntmps8
  go_wp2_with fail
  refine (HG1.out _ (Below.refl _ _)).mono ?_
  rintro e w1 ⟨rfl, hb⟩
  have B1 := Lib.hid (hb)
  clear hb
  go_wp2_with fail
  refine (HG2.out _ B1.out).mono ?_
  rintro e w2 ⟨rfl, hb⟩
  have B2 := Lib.hid (below_next B1.out hb ⟨rfl, rfl, rfl, rfl⟩)
  clear hb
  go_wp2_with fail
  refine (HC1.out _ B2.out).mono ?_
  rintro e w3 ⟨rfl, hb⟩
  have B3 := Lib.hid (below_next B2.out hb ⟨rfl, rfl, rfl, rfl⟩)
  clear hb
  go_wp2_with fail
  refine (HC2.out _ B3.out).mono ?_
  rintro e w4 ⟨rfl, hb⟩
  have B4 := Lib.hid (below_next B3.out hb ⟨rfl, rfl, rfl, rfl⟩)
  clear hb
  go_wp2_with fail
  refine (HFI.out _ B4.out).mono ?_
  rintro e w5 ⟨rfl, hb⟩
  have B5 := Lib.hid (below_next B4.out hb ⟨rfl, rfl, rfl, rfl⟩)
  clear hb
  go_wp2_with fail
  refine (K1.out _ B5.out).mono ?_
  intro e w6 hq
  obtain ⟨A6, c6, rfl, hr6, hb⟩ := listc_rds hq
  have B6 := Lib.hid (below_next B5.out hb ⟨rfl, rfl, rfl, rfl⟩)
  clear hq hr6 hb K1 B5
  go_wp2_with fail
  refine (K2.out _ B6.out).mono ?_
  intro e w7 hq
  obtain ⟨A7, c7, rfl, hr7, hb⟩ := listc_rds hq
  have R7 := Lib.hid hr7
  have B7 := Lib.hid (below_next B6.out hb ⟨rfl, rfl, rfl, rfl⟩)
  clear hq hr7 hb K2 B6
  go_wp2_with fail
  refine (K3.out _ B7.out).mono ?_
  intro e w8 hq
  obtain ⟨A8, c8, rfl, hr8, hb⟩ := listc_rds hq
  have R8 := Lib.hid hr8
  have R7' := Lib.hid (R7.out.below hb)
  have B8 := Lib.hid (below_next B7.out hb ⟨rfl, rfl, rfl, rfl⟩)
  clear hq hr8 hb K3 B7 R7
  have K4' := Lib.hid (K4.out _ _ _ _ _ B8.out R8.out R7'.out)
  obtain ⟨zb, hzb⟩ : ∃ z, ab.length = z := ⟨_, rfl⟩
  obtain ⟨zn, hzn⟩ : ∃ z, nb.length = z := ⟨_, rfl⟩
  rw [hzb] at K4' ⊢
  rw [hzn] at K4' ⊢
  clear hzb hzn K4 R8 R7'
  go_wp2_with fail
  refine K4'.out.mono ?_
  intro e w9 hq
  obtain ⟨A9, c9, rfl, hr9, hb⟩ := listc_rds hq
  have R9 := Lib.hid hr9
  have B9 := Lib.hid (below_next B8.out hb ⟨rfl, rfl, rfl, rfl⟩)
  clear hq hr9 hb K4' B8
  have K5' := Lib.hid (K5.out _ _ _ B9.out R9.out)
  obtain ⟨za, hza⟩ : ∃ z, a.length = z := ⟨_, rfl⟩
  rw [hza] at K5' ⊢
  clear hza K5 R9
  go_wp2_with fail
  refine K5'.out.mono ?_
  rintro e w10 ⟨rfl, hb⟩
  have B10 := Lib.hid (below_next B9.out hb ⟨rfl, rfl, rfl, rfl⟩)
  clear hb K5' B9
  go_wp2_with fail
  refine (KC.out _ B10.out).mono ?_
  rintro e w11 ⟨v11, rfl, ho11, hb⟩
  have B11 := Lib.hid (below_next B10.out hb ⟨rfl, rfl, rfl, rfl⟩)
  have OC := Lib.hid ho11
  have S10 := Lib.hid hb.size
  clear ho11 hb KC
  have R0 := Lib.hid (show DifR w11 ps 0 (.slice none 0 0) w11 from ⟨[], rfl, Row.Own.nil _ _, fun r hr => (List.not_mem_nil hr).elim, Below.refl _ _⟩)
  have HPL := Lib.hid hres.rds.len
  have HRS := Lib.hid hres
  have HTM := Lib.hid (And.intro ht hm)
  have HOKE := Lib.hid (show ∀ p ∈ ps, chkE p.2.1 p.2.2.1 p.2.2.2 = 0 from fun p hp => of_decide_eq_true (hok p.2 (List.mem_map_of_mem hp)))
  have HFT := Lib.hid (great_parts hg).2
  have HOK := Lib.hid hok
  clear hl hr ht hm hres hok hg
  go_wp2_with fail
  go_loopw [16, 99] (fun v i wr => ∃ k : Nat, k ≤ n ∧ i = .int .i64 (k : Int) ∧ Hid (DifR w11 ps k v wr)) (fun _ i _ => n - (intOf i).toNat)
  case atStart => exact ⟨0, by omega, rfl, R0⟩
  case round =>
    clear R0
    obtain ⟨k, hk, rfl, hR⟩ := hrel
    by_cases hlt : k < n
    · obtain ⟨rs, hrs, hown, hap, hbl⟩ := hR.out
      have HO := Lib.hid hown
      have HB := Lib.hid hbl
      have HAP := Lib.hid hap
      have HRM := Lib.hid hrs
      clear hR hrs hown hap hbl
      have hkl : k < ps.length := by rw [HPL.out]; exact hlt
      have hmem := re_mem ps k hkl
      have HBw := Lib.hid (below_ah B11.out HB.out)
      have HTK := Lib.hid (take_re ps k hkl)
      obtain ⟨b1, o1, hC1, hb1, _⟩ := HRS.out.rds.at_ (by omega)
      subst hC1
      obtain ⟨q0, q1, q2⟩ := rds_cells3 (HRS.out.rds.below HBw.out) k hlt
      have HEN := Lib.hid (HRS.out.all _ hmem)
      have HCE := Lib.hid (HOKE.out _ hmem)
      have HFI := Lib.hid (HFT.out _ hmem)
      have hki : (k : Int) < (n : Int) := by omega
      clear hkl hmem
      generalize ps.getD k re0 = p at *
      obtain ⟨⟨d1, z1, A1, m1, e1⟩, ⟨d2, z2, k2⟩⟩ := p
      obtain ⟨f1, f2, f3⟩ := HEN.out
      simp only at f1 f2
      subst f1 f2
      simp only [rawA, rawN, rawC] at q0 q1 q2 f3
      simp only at HCE HFI
      have HL := Lib.hid f3
      clear f3 HEN
      have hB2 := HB.out.alloc HB.out.size (.cells #[.int .i64 d1, .string ⟨z1.toArray⟩, .slice A1 m1 e1] 39)
      have hBa := (Below.refl wr.heap.size wr).alloc (Nat.le_refl _) (.cells #[.int .i64 d1, .string ⟨z1.toArray⟩, .slice A1 m1 e1] 39)
      have hBW := below_ah B11.out hB2
      have hsa : (wr.alloc (.cells #[.int .i64 d1, .string ⟨z1.toArray⟩, .slice A1 m1 e1] 39)).heap.size = wr.heap.size + 1 := by simp
      have hrev := (RevN_any d1 z1 A1 m1 e1 k2 _ (HL.out.below hBW) (by unfold maxLen; have := HFI.out.cause; omega) (fun x hx => by have := (HFI.out.ln x hx).2.2; omega) (HTM.out.1.below hBW) (HTM.out.2.below hBW)).mono fun e w' h => revN_ok HCE.out h
      have HRV := Lib.hid hrev
      have HB2 := Lib.hid hB2
      have HO2 := Lib.hid (HO.out.below hBa)
      have HAP2 := Lib.hid (fun r hr => (HAP.out r hr).below hBa)
      have HOB := Lib.hid (fun g e => HO.out.own g e)
      have XR := heap_alloc_new wr (.cells #[.int .i64 d1, .string ⟨z1.toArray⟩, .slice A1 m1 e1] 39)
      obtain ⟨⟨x0, x1, x2⟩, _⟩ := cells3 XR
      have hlen : 0 < k2.length := (chkE_parts HCE.out).2.1
      have HRL := Lib.hid (show rs.length + 1 ≤ 1000000 by
        have h1 := congrArg List.length HRM.out
        unfold revL at h1
        rw [List.length_map, List.length_map, List.length_map, List.length_take] at h1
        omega)
      have HRM2 := Lib.hid (show (rs.map Prod.snd) ++ [(d1, z1, k2.map negL)] = revL ((ps.take (k + 1)).map Prod.snd) by
        rw [HTK.out, List.map_append, HRM.out]; unfold revL; rw [List.map_append]; rfl)
      clear hrev hB2 hBa hBW XR HAP HO HB
      go_wp2_with fail
      generalize wr.alloc (.cells #[.int .i64 d1, .string ⟨z1.toArray⟩, .slice A1 m1 e1] 39) = wa at *
      refine HRV.out.mono ?_
      rintro e w12 ⟨A', c', rfl, hl, hnew, hb⟩
      have hbx := (Below.refl w12.heap.size w12).alloc (Nat.le_refl _) (.cells #[.int .i64 d1, .string ⟨z1.toArray⟩, .slice A' k2.length c'] 39)
      have HB4 := Lib.hid (below_ah (below_ah HB2.out hb) hbx)
      have HO4 := Lib.hid ((HO2.out.below hb).below hbx)
      have HAP4 := Lib.hid (fun r hr => ((HAP2.out r hr).below hb).below hbx)
      have HL4 := Lib.hid (hl.below hbx)
      have HNW := Lib.hid (fun g o s (e : A' = some ⟨g, o, s⟩) => (show w11.heap.size ≤ g ∧ u16.ownBlock ≠ some g from ⟨by have := hnew g o s e; have := HB2.out.size; omega, fun e2 => by have := hnew g o s e; have := (HOB.out g e2).2; omega⟩))
      have XR := heap_alloc_new w12 (.cells #[.int .i64 d1, .string ⟨z1.toArray⟩, .slice A' k2.length c'] 39)
      obtain ⟨⟨y0, y1, y2⟩, _⟩ := cells3 XR
      obtain ⟨kn, hkn⟩ : ∃ z, k2.length = z := ⟨_, rfl⟩
      clear x0 x1 x2 XR hl hnew hb hbx HRV HB2 HO2 HAP2
      unfold enV
      rw [hkn] at y2 HL4 HB4 HO4 HAP4 ⊢
      have hk0 : 0 < kn := by omega
      clear hkn
      go_wp2_with (first
        | (at_builtin; refine wp_append1h rowE_ok rfl (.tmp 110) (.tmp 112) rfl w11.heap.size _ rs (w12.alloc (.cells #[.int .i64 d1, .string ⟨z1.toArray⟩, .slice A' kn c'] 39)) (w12.heap.size + 1) (by simp) ((d1, z1, A', kn, c'), (d1, z1, k2.map negL)) _ _ rfl rfl rfl HO4.out rfl HB4.out.size HRL.out ?_; intro v8 w9' ho8 hg8 h38; have HOa := Lib.hid ho8; have HBa := Lib.hid (below_own HB4.out (Nat.le_refl _) hg8 (fun g e => (HO4.out.own g e).1)); have HAPa := Lib.hid (fun r (hr : r ∈ rs ++ [((d1, z1, A', kn, c'), (d1, z1, k2.map negL))]) => (show Apart w11.heap.size v8.ownBlock w9' r from Apart.grown (row := u16.ownBlock) (by
            rcases List.mem_append.1 hr with h | h
            · exact HAP4.out r h
            · rw [List.mem_singleton.1 h]; exact ⟨⟨rfl, rfl, HL4.out⟩, hk0, HNW.out⟩) hg8 h38)); clear ho8 hg8 h38)
        | fail)
      exact ⟨⟨k + 1, by omega, by go_num, Lib.hid ⟨_, by rw [List.map_append]; exact HRM2.out, HOa.out, HAPa.out, HBa.out⟩⟩, by simp [intOf]; omega⟩
    · have hkn : k = n := by omega
      subst hkn
      have hki : ¬ (k : Int) < (k : Int) := by omega
      obtain ⟨rs, hrs, hown, hap, hbl⟩ := hR.out
      rw [List.take_of_length_le (by rw [HPL.out]; exact Nat.le_refl _)] at hrs
      have hrl : rs.length = k := by
        have h1 := congrArg List.length hrs
        unfold revL at h1
        rw [List.length_map, List.length_map, List.length_map, HPL.out] at h1
        exact h1
      have HROW := Lib.hid (fun g (e : v11.ownBlock = some g) => OC.out.own g e)
      have HOC := Lib.hid (OC.out.below hbl)
      obtain ⟨A', m', rfl, hrd⟩ := hown.rds
      rw [hrl] at hrd ⊢
      have HRL := Lib.hid hrl
      have HRM := Lib.hid hrs
      have HRD := Lib.hid hrd
      have HAP := Lib.hid hap
      have HBL := Lib.hid hbl
      have HBW := Lib.hid (below_ah B11.out hbl)
      clear hR hrs hown hap hbl hrd hrl
      go_wp2_with fail
      refine (KT1.out _ HBW.out).mono ?_
      rintro e w12 ⟨v12, rfl, ho12, hb⟩
      have O12 := Lib.hid (ho12.mono HBL.out.size)
      have HRD2 := Lib.hid (HRD.out.below hb)
      have HAP2 := Lib.hid (fun r hr => (HAP.out r hr).below hb)
      have HOC2 := Lib.hid (HOC.out.below hb)
      have HBL2 := Lib.hid (below_next HBL.out hb ⟨rfl, rfl, rfl, rfl⟩)
      have HBW2 := Lib.hid (below_next HBW.out hb ⟨rfl, rfl, rfl, rfl⟩)
      clear ho12 hb HRD HAP HOC HBL HBW KT1
      go_wp2_with fail
      refine (KT2.out _ _ _ rs _ HBW2.out ⟨HRD2.out, fun r hr => (HAP2.out r hr).1⟩ (by omega) HRM.out).mono ?_
      rintro e w13 ⟨v13, rfl, ho13, hb⟩
      have O13 := Lib.hid (ho13.mono HBL2.out.size)
      have O12' := Lib.hid (O12.out.below hb)
      have HRD := Lib.hid (HRD2.out.below hb)
      have HAP := Lib.hid (fun r hr => (HAP2.out r hr).below hb)
      have HOC := Lib.hid (HOC2.out.below hb)
      have HBL := Lib.hid (below_next HBL2.out hb ⟨rfl, rfl, rfl, rfl⟩)
      have HBW := Lib.hid (below_next HBW2.out hb ⟨rfl, rfl, rfl, rfl⟩)
      clear ho13 hb HRD2 HAP2 HOC2 HBL2 HBW2 KT2 O12
      go_wp2_with (first
        | (at_builtin; refine Row.wp_append rowE_ok rfl (.tmp 126) (.tmp 127) rfl w10.heap.size _ ps w13 A' k m' rs rfl HOC.out rfl HRD.out (by have := S10.out; have := HBL.out.size; omega) (by rw [HPL.out]; omega) ?_; intro v14 w14 ho14 hg14 _; have HO14 := Lib.hid ho14; have HG14 := Lib.hid hg14; clear ho14 hg14)
        | fail)
      have HBW4 := Lib.hid (below_own HBW.out (Nat.le_refl _) HG14.out (fun g e => by have := (HROW.out g e).1; have := B10.out.size; omega))
      have Q12 := Lib.hid (O12'.out.kept HG14.out (fun g e => (HROW.out g e).2))
      have Q13 := Lib.hid (O13.out.kept HG14.out (fun g e => (HROW.out g e).2))
      obtain ⟨A14, c14, rfl, hr14⟩ := HO14.out.rds
      have HRES := Lib.hid (show Res w14 A14 (ps ++ rs).length c14 (ps ++ rs) from ⟨hr14, fun p hp => by
        rcases List.mem_append.1 hp with h | h
        · exact (HRS.out.all p h).below HBW4.out
        · obtain ⟨⟨e1, e2, e3⟩, e4, e5⟩ := HAP.out p h
          exact ⟨e1, e2, e3.grown HG14.out (fun g o s e h2 => by have := (e5 g o s e).1; have := (HROW.out g h2).2; omega)⟩⟩)
      have KTB := Lib.hid (KT3.out _ _ _ _ _ HBW4.out HRES.out (by rw [List.length_append, HPL.out, HRL.out]; omega) (by rw [List.map_append, HRM.out]))
      clear hr14 HO14 HG14 HRES HRD HAP HOC HBL HBW KT3 O12' O13 HRM HRS
      generalize (ps ++ rs).length = zl at *
      go_wp2_with fail
      refine KTB.out.mono ?_
      intro e w15 hq
      obtain ⟨A15, c15, rfl, _, hb⟩ := listc_rds hq
      simp only [List.length_nil]
      have Q12' := Lib.hid (Q12.out.below hb)
      have Q13' := Lib.hid (Q13.out.below hb)
      have HBW5 := Lib.hid (below_next HBW4.out hb ⟨rfl, rfl, rfl, rfl⟩)
      clear hq hb KTB Q12 Q13 HBW4
      obtain ⟨A12, c12, rfl, hr12⟩ := Q12'.out.rds
      have K6' := Lib.hid (K6.out _ _ _ HBW5.out hr12)
      clear hr12 K6 Q12'
      obtain ⟨A13, c13, rfl, hr13⟩ := Q13'.out.rds
      have R13 := Lib.hid hr13
      clear hr13 Q13'
      generalize S.length = zS at *
      go_wp2_with fail
      refine K6'.out.mono ?_
      intro e w16 hq
      obtain ⟨A16, c16, rfl, hr16, hb⟩ := listc_rds hq
      have K7' := Lib.hid (K7.out _ _ _ _ _ (R13.out.below hb) hr16)
      have HBW6 := Lib.hid (below_next HBW5.out hb ⟨rfl, rfl, rfl, rfl⟩)
      clear hq hb hr16 K7 K6' R13 HBW5
      generalize NS.length = zN at *
      go_wp2_with fail
      refine K7'.out.mono ?_
      rintro e w17 ⟨rfl, hb⟩
      have HBW7 := Lib.hid (below_next HBW6.out hb ⟨rfl, rfl, rfl, rfl⟩)
      clear hb K7' HBW6
      go_wp2_with fail
      refine (HW.out _ HBW7.out).mono ?_
      rintro e w18 ⟨rfl, hb⟩
      have HBW8 := Lib.hid (below_next HBW7.out hb ⟨rfl, rfl, rfl, rfl⟩)
      clear hb HBW7
      go_wp2_with fail
      exact HP.out _ HBW8.out
theorem diffs_row (A : Option Addr) (n1 c1 : Nat) (a : List Ln) (B : Option Addr) (n2 c2 : Nat) (b : List Ln) (C : Option Addr) (n c : Nat) (ps : List RE) (w : World) (h1 : rowB.Rds w A n1 c1 a) (h2 : rowB.Rds w B n2 c2 b) (hl : rowE.Rds w C n c ps) (hr : ∀ p ∈ ps, RdG w p ∧ p.2.2.1.length ≤ maxLen) (ht : Tab w) (hm : ML w) :
    Calls Tryz.prog 8 #[.slice A n1 c1, .slice B n2 c2, .slice C n c] w (BoolPost true w) :=
  diffs_in A B C n1 c1 n2 c2 n c a b ps w h1 h2 hl (fun p hp => (hr p hp).1) ht hm
end Go.Proofs.YtohdpidlilhnjaaGreatDoor
