/- Contract of text. -/
import Derived.Test.YtjcbohbpkodkoaaGreatDoorQ2
import Derived.RangeFuncNested
import Derived.RangeFuncBound
import Derived.RangeFuncCalls
import Derived.RangeFuncLeaves
import Derived.Shelf.Abstract
import Derived.Shelf.RegionOpen
import Derived.WalkKit
import Derived.OwnWalkIn
import Derived.TacticsInMore
import Derived.LoopNIn
import Derived.LoopIn
import Derived.Lib.IndexMore
import Derived.Test.YtjcbohbpkodkoaaGreatDoorChecked
import Derived.Lib.Hide
import Derived.Lib.ConvBytes
import Derived.Lib.SmallJoins
import Derived.Maps.AppendAt
import Derived.Outline
import Derived.RegionIn
import Derived.Sort.QuietTacIn
namespace Go.Proofs.YtjcbohbpkodkoaaGreatDoor
open Go.RowKit Num

theorem row_below {B e size k : Nat} {w w' : World} {v : Value} {xs : List Value} (h : w.ownsRow B e size v k xs) (hb : Below w.heap.size w w') : w'.ownsRow B e size v k xs := by
  rcases h.2 with ⟨rfl, h0⟩ | ⟨g, cap, cur, rfl, hB, hg, hr⟩
  · exact ⟨h.1, .inl ⟨rfl, h0⟩⟩
  · refine ⟨h.1, .inr ⟨g, cap, cur, rfl, hB, ?_, hr⟩⟩
    rw [hb.block]
    · exact hg
    · rcases Nat.lt_or_ge g w.heap.size with h' | h'
      · exact h'
      · rw [Array.getElem?_eq_none h'] at hg; cases hg
/-- a builder of the call's own that holds l -/
def Bld (B b : Nat) (l : List UInt8) (w : World) : Prop := Lib.IsBuilder 86 5 B b (Lib.byteCells l) w
theorem BuilderAt_below {B b : Nat} {p : Value} {bs : List Value} {w w' : World} (h : Lib.BuilderAt 86 5 B b p bs w) (hb : Below w.heap.size w w') : Lib.BuilderAt 86 5 B b p bs w' := by
  have hlt := h.lt
  obtain ⟨hB, v, hbk, hown, hne⟩ := h
  exact ⟨hB, v, (hb.block _ hlt).trans hbk, row_below hown hb, hne⟩
theorem Bld.below {B b : Nat} {l : List UInt8} {w w' : World} (h : Bld B b l w) (hb : Below w.heap.size w w') : Bld B b l w' := by
  rcases h with h | h
  · exact .inl (BuilderAt_below h hb)
  · exact .inr (BuilderAt_below h hb)
theorem Bld.fresh (w : World) : Bld w.heap.size w.heap.size [] (w.alloc (.cells #[.pointer none, .slice none 0 0] 86)) := Lib.fresh_isBuilder 86 5 w
theorem cells_app (l x : List UInt8) : Lib.byteCells l ++ Lib.strCells ⟨x.toArray⟩ = Lib.byteCells (l ++ x) := by
  simp [Lib.byteCells, Lib.strCells]
theorem cells_len (l : List UInt8) : (Lib.byteCells l).length = l.length := by simp [Lib.byteCells]
theorem ws_any (B b : Nat) (l x : List UInt8) (w : World) (h : Bld B b l w) (hl : l.length + x.length ≤ 100000) (hB : B ≤ w.heap.size) :
    Calls Tryz.prog 43 #[.pointer (some ⟨b, 0, none⟩), .string ⟨x.toArray⟩] w fun e w' => e = .returned (.tuple #[.int .i64 (x.length : Int), .nilIface]) ∧ Bld B b (l ++ x) w' ∧ Below B w w' := by
  have hx : (⟨x.toArray⟩ : ByteArray).size = x.length := rfl
  refine (Tryz.Builder_WriteString B b _ ⟨x.toArray⟩ w h (by rw [cells_len, hx]; omega) hB).mono ?_
  rintro e w' ⟨he, hw, hb⟩
  exact ⟨he, .inr (by rw [← cells_app]; exact hw), hb⟩
theorem wb_any (B b : Nat) (l : List UInt8) (c : UInt8) (w : World) (h : Bld B b l w) (hl : l.length ≤ 100000) (hB : B ≤ w.heap.size) :
    Calls Tryz.prog 139 #[.pointer (some ⟨b, 0, none⟩), .int .u8 (c.toNat : Int)] w fun e w' => e = .returned .nilIface ∧ Bld B b (l ++ [c]) w' ∧ Below B w w' := by
  refine (Tryz.Builder_WriteByte B b _ c.toNat w h (by rw [cells_len]; omega) hB).mono ?_
  rintro e w' ⟨he, hw, hb⟩
  refine ⟨he, .inr ?_, hb⟩
  have : Lib.byteCells (l ++ [c]) = Lib.byteCells l ++ [.int .u8 (c.toNat : Int)] := by simp [Lib.byteCells]
  rw [this]; exact hw
theorem str_any (B b : Nat) (l : List UInt8) (w : World) (h : Bld B b l w) (hB : B ≤ w.heap.size) :
    Calls Tryz.prog 49 #[.pointer (some ⟨b, 0, none⟩)] w fun e w' => e = .returned (.string ⟨l.toArray⟩) ∧ Below B w w' := Tryz.Builder_String_any B b l w h hB
theorem repeat_rep (x : UInt8) (c : Nat) : Lib.repeatL [x] c = List.replicate c x := by
  induction c with
  | zero => rfl
  | succ c ih => rw [Lib.repeatL, ih, List.replicate_succ]; rfl
theorem zeros_any (c : Nat) (w : World) (hc : c ≤ 9) : Calls Tryz.prog 78 #[.string ⟨#[48]⟩, .int .i64 (c : Int)] w fun e w' => e = .returned (.string ⟨(List.replicate c 48).toArray⟩) ∧ Below w.heap.size w w' := by
  have h := Tryz.strings_Repeat ⟨#[48]⟩ c w (by omega) (by show 1 * c ≤ _; omega)
  have e : Lib.repeatL (⟨#[48]⟩ : ByteArray).data.toList c = List.replicate c 48 := repeat_rep 48 c
  rwa [e] at h
theorem grpT_drop (m : List Nat) (i : Nat) (h : i + 1 < m.length) : grpT (m.drop i) = grpT (m.drop (i + 1)) ++ pad (m.getD i 0) := by
  rw [drop_getD m i (by omega), drop_getD m (i + 1) h, grpT]
theorem grpT_last (m : List Nat) (i : Nat) (h : i + 1 = m.length) : grpT (m.drop i) = dig (m.getD i 0) := by
  rw [drop_getD m i (by omega), List.drop_of_length_le (by omega), grpT]
theorem grpT_len (m : List Nat) (hm : ∀ g ∈ m, g < base) : (grpT m).length ≤ 9 * m.length := by
  induction m with
  | nil => simp [grpT]
  | cons g r ih =>
    have h1 := hm g (by simp)
    cases r with
    | nil => rw [grpT]; have := dig_len (k := 9) (n := g) h1; simp; omega
    | cons x r =>
      have h2 := ih fun y hy => hm y (List.mem_cons_of_mem _ hy)
      have h3 := (pad_val h1).2.2
      rw [grpT, List.length_append, h3]
      simp only [List.length_cons] at h2 ⊢
      omega
theorem last_ne (m : List Nat) (h : Num.cutM m = m) (i : Nat) (hi : i + 1 = m.length) : m.getD i 0 ≠ 0 := by
  have h1 := (magV_cut m).2.1
  rw [h] at h1
  rcases h1 with h1 | h1
  · subst h1; simp at hi
  · intro e
    apply h1
    rw [List.getLast?_eq_getElem?, ← hi, Nat.add_sub_cancel]
    rw [List.getD_eq_getElem?_getD, List.getElem?_eq_getElem (by omega)] at e
    rw [List.getElem?_eq_getElem (by omega)]
    exact congrArg some e
theorem cutM_cut (m : List Nat) : Num.cutM (Num.cutM m) = Num.cutM m := by
  induction hn : m.length generalizing m with
  | zero =>
    have e : m = [] := List.eq_nil_of_length_eq_zero hn
    subst e; rfl
  | succ n ih =>
    obtain ⟨a, g, rfl⟩ : ∃ t c, m = t ++ [c] := by
      have hne : m ≠ [] := fun e => by rw [e] at hn; cases hn
      exact ⟨m.dropLast, m.getLast hne, (List.dropLast_concat_getLast hne).symm⟩
    rw [cutM_snoc]
    split
    · exact ih a (by simpa using hn)
    · rename_i h; rw [cutM_snoc, if_neg h]
theorem cat_run (a b c : List UInt8) (h : a.length + b.length ≤ 1000000) (e : a ++ b = c) (w : World) : (Op.stringOp .add ⟨a.toArray⟩ ⟨b.toArray⟩).run Tryz.prog w = .ok (.string ⟨c.toArray⟩) w := by
  have hs : (⟨a.toArray⟩ : ByteArray).size + (⟨b.toArray⟩ : ByteArray).size ≤ 9223372036854775807 := by
    show a.length + b.length ≤ _; omega
  have e2 : (⟨a.toArray⟩ : ByteArray) ++ ⟨b.toArray⟩ = ⟨c.toArray⟩ := by
    subst e; apply ByteArray.ext; simp [ByteArray.data_append]
  rw [← e2]
  exact run_string_add_sum w _ _ hs
/-- what 'text' writes ahead -/
def sgL (ng : Bool) : List UInt8 := if ng then [45] else []
theorem sgL_len (b : Bool) : (sgL b).length ≤ 1 := by cases b <;> simp [sgL]
/-- between two rounds of text's loop -/
structure TextR (B b : Nat) (sg : List UInt8) (M : List Nat) (w1 : World) (j : Nat) (wr : World) : Prop where
  bld : Bld B b (sg ++ grpT (M.drop j)) wr
  bel : Below B w1 wr
  lt : j + 1 ≤ M.length
def StrPost (l : List UInt8) (w : World) (e : Ending) (w' : World) : Prop := e = .returned (.string ⟨l.toArray⟩) ∧ Below w.heap.size w w'
set_option maxRecDepth 100000 in
set_option maxHeartbeats 4000000 in
theorem text_any (ng : Bool) (A : Option Addr) (n c : Nat) (ms : List Nat) (w : World) (hm : Mag w A n c ms) (ht : Tab w) (hn : n ≤ 1000) :
    Calls Tryz.prog 103 #[.agg #[.bool ng, .slice A n c]] w (StrPost (txt (sv ng ms)) w) := by
  have hbx : Below w.heap.size w (w.alloc (.cells #[.bool ng, .slice A n c] 147)) := (Below.refl _ w).alloc (Nat.le_refl _) _
  have hcut := cut_any A n c ms _ (hm.below hbx)
  have hcl : (Num.cutM ms).length ≤ 1000 := by have := cutM_len ms; have := hm.len; omega
  have HMC := Lib.hid (hm.cut)
  have HT := Lib.hid ht
  have hR := Lib.hid (txt_sv ng ms hm.lt)
  have hML := Lib.hid (cutM_lt hm.lt)
  have hlast := Lib.hid (last_ne (Num.cutM ms) (cutM_cut ms))
  clear hm ht
  generalize Num.cutM ms = M at *
  obtain ⟨L, hL⟩ : ∃ L, M.length = L := ⟨_, rfl⟩
  rw [hL] at hcut HMC hcl
  have HL := Lib.hid hL
  have HCUT := Lib.hid hcut
  clear hL hcut
  rcases Nat.eq_zero_or_pos L with h0 | h0
  · subst h0
    have e0 : M = [] := List.eq_nil_of_length_eq_zero HL.out
    have hr := Lib.hid (show txt (sv ng ms) = [] by rw [← hR.out, if_pos e0])
    have hb0 : (((0 : Nat) : Int) == 0) = true := rfl
    clear e0
    go_enter Tryz.func103, Tryz.ntmps103
    go_wp2_with fail
    refine HCUT.out.mono ?_
    rintro e w1 ⟨rfl, rfl⟩
    go_wp2_with fail
    go_ret
    exact ⟨by rw [hr.out]; rfl, hbx⟩
  · obtain ⟨k, rfl⟩ : ∃ k, L = k + 1 := ⟨L - 1, by omega⟩
    have hne : M ≠ [] := fun e => by have := HL.out; rw [e] at this; simp at this
    have hr := Lib.hid (show txt (sv ng ms) = sgL ng ++ grpT M by rw [← hR.out, if_neg hne]; rfl)
    obtain ⟨b1, o1, rfl, hb1, hc1⟩ := HMC.out.at_ (by omega)
    have HC := Lib.hid (fun W (hW : Below w.heap.size w W) i (hi : i < k + 1) => (hW.cell (p := ⟨b1, o1 + i, none⟩) (by simpa using hb1)).trans (hc1 i hi))
    have hb0 : (((k + 1 : Nat) : Int) == 0) = false := beq_eq_false_iff_ne.2 (by omega)
    have hi1 : ((k + 1 : Nat) : Int) - 1 = (k : Int) := by omega
    have hi2 : ((k + 1 : Nat) : Int) - 2 = (k : Int) - 1 := by omega
    have hki : (k : Int) < ((k + 1 : Nat) : Int) := by omega
    have hk0 : (0 : Int) ≤ (k : Int) := by omega
    have hk9 : (k : Int) ≤ 1000 := by omega
    have hx := getD_lt hML.out k
    have hlk := Lib.hid (hlast.out k (by rw [HL.out]))
    have hgl := Lib.hid (grpT_last M k (by rw [HL.out]))
    clear hc1 hne
    cases ng
    · have hbB : Below w.heap.size w ((w.alloc (.cells #[.bool false, .slice (some ⟨b1, o1, none⟩) n c] 147)).alloc (.cells #[.pointer none, .slice none 0 0] 86)) := hbx.alloc (by simp) _
      have hck := HC.out _ hbB k (by omega)
      have hk1 : ((k : Int) + 1 == 0) = false := beq_eq_false_iff_ne.2 (by omega)
      have hk2 : (k : Int) + 1 - 2 = (k : Int) - 1 := by omega
      have hfb := Bld.fresh (w.alloc (.cells #[.bool false, .slice (some ⟨b1, o1, none⟩) n c] 147))
      rw [World.size_alloc] at hfb
      generalize hg : M.getD k 0 = g at *
      go_enter Tryz.func103, Tryz.ntmps103
      go_wp2_with fail
      refine HCUT.out.mono ?_
      rintro e w1 ⟨rfl, rfl⟩
      have BW := Lib.hid hbB
      have BLD := Lib.hid (show Bld (w.heap.size + 1) (w.heap.size + 1) (sgL false) _ from hfb)
      have SZ : w.heap.size + 1 ≤ ((w.alloc (.cells #[.bool false, .slice (some ⟨b1, o1, none⟩) n c] 147)).alloc (.cells #[.pointer none, .slice none 0 0] 86)).heap.size := by simp
      have BX := Lib.hid (Below.refl (w.heap.size + 1) ((w.alloc (.cells #[.bool false, .slice (some ⟨b1, o1, none⟩) n c] 147)).alloc (.cells #[.pointer none, .slice none 0 0] 86)))
      clear hfb
      go_wp2_with fail
      refine (fmt_any g (by omega) _ (HT.out.below BW.out)).mono ?_
      rintro e w3 ⟨rfl, hb3⟩
      have hfl := fmt_len (g := g) hx
      have hfe := Lib.hid (show fmt g = grpT (M.drop k) by rw [hgl.out]; unfold fmt; rw [if_neg hlk.out])
      have B3 := Lib.hid (BLD.out.below hb3)
      have BW3 := Lib.hid (BW.out.trans (hb3.mono BW.out.size))
      have SZ3 : w.heap.size + 1 ≤ w3.heap.size := Nat.le_trans SZ hb3.size
      have BX3 := Lib.hid (BX.out.trans (hb3.mono SZ))
      clear hb3 SZ
      generalize hfm : fmt g = fg at *
      go_wp2_with fail
      refine (ws_any (w.heap.size + 1) (w.heap.size + 1) _ fg _ B3.out (by have := sgL_len false; omega) SZ3).mono ?_
      rintro e w4 ⟨rfl, hbl4, hb4⟩
      have R0 := Lib.hid (show TextR (w.heap.size + 1) (w.heap.size + 1) (sgL false) M ((w.alloc (.cells #[.bool false, .slice (some ⟨b1, o1, none⟩) n c] 147)).alloc (.cells #[.pointer none, .slice none 0 0] 86)) k w4 from ⟨by rw [← hfe.out]; exact hbl4, BX3.out.trans hb4, by rw [HL.out]; exact Nat.le_refl _⟩)
      have SZ4 : w.heap.size + 1 ≤ w4.heap.size := by have := hb4.size; omega
      clear hbl4 hb4 hfm
      go_wp2_with fail
      go_loopw [5] (fun iv wr => ∃ j : Nat, j ≤ k ∧ iv = .int .i64 ((j : Int) - 1) ∧ Hid (TextR (w.heap.size + 1) (w.heap.size + 1) (sgL false) M ((w.alloc (.cells #[.bool false, .slice (some ⟨b1, o1, none⟩) n c] 147)).alloc (.cells #[.pointer none, .slice none 0 0] 86)) j wr)) (fun iv _ => (intOf iv + 1).toNat)
      case atStart => exact ⟨k, Nat.le_refl _, by go_num, R0⟩
      case round =>
        obtain ⟨j, hj, rfl, hR2⟩ := hrel
        rcases Nat.eq_zero_or_pos j with h00 | h00
        · subst h00
          have hd0 : decide ((0 : Int) ≤ ((0 : Nat) : Int) - 1) = false := by decide
          have hd1 : decide ((0 : Int) ≤ -1) = false := by decide
          go_wp2_with fail
          refine (str_any (w.heap.size + 1) (w.heap.size + 1) _ _ hR2.out.bld (by have := hR2.out.bel.size; simp at this; omega)).mono ?_
          rintro e w9 ⟨rfl, hb9⟩
          go_wp2_with fail
          go_ret
          exact ⟨by rw [hr.out]; rfl, hbx.trans ((((Below.refl _ _).alloc (by simp) _).trans (hR2.out.bel.trans hb9)).mono (by simp))⟩
        · obtain ⟨i, rfl⟩ : ∃ i, j = i + 1 := ⟨j - 1, by omega⟩
          have hij : ((i + 1 : Nat) : Int) - 1 = (i : Int) := by omega
          have hd0 : decide ((0 : Int) ≤ (i : Int)) = true := by rw [decide_eq_true_iff]; omega
          have hi0 : (0 : Int) ≤ (i : Int) := by omega
          have hik : (i : Int) < ((k + 1 : Nat) : Int) := by omega
          have hik' : (i : Int) < (k : Int) + 1 := by omega
          have hbr : Below w.heap.size w wr := hbx.trans ((((Below.refl _ _).alloc (by simp) _).trans hR2.out.bel).mono (by simp))
          have hcr := HC.out _ hbr i (by omega)
          have hxr := getD_lt hML.out i
          have hgd := Lib.hid (grpT_drop M i (by rw [HL.out]; omega))
          have hlen := grpT_len (M.drop (i + 1)) (fun x hx => hML.out x (List.mem_of_mem_drop hx))
          have hlen2 : (grpT (M.drop (i + 1))).length ≤ 9000 := by rw [List.length_drop, HL.out] at hlen; omega
          have hpd := Lib.hid (show pad (M.getD i 0) = List.replicate (9 - (fmt (M.getD i 0)).length) 48 ++ fmt (M.getD i 0) from rfl)
          have hfl2 := fmt_len (g := M.getD i 0) hxr
          have SZr : w.heap.size + 1 ≤ wr.heap.size := by have := hR2.out.bel.size; simp at this; omega
          clear hlen
          rw [hij]
          generalize M.getD i 0 = x at *
          go_wp2_with fail
          refine (fmt_any x (by omega) _ (HT.out.below hbr)).mono ?_
          rintro e w5 ⟨rfl, hb5⟩
          obtain ⟨z, hz⟩ : ∃ z : Nat, (9 : Int) - ((fmt x).length : Int) = (z : Int) ∧ z = 9 - (fmt x).length := ⟨9 - (fmt x).length, by omega, rfl⟩
          have hz1 := hz.1
          have hz9 : z ≤ 9 := by have := hz.2; omega
          rw [← hz.2] at hpd
          have hrl : (List.replicate z (48 : UInt8)).length = z := List.length_replicate
          have hcat := fun W => cat_run (List.replicate z 48) (fmt x) (pad x) (by rw [hrl]; omega) hpd.out.symm W
          have hpl : (pad x).length ≤ 18 := by rw [hpd.out, List.length_append, hrl]; omega
          have hz0 := fun W => zeros_any z W hz9
          have HZ := Lib.hid hz0
          generalize List.replicate z (48 : UInt8) = rz at *
          generalize fmt x = fx at *
          have SZ5 := hb5.size
          have B5 := Lib.hid (hR2.out.bld.below hb5)
          have BX5 := Lib.hid (hR2.out.bel.trans (hb5.mono SZr))
          clear hz hrl hz0 hb5 hbr
          go_wp2_with fail
          refine (HZ.out _).mono ?_
          rintro e w6 ⟨rfl, hb6⟩
          have SZ6 := hb6.size
          go_wp2_with fail
          refine (ws_any (w.heap.size + 1) (w.heap.size + 1) _ (pad x) _ (B5.out.below hb6) (by simp [sgL]; omega) (by omega)).mono ?_
          rintro e w7 ⟨rfl, hbl7, hb7⟩
          have RN := Lib.hid (show TextR (w.heap.size + 1) (w.heap.size + 1) (sgL false) M ((w.alloc (.cells #[.bool false, .slice (some ⟨b1, o1, none⟩) n c] 147)).alloc (.cells #[.pointer none, .slice none 0 0] 86)) i w7 from ⟨by rw [hgd.out, ← List.append_assoc]; exact hbl7, (BX5.out.trans (hb6.mono (by omega))).trans hb7, by rw [HL.out]; omega⟩)
          clear hbl7 hb7 hcat
          go_wp2_with fail
          go_roundw
          case rel => exact ⟨i, by omega, by go_num, RN⟩
          case measure => simp [intOf]
    · have hbB : Below w.heap.size w ((w.alloc (.cells #[.bool true, .slice (some ⟨b1, o1, none⟩) n c] 147)).alloc (.cells #[.pointer none, .slice none 0 0] 86)) := hbx.alloc (by simp) _
      have hk1 : ((k : Int) + 1 == 0) = false := beq_eq_false_iff_ne.2 (by omega)
      have hk2 : (k : Int) + 1 - 2 = (k : Int) - 1 := by omega
      have hfb := Bld.fresh (w.alloc (.cells #[.bool true, .slice (some ⟨b1, o1, none⟩) n c] 147))
      rw [World.size_alloc] at hfb
      generalize hg : M.getD k 0 = g at *
      go_enter Tryz.func103, Tryz.ntmps103
      go_wp2_with fail
      refine HCUT.out.mono ?_
      rintro e w1 ⟨rfl, rfl⟩
      go_wp2_with fail
      refine (wb_any (w.heap.size + 1) (w.heap.size + 1) [] 45 _ hfb (by simp) (by simp)).mono ?_
      rintro e w2 ⟨rfl, hbl2, hb2⟩
      have BW := Lib.hid (hbB.trans (hb2.mono (by omega)))
      have BLD := Lib.hid (show Bld (w.heap.size + 1) (w.heap.size + 1) (sgL true) w2 from hbl2)
      have SZ : w.heap.size + 1 ≤ w2.heap.size := by have := hb2.size; simp at this; omega
      have BX := Lib.hid hb2
      have hck := HC.out _ BW.out k (by omega)
      rw [hg] at hck
      clear hfb hbl2 hb2
      go_wp2_with fail
      refine (fmt_any g (by omega) _ (HT.out.below BW.out)).mono ?_
      rintro e w3 ⟨rfl, hb3⟩
      have hfl := fmt_len (g := g) hx
      have hfe := Lib.hid (show fmt g = grpT (M.drop k) by rw [hgl.out]; unfold fmt; rw [if_neg hlk.out])
      have B3 := Lib.hid (BLD.out.below hb3)
      have BW3 := Lib.hid (BW.out.trans (hb3.mono BW.out.size))
      have SZ3 : w.heap.size + 1 ≤ w3.heap.size := Nat.le_trans SZ hb3.size
      have BX3 := Lib.hid (BX.out.trans (hb3.mono SZ))
      clear hb3 SZ
      generalize hfm : fmt g = fg at *
      go_wp2_with fail
      refine (ws_any (w.heap.size + 1) (w.heap.size + 1) _ fg _ B3.out (by have := sgL_len true; omega) SZ3).mono ?_
      rintro e w4 ⟨rfl, hbl4, hb4⟩
      have R0 := Lib.hid (show TextR (w.heap.size + 1) (w.heap.size + 1) (sgL true) M ((w.alloc (.cells #[.bool true, .slice (some ⟨b1, o1, none⟩) n c] 147)).alloc (.cells #[.pointer none, .slice none 0 0] 86)) k w4 from ⟨by rw [← hfe.out]; exact hbl4, BX3.out.trans hb4, by rw [HL.out]; exact Nat.le_refl _⟩)
      have SZ4 : w.heap.size + 1 ≤ w4.heap.size := by have := hb4.size; omega
      clear hbl4 hb4 hfm
      go_wp2_with fail
      go_loopw [5] (fun iv wr => ∃ j : Nat, j ≤ k ∧ iv = .int .i64 ((j : Int) - 1) ∧ Hid (TextR (w.heap.size + 1) (w.heap.size + 1) (sgL true) M ((w.alloc (.cells #[.bool true, .slice (some ⟨b1, o1, none⟩) n c] 147)).alloc (.cells #[.pointer none, .slice none 0 0] 86)) j wr)) (fun iv _ => (intOf iv + 1).toNat)
      case atStart => exact ⟨k, Nat.le_refl _, by go_num, R0⟩
      case round =>
        obtain ⟨j, hj, rfl, hR2⟩ := hrel
        rcases Nat.eq_zero_or_pos j with h00 | h00
        · subst h00
          have hd0 : decide ((0 : Int) ≤ ((0 : Nat) : Int) - 1) = false := by decide
          have hd1 : decide ((0 : Int) ≤ -1) = false := by decide
          go_wp2_with fail
          refine (str_any (w.heap.size + 1) (w.heap.size + 1) _ _ hR2.out.bld (by have := hR2.out.bel.size; simp at this; omega)).mono ?_
          rintro e w9 ⟨rfl, hb9⟩
          go_wp2_with fail
          go_ret
          exact ⟨by rw [hr.out]; rfl, hbx.trans ((((Below.refl _ _).alloc (by simp) _).trans (hR2.out.bel.trans hb9)).mono (by simp))⟩
        · obtain ⟨i, rfl⟩ : ∃ i, j = i + 1 := ⟨j - 1, by omega⟩
          have hij : ((i + 1 : Nat) : Int) - 1 = (i : Int) := by omega
          have hd0 : decide ((0 : Int) ≤ (i : Int)) = true := by rw [decide_eq_true_iff]; omega
          have hi0 : (0 : Int) ≤ (i : Int) := by omega
          have hik : (i : Int) < ((k + 1 : Nat) : Int) := by omega
          have hik' : (i : Int) < (k : Int) + 1 := by omega
          have hbr : Below w.heap.size w wr := hbx.trans ((((Below.refl _ _).alloc (by simp) _).trans hR2.out.bel).mono (by simp))
          have hcr := HC.out _ hbr i (by omega)
          have hxr := getD_lt hML.out i
          have hgd := Lib.hid (grpT_drop M i (by rw [HL.out]; omega))
          have hlen := grpT_len (M.drop (i + 1)) (fun x hx => hML.out x (List.mem_of_mem_drop hx))
          have hlen2 : (grpT (M.drop (i + 1))).length ≤ 9000 := by rw [List.length_drop, HL.out] at hlen; omega
          have hpd := Lib.hid (show pad (M.getD i 0) = List.replicate (9 - (fmt (M.getD i 0)).length) 48 ++ fmt (M.getD i 0) from rfl)
          have hfl2 := fmt_len (g := M.getD i 0) hxr
          have SZr : w.heap.size + 1 ≤ wr.heap.size := by have := hR2.out.bel.size; simp at this; omega
          clear hlen
          rw [hij]
          generalize M.getD i 0 = x at *
          go_wp2_with fail
          refine (fmt_any x (by omega) _ (HT.out.below hbr)).mono ?_
          rintro e w5 ⟨rfl, hb5⟩
          obtain ⟨z, hz⟩ : ∃ z : Nat, (9 : Int) - ((fmt x).length : Int) = (z : Int) ∧ z = 9 - (fmt x).length := ⟨9 - (fmt x).length, by omega, rfl⟩
          have hz1 := hz.1
          have hz9 : z ≤ 9 := by have := hz.2; omega
          rw [← hz.2] at hpd
          have hrl : (List.replicate z (48 : UInt8)).length = z := List.length_replicate
          have hcat := fun W => cat_run (List.replicate z 48) (fmt x) (pad x) (by rw [hrl]; omega) hpd.out.symm W
          have hpl : (pad x).length ≤ 18 := by rw [hpd.out, List.length_append, hrl]; omega
          have hz0 := fun W => zeros_any z W hz9
          have HZ := Lib.hid hz0
          generalize List.replicate z (48 : UInt8) = rz at *
          generalize fmt x = fx at *
          have SZ5 := hb5.size
          have B5 := Lib.hid (hR2.out.bld.below hb5)
          have BX5 := Lib.hid (hR2.out.bel.trans (hb5.mono SZr))
          clear hz hrl hz0 hb5 hbr
          go_wp2_with fail
          refine (HZ.out _).mono ?_
          rintro e w6 ⟨rfl, hb6⟩
          have SZ6 := hb6.size
          go_wp2_with fail
          refine (ws_any (w.heap.size + 1) (w.heap.size + 1) _ (pad x) _ (B5.out.below hb6) (by simp [sgL]; omega) (by omega)).mono ?_
          rintro e w7 ⟨rfl, hbl7, hb7⟩
          have RN := Lib.hid (show TextR (w.heap.size + 1) (w.heap.size + 1) (sgL true) M ((w.alloc (.cells #[.bool true, .slice (some ⟨b1, o1, none⟩) n c] 147)).alloc (.cells #[.pointer none, .slice none 0 0] 86)) i w7 from ⟨by rw [hgd.out, ← List.append_assoc]; exact hbl7, (BX5.out.trans (hb6.mono (by omega))).trans hb7, by rw [HL.out]; omega⟩)
          clear hbl7 hb7 hcat
          go_wp2_with fail
          go_roundw
          case rel => exact ⟨i, by omega, by go_num, RN⟩
          case measure => simp [intOf]
end Go.Proofs.YtjcbohbpkodkoaaGreatDoor

/- Contracts of Add, Neg, Compare, Canonical, Check, Of. -/
namespace Go.Proofs.YtjcbohbpkodkoaaGreatDoor
open Go.RowKit Num

theorem grp_topOk (l : List UInt8) : topOk (grp (dgs l)) := grp_top _ (dgs_all l) (dgs_head l)
set_option maxRecDepth 100000 in
theorem Add_any (a b : ByteArray) (w : World) (ha : a.size ≤ 120) (hb : b.size ≤ 120) (ht : Tab w) :
    Calls Tryz.prog 68 #[.string a, .string b] w (StrPost (txt (val a.data.toList + val b.data.toList)) w) := by
  have h1 := fun W => read_any a W ha
  have h2 := fun W => read_any b W hb
  have e1 := Lib.hid (val_sv a.data.toList)
  have e2 := Lib.hid (val_sv b.data.toList)
  have t1 := Lib.hid (grp_topOk a.data.toList)
  have t2 := Lib.hid (grp_topOk b.data.toList)
  unfold ReadPost at h1 h2
  generalize neg a.data.toList = na at *
  generalize neg b.data.toList = nb at *
  generalize grp (dgs a.data.toList) = ga at *
  generalize grp (dgs b.data.toList) = gb at *
  have H1 := Lib.hid h1
  have H2 := Lib.hid h2
  clear h1 h2
  go_enter Tryz.func68, Tryz.ntmps68
  go_wp2_with fail
  refine (H1.out _).mono ?_
  rintro e w1 ⟨A, n, c, rfl, hn, hm, hz, hb1⟩
  have M1 := Lib.hid hm
  have Z1 := Lib.hid hz
  have B1 := Lib.hid hb1
  clear hm hz hb1
  go_wp2_with fail
  refine (H2.out _).mono ?_
  rintro e w2 ⟨B, p, d, rfl, hp, hm, hz, hb2⟩
  have M2 := Lib.hid hm
  have Z2 := Lib.hid hz
  have B2 := Lib.hid (B1.out.trans (hb2.mono B1.out.size))
  have M1' := Lib.hid (M1.out.below hb2)
  clear hm hz hb2
  go_wp2_with fail
  refine (add_any na nb A B n c p d ga gb _ M1'.out M2.out t1.out t2.out Z1.out Z2.out (by omega) (by omega)).mono ?_
  rintro e w3 ⟨v, ng, G, k, cc, os, rfl, ⟨rfl, hm, hk, hv⟩, hb3⟩
  have M3 := Lib.hid hm
  have V3 := Lib.hid hv
  have B3 := Lib.hid (B2.out.trans (hb3.mono B2.out.size))
  clear hm hv hb3
  go_wp2_with fail
  refine (text_any ng G k cc os _ M3.out (ht.below B3.out) (by omega)).mono ?_
  rintro e w4 ⟨rfl, hb4⟩
  go_wp2_with fail
  go_ret
  exact ⟨by rw [e1.out, e2.out, ← V3.out]; rfl, B3.out.trans (hb4.mono B3.out.size)⟩
set_option maxRecDepth 100000 in
theorem Neg_any (a : ByteArray) (w : World) (ha : a.size ≤ 120) (ht : Tab w) :
    Calls Tryz.prog 96 #[.string a] w (StrPost (txt (- val a.data.toList)) w) := by
  have h1 := fun W => read_any a W ha
  have e1 := Lib.hid (val_sv a.data.toList)
  unfold ReadPost at h1
  generalize neg a.data.toList = na at *
  generalize grp (dgs a.data.toList) = ga at *
  have H1 := Lib.hid h1
  clear h1
  go_enter Tryz.func96, Tryz.ntmps96
  go_wp2_with fail
  refine (H1.out _).mono ?_
  rintro e w1 ⟨A, n, c, rfl, hn, hm, hz, hb1⟩
  have M1 := Lib.hid hm
  have B1 := Lib.hid hb1
  clear hm hz hb1
  go_wp2_with fail
  have BA : Below w1.heap.size w1 (w1.alloc (.cells #[.bool !na, .slice A n c] 147)) := (Below.refl _ _).alloc (Nat.le_refl _) _
  refine (text_any (!na) A n c ga _ (M1.out.below BA) (ht.below (B1.out.trans (BA.mono B1.out.size))) (by omega)).mono ?_
  rintro e w4 ⟨rfl, hb4⟩
  go_wp2_with fail
  go_ret
  refine ⟨?_, (B1.out.trans (BA.mono B1.out.size)).trans (hb4.mono (by simp; exact Nat.le_succ_of_le B1.out.size))⟩
  have : - val a.data.toList = sv (!na) ga := by rw [e1.out, sv, sv]; cases na <;> simp
  rw [this]; rfl
theorem Canonical_any (a : ByteArray) (w : World) (ha : a.size ≤ 1000) : Calls Tryz.prog 80 #[.string a] w (StrPost (can a.data.toList) w) := by
  have h1 := fun W => digits_any a W (by omega)
  have e1 := Lib.hid (show can a.data.toList = _ from txt_val a.data.toList)
  have hl : (dgs a.data.toList).length ≤ 1000 := by have := dgs_len a.data.toList; have h2 : a.data.toList.length = a.size := rfl; omega
  unfold DgPost at h1
  generalize dgs a.data.toList = D at *
  generalize neg a.data.toList = ng at *
  have H1 := Lib.hid h1
  have hcat := fun W => cat_run [45] D (45 :: D) (by simp; omega) rfl W
  clear h1
  cases ng
  · go_enter Tryz.func80, Tryz.ntmps80
    go_wp2_with fail
    refine (H1.out _).mono ?_
    rintro e w1 ⟨rfl, hb1⟩
    go_wp2_with fail
    go_ret
    exact ⟨by rw [e1.out]; rfl, hb1⟩
  · go_enter Tryz.func80, Tryz.ntmps80
    go_wp2_with fail
    refine (H1.out _).mono ?_
    rintro e w1 ⟨rfl, hb1⟩
    go_wp2_with fail
    go_ret
    exact ⟨by rw [e1.out]; rfl, hb1⟩
theorem neg_val (a : List UInt8) : (neg a = true → val a < 0) ∧ (neg a = false → 0 ≤ val a) := by
  constructor
  · intro h
    have hne : dgs a ≠ [] := fun e => by simp [neg, e] at h
    have := digV_pos (dgs_all a) (dgs_head a) hne
    rw [val, if_pos h]; omega
  · intro h
    rw [val, if_neg (by simp [h])]; omega
def IntPost (x : Int) (w : World) (e : Ending) (w' : World) : Prop := e = .returned (.int .i64 x) ∧ Below w.heap.size w w'
set_option maxRecDepth 100000 in
set_option maxHeartbeats 2000000 in
theorem Compare_any (a b : ByteArray) (w : World) (ha : a.size ≤ 120) (hb : b.size ≤ 120) :
    Calls Tryz.prog 66 #[.string a, .string b] w (IntPost (cmpV a.data.toList b.data.toList) w) := by
  have h1 := fun W => read_any a W ha
  have h2 := fun W => read_any b W hb
  have e1 := Lib.hid (val_sv a.data.toList)
  have e2 := Lib.hid (val_sv b.data.toList)
  have n1 := Lib.hid (neg_val a.data.toList)
  have n2 := Lib.hid (neg_val b.data.toList)
  have t1 := Lib.hid (grp_topOk a.data.toList)
  have t2 := Lib.hid (grp_topOk b.data.toList)
  unfold ReadPost at h1 h2
  unfold cmpV
  generalize val a.data.toList = va at *
  generalize val b.data.toList = vb at *
  generalize neg a.data.toList = na at *
  generalize neg b.data.toList = nb at *
  generalize grp (dgs a.data.toList) = ga at *
  generalize grp (dgs b.data.toList) = gb at *
  have H1 := Lib.hid h1
  have H2 := Lib.hid h2
  clear h1 h2
  go_enter Tryz.func66, Tryz.ntmps66
  go_wp2_with fail
  refine (H1.out _).mono ?_
  rintro e w1 ⟨A, n, c, rfl, hn, hm, hz, hb1⟩
  have M1 := Lib.hid hm
  have B1 := Lib.hid hb1
  clear hm hz hb1
  go_wp2_with fail
  refine (H2.out _).mono ?_
  rintro e w2 ⟨B, p, d, rfl, hp, hm, hz, hb2⟩
  have M2 := Lib.hid hm
  have B2 := Lib.hid (B1.out.trans (hb2.mono B1.out.size))
  have M1' := Lib.hid (M1.out.below hb2)
  clear hm hz hb2
  go_wp2_with fail
  have BA : Below w2.heap.size w2 ((w2.alloc (.cells #[.bool na, .slice A n c] 147)).alloc (.cells #[.bool nb, .slice B p d] 147)) := ((Below.refl _ _).alloc (Nat.le_refl _) _).alloc (by simp) _
  have BW := Lib.hid (B2.out.trans (BA.mono B2.out.size))
  have x0 : ((w2.alloc (.cells #[.bool na, .slice A n c] 147)).alloc (.cells #[.bool nb, .slice B p d] 147)).cell? ⟨w2.heap.size, 0, none⟩ = some (.bool na) := by go_simp
  have y0 : ((w2.alloc (.cells #[.bool na, .slice A n c] 147)).alloc (.cells #[.bool nb, .slice B p d] 147)).cell? ⟨w2.heap.size + 1, 0, none⟩ = some (.bool nb) := by go_simp
  have MA := Lib.hid (M1'.out.below BA)
  have MB := Lib.hid (M2.out.below BA)
  have hsz : ((w2.alloc (.cells #[.bool na, .slice A n c] 147)).alloc (.cells #[.bool nb, .slice B p d] 147)).heap.size = w2.heap.size + 2 := by simp
  clear BA
  generalize ((w2.alloc (.cells #[.bool na, .slice A n c] 147)).alloc (.cells #[.bool nb, .slice B p d] 147)) = W at *
  have hsz2 : w2.heap.size + 2 ≤ W.heap.size := by omega
  have HSZ := Lib.hid hsz
  clear hsz
  refine (compare_any A B n c p d ga gb _ MA.out MB.out t1.out t2.out (by omega) (by omega)).mono ?_
  rintro e w3 ⟨z, rfl, hz1, hz2, hz3, hz4, hb3⟩
  have x0' := (hb3.cell (p := ⟨w2.heap.size, 0, none⟩) (by simp; omega)).trans x0
  have y0' := (hb3.cell (p := ⟨w2.heap.size + 1, 0, none⟩) (by simp; omega)).trans y0
  have BF := Lib.hid (BW.out.trans (hb3.mono BW.out.size))
  clear hb3 x0 y0
  have hmin1 : 0 < z → min z 1 = 1 := by omega
  cases na <;> cases nb
  · have hv := Lib.hid (show cmpI va vb = if z < 0 then -1 else if 0 < z then 1 else 0 by
      rw [cmpI, e1.out, e2.out, sv, sv]; simp only [Bool.false_eq_true, if_false]
      by_cases q1 : z < 0
      · rw [if_pos q1, if_pos (by have := hz3.1 q1; omega)]
      · rw [if_neg q1, if_neg (by intro h; exact q1 (hz3.2 (by omega)))]
        by_cases q2 : 0 < z
        · rw [if_pos q2, if_pos (by have := hz4.1 q2; omega)]
        · rw [if_neg q2, if_neg (by intro h; exact q2 (hz4.2 (by omega)))])
    clear hz3 hz4 hmin1
    rcases Int.lt_trichotomy z 0 with q | rfl | q
    · have m1 : min z 1 = z := by omega
      have m2 : max (-1) z = -1 := by omega
      have hv2 := Lib.hid (show cmpI va vb = -1 by rw [hv.out, if_pos q])
      go_wp2_with fail
      go_ret
      exact ⟨by rw [hv2.out]; rfl, BF.out⟩
    · have hv2 := Lib.hid (show cmpI va vb = 0 by rw [hv.out]; rfl)
      go_wp2_with fail
      go_ret
      exact ⟨by rw [hv2.out]; rfl, BF.out⟩
    · have m1 : min z 1 = 1 := by omega
      have hv2 := Lib.hid (show cmpI va vb = 1 by rw [hv.out, if_neg (by omega), if_pos q])
      go_wp2_with fail
      go_ret
      exact ⟨by rw [hv2.out]; rfl, BF.out⟩
  · have hv2 := Lib.hid (show cmpI va vb = 1 by
      have q1 := n1.out.2 rfl; have q2 := n2.out.1 rfl
      rw [cmpI, if_neg (by omega), if_pos (by omega)])
    clear hz3 hz4 hmin1
    go_wp2_with fail
    go_ret
    exact ⟨by rw [hv2.out]; rfl, BF.out⟩
  · have hv2 := Lib.hid (show cmpI va vb = -1 by
      have q1 := n1.out.1 rfl; have q2 := n2.out.2 rfl
      rw [cmpI, if_pos (by omega)])
    clear hz3 hz4 hmin1
    go_wp2_with fail
    go_ret
    exact ⟨by rw [hv2.out]; rfl, BF.out⟩
  · have hv := Lib.hid (show cmpI va vb = if 0 < z then -1 else if z < 0 then 1 else 0 by
      rw [cmpI, e1.out, e2.out, sv, sv]; simp only [if_true]
      by_cases q1 : 0 < z
      · rw [if_pos q1, if_pos (by have := hz4.1 q1; omega)]
      · rw [if_neg q1, if_neg (by intro h; exact q1 (hz4.2 (by omega)))]
        by_cases q2 : z < 0
        · rw [if_pos q2, if_pos (by have := hz3.1 q2; omega)]
        · rw [if_neg q2, if_neg (by intro h; exact q2 (hz3.2 (by omega)))])
    clear hz3 hz4 hmin1
    rcases Int.lt_trichotomy z 0 with q | rfl | q
    · have m1 : min (-z) 1 = 1 := by omega
      have hv2 := Lib.hid (show cmpI va vb = 1 by rw [hv.out, if_neg (by omega), if_pos q])
      go_wp2_with fail
      go_ret
      exact ⟨by rw [hv2.out]; rfl, BF.out⟩
    · have hv2 := Lib.hid (show cmpI va vb = 0 by rw [hv.out]; rfl)
      go_wp2_with fail
      go_ret
      exact ⟨by rw [hv2.out]; rfl, BF.out⟩
    · have m1 : min (-z) 1 = -z := by omega
      have m2 : max (-1) (-z) = -1 := by omega
      have hv2 := Lib.hid (show cmpI va vb = -1 by rw [hv.out, if_pos q])
      go_wp2_with fail
      go_ret
      exact ⟨by rw [hv2.out]; rfl, BF.out⟩
/-- 0 or 1: not canonical -/
def chkI (l : List UInt8) : Int := if can l = l then 0 else 1
theorem Check_any (a : ByteArray) (w : World) (ha : a.size ≤ 1000) : Calls Tryz.prog 65 #[.string a] w (IntPost (chkI a.data.toList) w) := by
  have h1 := fun W => Canonical_any a W ha
  unfold StrPost at h1
  have hl : a = ⟨a.data.toList.toArray⟩ := rfl
  generalize hal : a.data.toList = l at *
  have hcan := Lib.hid (show chkI l = if can l = l then 0 else 1 from rfl)
  generalize can l = m at *
  have H1 := Lib.hid h1
  clear h1 ha hal
  subst hl
  by_cases he : m = l
  · have hc2 := Lib.hid (show chkI l = 0 by rw [hcan.out, if_pos he])
    subst he
    go_enter Tryz.func65, Tryz.ntmps65
    go_wp2_with fail
    refine (H1.out _).mono ?_
    rintro e w1 ⟨rfl, hb1⟩
    go_wp2_with fail
    go_ret
    exact ⟨by rw [hc2.out]; rfl, hb1⟩
  · have hne : (l == m) = false := beq_eq_false_iff_ne.2 (Ne.symm he)
    have hc2 := Lib.hid (show chkI l = 1 by rw [hcan.out, if_neg he])
    go_enter Tryz.func65, Tryz.ntmps65
    go_wp2_with fail
    refine (H1.out _).mono ?_
    rintro e w1 ⟨rfl, hb1⟩
    go_wp2_with fail
    go_ret
    exact ⟨by rw [hc2.out]; rfl, hb1⟩
end Go.Proofs.YtjcbohbpkodkoaaGreatDoor

/- A range over an iterator that keeps what is left in a captured cell: the iterator writes block bs between two rounds. -/
namespace Go.Proofs.YtjcbohbpkodkoaaGreatDoor
open Go.RowKit Go.Shelf

/-- the iterator's block, and block 0 (a variable of the library's), lie as they lay -/
def Two (bs : Nat) (W W' : World) : Prop := W'.heap[bs]? = W.heap[bs]? ∧ W'.heap[0]? = W.heap[0]?
theorem Two.trans {bs : Nat} {A B C : World} (h : Two bs A B) (k : Two bs B C) : Two bs A C := ⟨k.1.trans h.1, k.2.trans h.2⟩
/-- how a round of the loop may end: it goes on, or it returns -/
def BoxEnd {α : Type} (B bs : Nat) (I Ix : List α → World → Prop) (xs : List α) (W : World) : Exit → Act → World → Prop
  | .normal, _, W' => KeepsFrom B W W' ∧ Two bs W W' ∧ I xs W'
  | .ret, _, W' => KeepsFrom B W W' ∧ Ix xs W'
  | _, _, _ => False

/-- the iterator's contract: of J it asks that it abides new blocks and writes to block bs -/
def SeqBox {α : Type} (F : Fence) (n : Nat) (P : Program) (g : Nat) (lb : Array Value) (encs : α → Array Value) (bs : Nat) (S Sp : List α → Prop) (N : Nat) (w : World) : Prop :=
  ∀ (l : Nat) (J Jx : List α → World → Prop) (W : World), Below w.heap.size w W → (∀ s A B, J s A → A.grownBy B (some bs) → J s B) → (∀ s A B, Jx s A → A.grownBy B (some bs) → Jx s B) →
    (∀ pre x A, J pre A → pre.length < N → YieldAt F (n - 1) P l (encs x) A fun e A' => (e = .returned (.bool true) ∧ J (pre ++ [x]) A' ∧ Two bs A A') ∨ (e = .returned (.bool false) ∧ Jx (pre ++ [x]) A')) →
    J [] W → CallsIn F n P g (#[.func (.yield l) #[] #[]] ++ lb) W fun e W' => (∃ v, e = .returned v) ∧ ((∃ xs, S xs ∧ J xs W') ∨ (∃ pre, Sp pre ∧ Jx pre W'))

theorem range_box {F : Fence} {n : Nat} {P : Program} {α : Type} {g : Operand} {ps : Array Tmp} {assign body : Code} {Q : Exit → Act → World → Prop} {a : Act} {w : World}
    (hro : F.round = none) (h1 : 1 ≤ n) {gf : Nat} {lb : Array Value} (hg : a.eval g = .func (.func gf) #[] lb) (hFg : F.fn gf) (eg : ∀ args w, (callFunc gf args).run P w = .ok (.enter gf args) w)
    {encs : α → Array Value} (bs : Nat) (hbs : bs < w.heap.size) (h3w : 0 < w.heap.size) {S Sp : List α → Prop} {N : Nat} (hseq : SeqBox F (n - 1) P gf lb encs bs S Sp N w) (hps : ∀ x, (encs x).size = ps.size)
    (I Ix : List α → World → Prop) (hI : OwnFrom w.heap.size I) (hIx : OwnFrom w.heap.size Ix) (hIb : ∀ s A B, I s A → A.grownBy B (some bs) → I s B) (hIxb : ∀ s A B, Ix s A → A.grownBy B (some bs) → Ix s B) (h0 : I [] w) (a₁ : α → Act)
    (hassign : ∀ (l : Nat) (x : α) (W : World) (K : Act → World → Prop), K (a₁ x) W →
      assign.wpIn (F.inRound l) (n - 1 - 1) P (Exit.then K (fun _ _ _ => False)) { tmps := (ps.zip (encs x)).foldl (fun t (p, v) => t.setIfInBounds p v) a.tmps, defers := [] } W)
    (hbody : ∀ (l : Nat) (pre : List α) (x : α) (W : World), I pre W → pre.length < N → body.wpIn (F.inRound l) (n - 1 - 1) P (BoxEnd w.heap.size bs I Ix (pre ++ [x]) W) (a₁ x) W)
    (hdone : ∀ (D : Nat) (xs : List α) (W : World), w.heap.size ≤ D → S xs → I xs W → W.heap[D]? = some (.deferred (some [])) → Q .normal { a with defers := { target := .collected D, args := #[] } :: a.defers } W)
    (hstop : ∀ (D : Nat) (pre : List α) (W : World), w.heap.size ≤ D → Sp pre → Ix pre W → W.heap[D]? = some (.deferred (some [])) → Code.ret.wpIn F n P Q { a with defers := { target := .collected D, args := #[] } :: a.defers } W) :
    (Code.rangeFunc g ps assign body).wpIn F n P Q a w := by
  refine wpIn_rangeFunc fun fn hfn => ?_
  rw [hro]
  let rc : LoopState → Option Code → Loop := fun st pe => { state := st, pending := pe, fn, tmps := a.tmps, params := ps, assign, body, defers := w.heap.size }
  have hrc : ∀ st pe, rc st pe = { state := st, pending := pe, fn, tmps := a.tmps, params := ps, assign, body, defers := w.heap.size } := fun _ _ => rfl
  obtain ⟨W1, hW1⟩ : ∃ W1, (w.alloc (.deferred (some []))).alloc (.loop (rc .ready none)) = W1 := ⟨_, rfl⟩
  -- the two blocks of the book-keeping
  have hD1 : W1.heap[w.heap.size]? = some (.deferred (some [])) := by
    rw [← hW1]; exact (Below.heap_alloc _ _ _ (by simp)).trans (World.alloc_heap_new w _)
  have hL1 : W1.heap[w.heap.size + 1]? = some (.loop (rc .ready none)) := by
    have h := World.alloc_heap_new (w.alloc (.deferred (some []))) (.loop (rc .ready none))
    rw [World.size_alloc] at h
    rw [← hW1]; exact h
  have hI1 : I [] W1 := by rw [← hW1]; exact hI.alloc _ (hI.alloc _ h0)
  have hb1 : Below w.heap.size w W1 := by rw [← hW1]; exact ((Below.refl _ w).alloc (Nat.le_refl _) _).alloc (by simp) _
  refine ⟨w.heap.size + 1, [{ target := .collected w.heap.size, args := #[] }], W1, { target := .fn (.func gf) lb, args := #[.func (.yield (w.heap.size + 1)) #[] #[]] }, W1, gf,
    #[.func (.yield (w.heap.size + 1)) #[] #[]] ++ lb, W1, ?_, ?_, ?_, ?_, fun _ => h1, ?_⟩
  · rw [← hW1]; exact run_enterLoop_outer _ _ _ _ _
  · simp only [resolve, hg]
    simp [go_sem]
  · intro f' hf'; simp [Target.leads] at hf'; subst hf'; exact hFg
  · simp [invoke, go_sem, eg]
  have keeps : ∀ {A B : World} {k : Nat} {o : Obj}, A.grownBy B (some bs) → w.heap.size ≤ k → A.heap[k]? = some o → B.heap[k]? = some o := fun hgr hk ho =>
    (hgr.block _ (Array.getElem?_eq_some_iff.1 ho).1 (fun e => by cases e; omega)).trans ho
  refine (hseq (w.heap.size + 1)
    (fun pre W => I pre W ∧ W.heap[w.heap.size + 1]? = some (.loop (rc .ready none)) ∧ W.heap[w.heap.size]? = some (.deferred (some [])))
    (fun pre W => Ix pre W ∧ W.heap[w.heap.size + 1]? = some (.loop (rc .done (some .ret))) ∧ W.heap[w.heap.size]? = some (.deferred (some [])))
    W1 hb1 (fun s A B hs hgr => ⟨hIb s A B hs.1 hgr, keeps hgr (by omega) hs.2.1, keeps hgr (Nat.le_refl _) hs.2.2⟩)
    (fun s A B hs hgr => ⟨hIxb s A B hs.1 hgr, keeps hgr (by omega) hs.2.1, keeps hgr (Nat.le_refl _) hs.2.2⟩) ?_ ⟨hI1, hL1, hD1⟩).mono ?_
  · -- a round
    rintro pre x W ⟨hi, hl, hk⟩ hlen
    have hlt : w.heap.size + 1 < W.heap.size := (Array.getElem?_eq_some_iff.1 hl).1
    refine ⟨fn, _, assign, body, run_yield (P := P) (args := encs x) hl (hps x), roundIn_of_wpIn hfn (hassign _ x W _ ⟨_, run_beginRound hl rfl, ?_⟩)⟩
    have hl2 : (W.putObj (w.heap.size + 1) (.loop { rc .ready none with state := .busy })).heap[w.heap.size + 1]? = some (.loop { rc .ready none with state := .busy }) := World.putObj_heap_same hlt
    have hk2 : (W.putObj (w.heap.size + 1) (.loop { rc .ready none with state := .busy })).heap[w.heap.size]? = some (.deferred (some [])) := (World.putObj_heap_other (by omega)).trans hk
    have hx2 : Two bs W (W.putObj (w.heap.size + 1) (.loop { rc .ready none with state := .busy })) := ⟨World.putObj_heap_other (by omega), World.putObj_heap_other (by omega)⟩
    refine wpIn_mono (hbody _ pre x _ (hI.putObj _ hi (by omega) hl rfl) hlen) ?_
    rintro e a3 W3 hp
    cases e with
    | normal =>
      obtain ⟨hk3, hkp3, hi3⟩ := hp
      have hl3 := hk3.same _ _ (by omega) hl2 rfl
      exact ⟨_, _, run_endRound (P := P) none hl3, .inl ⟨rfl, ⟨hI.putObj _ hi3 (by omega) hl3 rfl, World.putObj_heap_same (Array.getElem?_eq_some_iff.1 hl3).1, (World.putObj_heap_other (by omega)).trans (hk3.same _ _ (Nat.le_refl _) hk2 rfl)⟩,
        (hx2.trans hkp3).trans ⟨World.putObj_heap_other (by omega), World.putObj_heap_other (by omega)⟩⟩⟩
    | ret =>
      obtain ⟨hk3, hi3⟩ := hp
      have hl3 := hk3.same _ _ (by omega) hl2 rfl
      exact ⟨_, _, run_endRound (P := P) (some .ret) hl3, .inr ⟨rfl, hIx.putObj _ hi3 (by omega) hl3 rfl, World.putObj_heap_same (Array.getElem?_eq_some_iff.1 hl3).1, (World.putObj_heap_other (by omega)).trans (hk3.same _ _ (Nat.le_refl _) hk2 rfl)⟩⟩
    | exit id => exact hp.elim
    | goto t => exact hp.elim
    | panic ch => exact hp.elim
    | outgrown => exact hp.elim
  · -- behind the iterator
    rintro e W2 ⟨⟨v, rfl⟩, (⟨xs, hS, hi, hl, hk⟩ | ⟨pre, hSp, hi, hl, hk⟩)⟩
    · exact ⟨none, _, run_endLoop (P := P) hl (by simp [hrc]), hdone _ xs _ (Nat.le_refl _) hS (hI.putObj _ hi (by omega) hl rfl) ((World.putObj_heap_other (by omega)).trans hk)⟩
    · exact ⟨some .ret, _, run_endLoop (P := P) hl (by simp [hrc]), hstop _ pre _ (Nat.le_refl _) hSp (hIx.putObj _ hi (by omega) hl rfl) ((World.putObj_heap_other (by omega)).trans hk)⟩
end Go.Proofs.YtjcbohbpkodkoaaGreatDoor

/- The segments of a string, plain. -/
namespace Go.Proofs.YtjcbohbpkodkoaaGreatDoor

def segs : List UInt8 → List (List UInt8)
  | [] => [[]]
  | c :: r => if c = 46 then [] :: segs r else match segs r with
    | [] => [[c]]
    | h :: t => (c :: h) :: t
theorem segs_ne (l : List UInt8) : segs l ≠ [] := by
  cases l with
  | nil => simp [segs]
  | cons c r => rw [segs]; split
                · simp
                · split <;> simp
theorem segs_dot (r : List UInt8) : segs (46 :: r) = [] :: segs r := by rw [segs, if_pos rfl]
theorem segs_cons {c : UInt8} {r h : List UInt8} {t : List (List UInt8)} (hc : c ≠ 46) (e : segs r = h :: t) : segs (c :: r) = (c :: h) :: t := by rw [segs, if_neg hc, e]
theorem segs_none : ∀ {l : List UInt8}, 46 ∉ l → segs l = [l]
  | [], _ => rfl
  | c :: r, h => segs_cons (fun e => h (by simp [e])) (segs_none (fun h' => h (by simp [h'])))
theorem segs_split : ∀ {a b : List UInt8}, 46 ∉ a → segs (a ++ 46 :: b) = a :: segs b
  | [], b, _ => segs_dot b
  | c :: a, b, h => segs_cons (fun e => h (by simp [e])) (segs_split (fun h' => h (by simp [h'])))
theorem index_dot : ∀ (l : List UInt8), (46 ∉ l ∧ Lib.index l [46] = -1) ∨ (∃ a b, l = a ++ 46 :: b ∧ 46 ∉ a ∧ Lib.index l [46] = (a.length : Int))
  | [] => .inl ⟨by simp, rfl⟩
  | c :: r => by
    by_cases hc : c = 46
    · subst hc
      exact .inr ⟨[], r, rfl, by simp, by simp [Lib.index]⟩
    · have hp : ([46] : List UInt8).isPrefixOf (c :: r) = false := by simp [List.isPrefixOf, Ne.symm hc]
      rcases index_dot r with ⟨h1, h2⟩ | ⟨a, b, rfl, h2, h3⟩
      · exact .inl ⟨by simp [Ne.symm hc, h1], by rw [Lib.index, hp, h2]; rfl⟩
      · refine .inr ⟨c :: a, b, rfl, by simp [Ne.symm hc, h2], ?_⟩
        rw [Lib.index, hp, h3]
        have : ((a.length : Int) == -1) = false := beq_eq_false_iff_ne.2 (by omega)
        rw [this]
        simp
theorem cut_dot (l : List UInt8) : (46 ∉ l ∧ Lib.cut l [46] = (l, [], false) ∧ segs l = [l]) ∨ (∃ a b, l = a ++ 46 :: b ∧ 46 ∉ a ∧ Lib.cut l [46] = (a, b, true) ∧ segs l = a :: segs b) := by
  rcases index_dot l with ⟨h1, h2⟩ | ⟨a, b, h1, h2, h3⟩
  · exact .inl ⟨h1, by rw [Lib.cut, h2, if_neg (by omega)], segs_none h1⟩
  · refine .inr ⟨a, b, h1, h2, ?_, by rw [h1]; exact segs_split h2⟩
    rw [Lib.cut, h3, if_pos (by omega), h1]
    simp
end Go.Proofs.YtjcbohbpkodkoaaGreatDoor

/- Contracts of instrument.Name and the reference's Name. -/
namespace Go.Proofs.YtjcbohbpkodkoaaGreatDoor
open Go.RowKit

/-- a letter of a name -/
def nameC (c : UInt8) : Bool := decide (97 ≤ c.toNat ∧ c.toNat ≤ 122 ∨ 48 ≤ c.toNat ∧ c.toNat ≤ 57 ∨ c.toNat = 95)
def nameB (l : List UInt8) : Bool := decide (1 ≤ l.length) && decide (l.length ≤ 16) && l.all nameC
theorem ret_bool {a b : Bool} (h : a = b) : Ending.returned (.bool a) = .returned (.bool b) := by rw [h]
theorem zones (z : Nat) : z < 48 ∨ (48 ≤ z ∧ z ≤ 57) ∨ (58 ≤ z ∧ z ≤ 94) ∨ z = 95 ∨ z = 96 ∨ (97 ≤ z ∧ z ≤ 122) ∨ 122 < z := by omega
theorem all_take_succ (l : List UInt8) (k : Nat) (h : k < l.length) : (l.take (k + 1)).all nameC = ((l.take k).all nameC && nameC (l.getD k 0)) := by
  rw [List.take_succ_eq_append_getElem h, List.all_append, List.getD_eq_getElem?_getD, List.getElem?_eq_getElem h]
  simp
theorem not_all {l : List UInt8} {k : Nat} (h : k < l.length) (hc : nameC (l.getD k 0) = false) : l.all nameC = false := by
  rw [List.all_eq_false]
  refine ⟨l.getD k 0, ?_, by rw [hc]; simp⟩
  rw [List.getD_eq_getElem?_getD, List.getElem?_eq_getElem h]
  exact List.getElem_mem h
set_option maxHeartbeats 1000000 in
theorem name_any (s : ByteArray) (w : World) (hs : s.size ≤ maxLen) : Calls Tryz.prog 105 #[.string s] w fun e w' => e = .returned (.bool (nameB s.data.toList)) ∧ Below w.heap.size w w' := by
  unfold maxLen at hs
  have hl : s.data.toList.length = s.size := rfl
  by_cases h0 : s.size = 0
  · have hb := Lib.hid (show false = nameB s.data.toList by unfold nameB; rw [hl, h0]; rfl)
    have he : ((s.size : Int) == 0) = true := beq_iff_eq.2 (by omega)
    clear hl h0
    go_enter Tryz.func105, Tryz.ntmps105
    go_wp2_with fail
    go_ret
    exact ⟨ret_bool hb.out, Below.refl _ _⟩
  by_cases h16 : 16 < s.size
  · have hb := Lib.hid (show false = nameB s.data.toList by unfold nameB; rw [hl, decide_eq_false (show ¬ s.size ≤ 16 by omega)]; simp)
    have he : ((s.size : Int) == 0) = false := beq_eq_false_iff_ne.2 (by omega)
    have hd : decide (16 < (s.size : Int)) = true := by simp; omega
    clear hl h0
    go_enter Tryz.func105, Tryz.ntmps105
    go_wp2_with fail
    go_ret
    exact ⟨ret_bool hb.out, Below.refl _ _⟩
  have hnb := Lib.hid (show nameB s.data.toList = s.data.toList.all nameC by unfold nameB; rw [hl, decide_eq_true (show 1 ≤ s.size by omega), decide_eq_true (show s.size ≤ 16 by omega)]; rfl)
  have he : ((s.size : Int) == 0) = false := beq_eq_false_iff_ne.2 (by omega)
  have hd : decide (16 < (s.size : Int)) = false := by simp; omega
  have hcv := Lib.run_convert_string_bytes (P := Tryz.prog) w 9 84 5 s Tryz.underlying9 Tryz.underlying84 Tryz.underlying5
  have hcell := fun j h => Lib.bytesWorld_cell w 5 s j h
  have hbw := Joins.below_bytesWorld w.heap.size w 5 s (Nat.le_refl _)
  have hn16 : s.size ≤ 16 := by omega
  have HL := Lib.hid hl
  clear hl h0 h16
  generalize Lib.bytesWorld w 5 s = w1 at *
  generalize grownCap w s.size 0 5 = cap at *
  have HC := Lib.hid hcell
  clear hcell
  go_enter Tryz.func105, Tryz.ntmps105
  go_wp2_with fail
  generalize hT : s.data.toList = T at *
  have HT := Lib.hid hT
  clear hT hcv
  go_loop [4, 16] (fun _ i => ∃ k : Nat, k ≤ s.size ∧ i = .int .i64 (k : Int) ∧ (T.take k).all nameC = true) (fun _ i => s.size - (intOf i).toNat)
  case atStart => exact ⟨0, by omega, rfl, rfl⟩
  case round =>
    obtain ⟨k, hk, rfl, ha⟩ := hrel
    have HA := Lib.hid ha
    clear ha
    by_cases hlt : k < s.size
    · have h1 := HC.out k hlt
      have hal := Lib.hid (all_take_succ T k (by rw [HL.out]; exact hlt))
      have hno := Lib.hid (fun h => not_all (l := T) (k := k) (by rw [HL.out]; exact hlt) h)
      have hnc := Lib.hid (show nameC (T.getD k 0) = decide (97 ≤ (T.getD k 0).toNat ∧ (T.getD k 0).toNat ≤ 122 ∨ 48 ≤ (T.getD k 0).toNat ∧ (T.getD k 0).toNat ≤ 57 ∨ (T.getD k 0).toNat = 95) from rfl)
      have hbyte : (T.getD k 0).toNat < 256 := UInt8.toNat_lt _
      generalize nameC (T.getD k 0) = nc at *
      generalize (T.getD k 0).toNat = z at *
      rcases zones z with hz | hz | hz | hz | hz | hz | hz
      · have t1 : decide ((z : Int) < 97) = true := by rw [decide_eq_true_iff]; omega
        have t2 : decide (122 < (z : Int)) = false := by rw [decide_eq_false_iff_not]; omega
        have t3 : decide ((z : Int) < 48) = true := by rw [decide_eq_true_iff]; omega
        have t4 : decide (57 < (z : Int)) = false := by rw [decide_eq_false_iff_not]; omega
        have t5 : ((z : Int) != 95) = true := by rw [bne_iff_ne]; omega
        have hncv := Lib.hid (show nc = false by rw [hnc.out, decide_eq_false_iff_not]; omega)
        clear hz
        go_wp2_with fail
        go_ret
        exact ⟨ret_bool (by rw [HT.out, hnb.out, hno.out hncv.out]), hbw⟩
      · have t1 : decide ((z : Int) < 97) = true := by rw [decide_eq_true_iff]; omega
        have t2 : decide (122 < (z : Int)) = false := by rw [decide_eq_false_iff_not]; omega
        have t3 : decide ((z : Int) < 48) = false := by rw [decide_eq_false_iff_not]; omega
        have t4 : decide (57 < (z : Int)) = false := by rw [decide_eq_false_iff_not]; omega
        have t5 : ((z : Int) != 95) = true := by rw [bne_iff_ne]; omega
        have hncv := Lib.hid (show nc = true by rw [hnc.out, decide_eq_true_iff]; omega)
        clear hz
        go_wp2_with fail
        go_round
        case rel => exact ⟨k + 1, by omega, by go_num, by rw [hal.out, HA.out, hncv.out]; rfl⟩
        case measure => simp [intOf]; omega
      · have t1 : decide ((z : Int) < 97) = true := by rw [decide_eq_true_iff]; omega
        have t2 : decide (122 < (z : Int)) = false := by rw [decide_eq_false_iff_not]; omega
        have t3 : decide ((z : Int) < 48) = false := by rw [decide_eq_false_iff_not]; omega
        have t4 : decide (57 < (z : Int)) = true := by rw [decide_eq_true_iff]; omega
        have t5 : ((z : Int) != 95) = true := by rw [bne_iff_ne]; omega
        have hncv := Lib.hid (show nc = false by rw [hnc.out, decide_eq_false_iff_not]; omega)
        clear hz
        go_wp2_with fail
        go_ret
        exact ⟨ret_bool (by rw [HT.out, hnb.out, hno.out hncv.out]), hbw⟩
      · have t1 : decide ((z : Int) < 97) = true := by rw [decide_eq_true_iff]; omega
        have t2 : decide (122 < (z : Int)) = false := by rw [decide_eq_false_iff_not]; omega
        have t3 : decide ((z : Int) < 48) = false := by rw [decide_eq_false_iff_not]; omega
        have t4 : decide (57 < (z : Int)) = true := by rw [decide_eq_true_iff]; omega
        have t5 : ((z : Int) != 95) = false := by rw [bne_eq_false_iff_eq]; omega
        have hncv := Lib.hid (show nc = true by rw [hnc.out, decide_eq_true_iff]; omega)
        clear hz
        go_wp2_with fail
        go_round
        case rel => exact ⟨k + 1, by omega, by go_num, by rw [hal.out, HA.out, hncv.out]; rfl⟩
        case measure => simp [intOf]; omega
      · have t1 : decide ((z : Int) < 97) = true := by rw [decide_eq_true_iff]; omega
        have t2 : decide (122 < (z : Int)) = false := by rw [decide_eq_false_iff_not]; omega
        have t3 : decide ((z : Int) < 48) = false := by rw [decide_eq_false_iff_not]; omega
        have t4 : decide (57 < (z : Int)) = true := by rw [decide_eq_true_iff]; omega
        have t5 : ((z : Int) != 95) = true := by rw [bne_iff_ne]; omega
        have hncv := Lib.hid (show nc = false by rw [hnc.out, decide_eq_false_iff_not]; omega)
        clear hz
        go_wp2_with fail
        go_ret
        exact ⟨ret_bool (by rw [HT.out, hnb.out, hno.out hncv.out]), hbw⟩
      · have t1 : decide ((z : Int) < 97) = false := by rw [decide_eq_false_iff_not]; omega
        have t2 : decide (122 < (z : Int)) = false := by rw [decide_eq_false_iff_not]; omega
        have t3 : decide ((z : Int) < 48) = false := by rw [decide_eq_false_iff_not]; omega
        have t4 : decide (57 < (z : Int)) = true := by rw [decide_eq_true_iff]; omega
        have t5 : ((z : Int) != 95) = true := by rw [bne_iff_ne]; omega
        have hncv := Lib.hid (show nc = true by rw [hnc.out, decide_eq_true_iff]; omega)
        clear hz
        go_wp2_with fail
        go_round
        case rel => exact ⟨k + 1, by omega, by go_num, by rw [hal.out, HA.out, hncv.out]; rfl⟩
        case measure => simp [intOf]; omega
      · have t1 : decide ((z : Int) < 97) = false := by rw [decide_eq_false_iff_not]; omega
        have t2 : decide (122 < (z : Int)) = true := by rw [decide_eq_true_iff]; omega
        have t3 : decide ((z : Int) < 48) = false := by rw [decide_eq_false_iff_not]; omega
        have t4 : decide (57 < (z : Int)) = true := by rw [decide_eq_true_iff]; omega
        have t5 : ((z : Int) != 95) = true := by rw [bne_iff_ne]; omega
        have hncv := Lib.hid (show nc = false by rw [hnc.out, decide_eq_false_iff_not]; omega)
        clear hz
        go_wp2_with fail
        go_ret
        exact ⟨ret_bool (by rw [HT.out, hnb.out, hno.out hncv.out]), hbw⟩
    · have hfin := Lib.hid (show T.all nameC = true by
        have := HA.out
        rwa [List.take_of_length_le (by rw [HL.out]; omega)] at this)
      go_wp2_with fail
      go_ret
      exact ⟨ret_bool (by rw [HT.out, hnb.out, hfin.out]), hbw⟩
set_option maxHeartbeats 1000000 in
theorem rname_any (s : ByteArray) (w : World) (hs : s.size ≤ maxLen) : Calls Tryz.prog 57 #[.string s] w fun e w' => e = .returned (.bool (nameB s.data.toList)) ∧ w = w' := by
  unfold maxLen at hs
  have hl : s.data.toList.length = s.size := rfl
  have hnb := Lib.hid (show nameB s.data.toList = (decide (1 ≤ s.size) && decide (s.size ≤ 16) && s.data.toList.all nameC) from rfl)
  have HL := Lib.hid hl
  clear hl
  have hget : ∀ k (h : k < s.size), s.data.toList.getD k 0 = s[k] := fun k h => by rw [List.getD_eq_getElem?_getD, List.getElem?_eq_getElem (by simpa using h)]; rfl
  have HG := Lib.hid hget
  clear hget
  go_enter Tryz.func57, Tryz.ntmps57
  go_wp2_with fail
  go_loop [3, 4] (fun i _ => ∃ k : Nat, k ≤ s.size ∧ i = .int .i64 (k : Int) ∧ (s.data.toList.take k).all nameC = true) (fun i _ => s.size - (intOf i).toNat)
  case atStart => exact ⟨0, by omega, rfl, rfl⟩
  case round =>
    obtain ⟨k, hk, rfl, ha⟩ := hrel
    have HA := Lib.hid ha
    clear ha
    by_cases hlt : k < s.size
    · have hal := Lib.hid (all_take_succ s.data.toList k (by rw [HL.out]; exact hlt))
      have hno := Lib.hid (fun h => not_all (l := s.data.toList) (k := k) (by rw [HL.out]; exact hlt) h)
      have hnc := Lib.hid (show nameC (s.data.toList.getD k 0) = decide (97 ≤ (s[k]).toNat ∧ (s[k]).toNat ≤ 122 ∨ 48 ≤ (s[k]).toNat ∧ (s[k]).toNat ≤ 57 ∨ (s[k]).toNat = 95) by rw [HG.out k hlt]; rfl)
      have hbyte : (s[k]).toNat < 256 := UInt8.toNat_lt _
      have hzz := zones s[k].toNat
      generalize nameC (s.data.toList.getD k 0) = nc at *
      have hki : (k : Int) < (s.size : Int) := by omega
      rcases hzz with hz | hz | hz | hz | hz | hz | hz
      · have t1 : decide ((s[k].toNat : Int) < 97) = true := by rw [decide_eq_true_iff]; omega
        have t2 : decide (122 < (s[k].toNat : Int)) = false := by rw [decide_eq_false_iff_not]; omega
        have t3 : decide ((s[k].toNat : Int) < 48) = true := by rw [decide_eq_true_iff]; omega
        have t4 : decide (57 < (s[k].toNat : Int)) = false := by rw [decide_eq_false_iff_not]; omega
        have t5 : ((s[k].toNat : Int) != 95) = true := by rw [bne_iff_ne]; omega
        have hncv := Lib.hid (show nc = false by rw [hnc.out, decide_eq_false_iff_not]; omega)
        clear hz
        go_wp2_with fail
        go_ret
        exact ⟨ret_bool (by rw [hnb.out, hno.out hncv.out, Bool.and_false]), rfl⟩
      · have t1 : decide ((s[k].toNat : Int) < 97) = true := by rw [decide_eq_true_iff]; omega
        have t2 : decide (122 < (s[k].toNat : Int)) = false := by rw [decide_eq_false_iff_not]; omega
        have t3 : decide ((s[k].toNat : Int) < 48) = false := by rw [decide_eq_false_iff_not]; omega
        have t4 : decide (57 < (s[k].toNat : Int)) = false := by rw [decide_eq_false_iff_not]; omega
        have t5 : ((s[k].toNat : Int) != 95) = true := by rw [bne_iff_ne]; omega
        have hncv := Lib.hid (show nc = true by rw [hnc.out, decide_eq_true_iff]; omega)
        clear hz
        go_wp2_with fail
        go_round
        case rel => exact ⟨k + 1, by omega, by go_num, by rw [hal.out, HA.out, hncv.out]; rfl⟩
        case measure => simp [intOf]; omega
      · have t1 : decide ((s[k].toNat : Int) < 97) = true := by rw [decide_eq_true_iff]; omega
        have t2 : decide (122 < (s[k].toNat : Int)) = false := by rw [decide_eq_false_iff_not]; omega
        have t3 : decide ((s[k].toNat : Int) < 48) = false := by rw [decide_eq_false_iff_not]; omega
        have t4 : decide (57 < (s[k].toNat : Int)) = true := by rw [decide_eq_true_iff]; omega
        have t5 : ((s[k].toNat : Int) != 95) = true := by rw [bne_iff_ne]; omega
        have hncv := Lib.hid (show nc = false by rw [hnc.out, decide_eq_false_iff_not]; omega)
        clear hz
        go_wp2_with fail
        go_ret
        exact ⟨ret_bool (by rw [hnb.out, hno.out hncv.out, Bool.and_false]), rfl⟩
      · have t1 : decide ((s[k].toNat : Int) < 97) = true := by rw [decide_eq_true_iff]; omega
        have t2 : decide (122 < (s[k].toNat : Int)) = false := by rw [decide_eq_false_iff_not]; omega
        have t3 : decide ((s[k].toNat : Int) < 48) = false := by rw [decide_eq_false_iff_not]; omega
        have t4 : decide (57 < (s[k].toNat : Int)) = true := by rw [decide_eq_true_iff]; omega
        have t5 : ((s[k].toNat : Int) != 95) = false := by rw [bne_eq_false_iff_eq]; omega
        have hncv := Lib.hid (show nc = true by rw [hnc.out, decide_eq_true_iff]; omega)
        clear hz
        go_wp2_with fail
        go_round
        case rel => exact ⟨k + 1, by omega, by go_num, by rw [hal.out, HA.out, hncv.out]; rfl⟩
        case measure => simp [intOf]; omega
      · have t1 : decide ((s[k].toNat : Int) < 97) = true := by rw [decide_eq_true_iff]; omega
        have t2 : decide (122 < (s[k].toNat : Int)) = false := by rw [decide_eq_false_iff_not]; omega
        have t3 : decide ((s[k].toNat : Int) < 48) = false := by rw [decide_eq_false_iff_not]; omega
        have t4 : decide (57 < (s[k].toNat : Int)) = true := by rw [decide_eq_true_iff]; omega
        have t5 : ((s[k].toNat : Int) != 95) = true := by rw [bne_iff_ne]; omega
        have hncv := Lib.hid (show nc = false by rw [hnc.out, decide_eq_false_iff_not]; omega)
        clear hz
        go_wp2_with fail
        go_ret
        exact ⟨ret_bool (by rw [hnb.out, hno.out hncv.out, Bool.and_false]), rfl⟩
      · have t1 : decide ((s[k].toNat : Int) < 97) = false := by rw [decide_eq_false_iff_not]; omega
        have t2 : decide (122 < (s[k].toNat : Int)) = false := by rw [decide_eq_false_iff_not]; omega
        have t3 : decide ((s[k].toNat : Int) < 48) = false := by rw [decide_eq_false_iff_not]; omega
        have t4 : decide (57 < (s[k].toNat : Int)) = true := by rw [decide_eq_true_iff]; omega
        have t5 : ((s[k].toNat : Int) != 95) = true := by rw [bne_iff_ne]; omega
        have hncv := Lib.hid (show nc = true by rw [hnc.out, decide_eq_true_iff]; omega)
        clear hz
        go_wp2_with fail
        go_round
        case rel => exact ⟨k + 1, by omega, by go_num, by rw [hal.out, HA.out, hncv.out]; rfl⟩
        case measure => simp [intOf]; omega
      · have t1 : decide ((s[k].toNat : Int) < 97) = false := by rw [decide_eq_false_iff_not]; omega
        have t2 : decide (122 < (s[k].toNat : Int)) = true := by rw [decide_eq_true_iff]; omega
        have t3 : decide ((s[k].toNat : Int) < 48) = false := by rw [decide_eq_false_iff_not]; omega
        have t4 : decide (57 < (s[k].toNat : Int)) = true := by rw [decide_eq_true_iff]; omega
        have t5 : ((s[k].toNat : Int) != 95) = true := by rw [bne_iff_ne]; omega
        have hncv := Lib.hid (show nc = false by rw [hnc.out, decide_eq_false_iff_not]; omega)
        clear hz
        go_wp2_with fail
        go_ret
        exact ⟨ret_bool (by rw [hnb.out, hno.out hncv.out, Bool.and_false]), rfl⟩
    · have hfin := Lib.hid (show s.data.toList.all nameC = true by
        have := HA.out
        rwa [List.take_of_length_le (by rw [HL.out]; omega)] at this)
      by_cases h1 : 1 ≤ s.size
      · by_cases h2 : s.size ≤ 16
        · have d1 : decide (1 ≤ (s.size : Int)) = true := by simp; omega
          have d2 : decide ((s.size : Int) ≤ 16) = true := by simp; omega
          have hv := Lib.hid (show true = nameB s.data.toList by rw [hnb.out, hfin.out, decide_eq_true h1, decide_eq_true h2]; rfl)
          go_wp2_with fail
          go_ret
          exact ⟨ret_bool hv.out, rfl⟩
        · have d1 : decide (1 ≤ (s.size : Int)) = true := by simp; omega
          have d2 : decide ((s.size : Int) ≤ 16) = false := by simp; omega
          have hv := Lib.hid (show false = nameB s.data.toList by rw [hnb.out, hfin.out, decide_eq_true h1, decide_eq_false h2]; rfl)
          go_wp2_with fail
          go_ret
          exact ⟨ret_bool hv.out, rfl⟩
      · have d1 : decide (1 ≤ (s.size : Int)) = false := by simp; omega
        have hv := Lib.hid (show false = nameB s.data.toList by rw [hnb.out, decide_eq_false h1]; rfl)
        go_wp2_with fail
        go_ret
        exact ⟨ret_bool hv.out, rfl⟩
end Go.Proofs.YtjcbohbpkodkoaaGreatDoor

/- The contract of the iterator over the segments of a string. -/
namespace Go.Proofs.YtjcbohbpkodkoaaGreatDoor
open Go.RowKit Go.Shelf
attribute [local go_sem] Oper.semAt_some

/-- a segment: a list of bytes that is not too long -/
abbrev Seg := { x : List UInt8 // x.length < 4294967281 }
/-- the library's variable holds an integer -/
def ML (w : World) : Prop := ∃ m, w.cell? ⟨0, 0, none⟩ = some (.int .i64 m)
theorem ML.same {w w' : World} (h : ML w) (e : w'.heap[0]? = w.heap[0]?) : ML w' := by
  obtain ⟨m, hm⟩ := h
  exact ⟨m, by rw [World.cell?_of_block e]; exact hm⟩
theorem ML.lt {w : World} (h : ML w) : 0 < w.heap.size := by
  obtain ⟨m, hm⟩ := h
  exact block_lt_of_cell hm
theorem ML.below {w w' : World} (h : ML w) (hb : Below w.heap.size w w') : ML w' := h.same (hb.block 0 h.lt)
def boxLen (bs : Nat) (w : World) : Nat := match w.cell? ⟨bs, 0, none⟩ with
  | some (.string s) => s.size
  | _ => 0
theorem boxLen_eq {bs : Nat} {w : World} {s : ByteArray} (h : Boxed w bs 9 (.string s)) : boxLen bs w = s.size := by rw [boxLen, h.cell]
theorem grown_drewN (w : World) (n : Nat) (r : Option Nat) : w.grownBy (w.drewN n) r := ⟨rfl, rfl, rfl, Nat.le_refl _, fun _ _ _ => rfl⟩
set_option maxRecDepth 100000 in
set_option maxHeartbeats 2000000 in
theorem seg_stops (d bs : Nat) (l : List UInt8) (w : World) (hbox : Boxed w bs 9 (.string ⟨l.toArray⟩)) (hlen : l.length < 4294967281) (hm : ML w) (hbl : bs < w.heap.size) (hb0 : bs ≠ 0) :
    SeqBox Fence.wide d Tryz.prog 216 #[.pointer (some ⟨bs, 0, none⟩)] (fun x : Seg => #[.string ⟨x.1.toArray⟩]) bs (fun xs => xs.map (·.1) = segs l) (fun pre => pre.map (·.1) <+: segs l) (segs l).length w := by
  intro lp J Jx W hW hJ hJx hY h0
  have hboxW : Boxed W bs 9 (.string ⟨l.toArray⟩) := (hW.block bs hbl).trans hbox
  have hmW : ML W := hm.below hW
  refine callsIn_of_wp Tryz.func216 rfl trivial ?_ rfl
  simp only [Tryz.ntmps216, List.size_toArray, List.length_cons, List.length_nil, Nat.reduceAdd, Nat.reduceSub, Array.replicate_succ, Array.replicate_zero, List.push_toArray, List.append_toArray, List.nil_append, List.cons_append]
  gi_wp2
  gi_loopw [3, 4, 5] (fun _ _ _ wr => ∃ (pre : List Seg) (rest : List UInt8), Hid (segs l = pre.map (·.1) ++ segs rest) ∧ rest.length < 4294967281 ∧ Boxed wr bs 9 (.string ⟨rest.toArray⟩) ∧ ML wr ∧ J pre wr) (fun _ _ _ wr => boxLen bs wr)
  case atStart => exact ⟨[], l, rfl, hlen, hboxW, hmW, h0⟩
  case round =>
    obtain ⟨pre, rest, hseg, hrl, hbx, hml, hj⟩ := hrel
    have hcell := hbx.cell
    have hfr := hbx.frozen
    have hlt : pre.length < (segs l).length := by
      rw [hseg.out, List.length_append, List.length_map]
      have := List.length_pos_iff.2 (segs_ne rest)
      omega
    have hbxl := Lib.hid (boxLen_eq hbx)
    obtain ⟨m, hm0⟩ := hml
    rcases cut_dot rest with ⟨hno, hc, hs⟩ | ⟨a, b, hr, hno, hc, hs⟩
    · have hcut : CallsIn Fence.wide (d - 1) Tryz.prog 217 #[.string ⟨rest.toArray⟩, .string ⟨#[46]⟩] wr fun e W1 => e = .returned (.tuple #[.string ⟨rest.toArray⟩, .string ⟨#[]⟩, .bool false]) ∧
          YieldAt Fence.wide (d - 1) Tryz.prog lp #[.string ⟨rest.toArray⟩] W1 fun e A' => (e = .returned (.bool true) ∧ J (pre ++ [⟨rest, hrl⟩]) A') ∨ (e = .returned (.bool false) ∧ Jx (pre ++ [⟨rest, hrl⟩]) A') := by
        refine (callsIn_wide.2 (Tryz.strings_Cut ⟨rest.toArray⟩ ⟨#[46]⟩ m wr hrl hm0)).mono ?_
        rintro e W1 ⟨rfl, n, rfl⟩
        refine ⟨?_, YieldAt.mono (hY pre ⟨rest, hrl⟩ _ (hJ _ _ _ hj (grown_drewN wr n _)) hlt) ?_⟩
        · show Ending.returned (.tuple #[.string ⟨(Lib.cut rest [46]).1.toArray⟩, .string ⟨(Lib.cut rest [46]).2.1.toArray⟩, .bool (Lib.cut rest [46]).2.2]) = _
          rw [hc]
        · rintro e A' (⟨h1, h2, _⟩ | h)
          · exact .inl ⟨h1, h2⟩
          · exact .inr h
      have HS := Lib.hid hs
      clear hs hc hno hJ hJx hY hbox hboxW hmW hm hbx hj
      gi_wp2_with (first
        | (refine ⟨trivial, fun h => (by cases h), ?_⟩; refine hcut.mono ?_; clear hcut; rintro e W1 ⟨rfl, fn, tmps, assign, body, hy, hR⟩))
      refine ⟨fun h => (by cases h), ?_⟩
      refine hR.mono ?_
      clear hR
      rintro e W2 (⟨rfl, h1⟩ | ⟨rfl, h1⟩)
      · gi_wp2
        refine bodyPost_ret (results_none rfl _ _ _) rfl ?_
        exact ⟨⟨_, rfl⟩, .inl ⟨_, by rw [hseg.out, HS.out]; simp, h1⟩⟩
      · gi_wp2
        refine bodyPost_ret (results_none rfl _ _ _) rfl ?_
        exact ⟨⟨_, rfl⟩, .inr ⟨_, ⟨[], by rw [hseg.out, HS.out]; simp⟩, h1⟩⟩
    · have hal : a.length < 4294967281 := by rw [hr, List.length_append] at hrl; omega
      have hcut : CallsIn Fence.wide (d - 1) Tryz.prog 217 #[.string ⟨rest.toArray⟩, .string ⟨#[46]⟩] wr fun e W1 => e = .returned (.tuple #[.string ⟨a.toArray⟩, .string ⟨b.toArray⟩, .bool true]) ∧
          YieldAt Fence.wide (d - 1) Tryz.prog lp #[.string ⟨a.toArray⟩] W1 fun e A' => (e = .returned (.bool true) ∧ J (pre ++ [⟨a, hal⟩]) A' ∧ Boxed A' bs 9 (.string ⟨rest.toArray⟩) ∧ ML A') ∨ (e = .returned (.bool false) ∧ Jx (pre ++ [⟨a, hal⟩]) A') := by
        refine (callsIn_wide.2 (Tryz.strings_Cut ⟨rest.toArray⟩ ⟨#[46]⟩ m wr hrl hm0)).mono ?_
        rintro e W1 ⟨rfl, n, rfl⟩
        refine ⟨?_, YieldAt.mono (hY pre ⟨a, hal⟩ _ (hJ _ _ _ hj (grown_drewN wr n _)) hlt) ?_⟩
        · show Ending.returned (.tuple #[.string ⟨(Lib.cut rest [46]).1.toArray⟩, .string ⟨(Lib.cut rest [46]).2.1.toArray⟩, .bool (Lib.cut rest [46]).2.2]) = _
          rw [hc]
        · rintro e A' (⟨h1, h2, h3⟩ | h)
          · exact .inl ⟨h1, h2, h3.1.trans hbx, ML.same ⟨m, hm0⟩ h3.2⟩
          · exact .inr h
      have HS := Lib.hid hs
      have HJ := Lib.hid hJ
      have HR := Lib.hid (show b.length < rest.length by rw [hr, List.length_append, List.length_cons]; omega)
      clear hs hc hno hr hJ hJx hY hbox hboxW hmW hm hbx hj
      gi_wp2_with (first
        | (refine ⟨trivial, fun h => (by cases h), ?_⟩; refine hcut.mono ?_; clear hcut; rintro e W1 ⟨rfl, fn, tmps, assign, body, hy, hR⟩))
      refine ⟨fun h => (by cases h), ?_⟩
      refine hR.mono ?_
      clear hR
      rintro e W2 (⟨rfl, h1, h2, h3⟩ | ⟨rfl, h1⟩)
      · have hc2 := h2.cell
        have hf2 := h2.frozen
        gi_wp2
        go_roundw
        case rel =>
          exact ⟨pre ++ [⟨a, hal⟩], b, by show segs l = _; rw [hseg.out, HS.out]; simp, by have := HR.out; omega, h2.set _, h3.same ((grownBy_setCell' W2 bs _).block 0 h3.lt (fun e => hb0 (by cases e; rfl))), HJ.out _ _ _ h1 (grownBy_setCell' W2 bs _)⟩
        case measure => rw [boxLen_eq (h2.set _), hbxl.out]; exact HR.out
      · gi_wp2
        refine bodyPost_ret (results_none rfl _ _ _) rfl ?_
        exact ⟨⟨_, rfl⟩, .inr ⟨_, ⟨segs b, by rw [hseg.out, HS.out]; simp⟩, h1⟩⟩
end Go.Proofs.YtjcbohbpkodkoaaGreatDoor

/- Contracts of segments, formed (with Name), Check. -/
namespace Go.Proofs.YtjcbohbpkodkoaaGreatDoor
open Go.RowKit Go.Shelf
attribute [local go_sem] Oper.semAt_some

theorem segments_any (s : ByteArray) (w : World) : Calls Tryz.prog 196 #[.string s] w fun e w' => e = .returned (.func (.func 216) #[] #[.pointer (some ⟨w.heap.size, 0, none⟩)]) ∧ w' = w.alloc (.cells #[.string s] 9) := by
  go_enter Tryz.func196, Tryz.ntmps196
  go_wp2_with fail
  go_ret
  exact ⟨rfl, rfl⟩
/-- what the loop in formed keeps in memory -/
structure FI (w : World) (cv : Value) (k : Int) (W : World) : Prop where
  hc : Boxed W w.heap.size 24 cv
  hr : Boxed W (w.heap.size + 1) 4 (.bool false)
  hn : Boxed W (w.heap.size + 1 + 1) 3 (.int .i64 k)
  bel : Below w.heap.size w W
  sz : w.heap.size + 4 ≤ W.heap.size
theorem FI.grown {w W W' : World} {cv : Value} {k : Int} {row : Option Nat} (h : FI w cv k W) (hg : W.grownBy W' row) (hrow : ∀ r, row = some r → w.heap.size + 2 < r) : FI w cv k W' :=
  ⟨h.hc.kept hg (fun e => by have := hrow _ e.symm; omega), h.hr.kept hg (fun e => by have := hrow _ e.symm; omega), h.hn.kept hg (fun e => by have := hrow _ e.symm; omega), h.bel.grown hg h.bel.size (fun k e => by have := hrow k e; omega), Nat.le_trans h.sz hg.size⟩
theorem FI.below {w W W' : World} {cv : Value} {k : Int} (h : FI w cv k W) (hb : Below W.heap.size W W') : FI w cv k W' :=
  ⟨(hb.block _ h.hc.lt).trans h.hc, (hb.block _ h.hr.lt).trans h.hr, (hb.block _ h.hn.lt).trans h.hn, h.bel.trans (hb.mono h.bel.size), Nat.le_trans h.sz hb.size⟩
theorem FI.count {w W : World} {cv : Value} {k : Int} (h : FI w cv k W) (k' : Int) : FI w cv k' (W.setCell ⟨w.heap.size + 1 + 1, 0, none⟩ (.int .i64 k')) :=
  ⟨h.hc.other (by omega) _, h.hr.other (by omega) _, h.hn.set _, h.bel.setCell (p := ⟨w.heap.size + 1 + 1, 0, none⟩) (by simp; omega) _, by have := h.sz; simpa using this⟩
theorem keeps_of_below {W W' : World} (h : Below W.heap.size W W') : KeepsOthers W W' := ⟨h.size, fun k _ hk _ => (h.block k (Array.getElem?_eq_some_iff.1 hk).1).trans hk⟩
theorem two_of_below {bs : Nat} {W W' : World} (h : Below W.heap.size W W') (h1 : bs < W.heap.size) (h3 : 0 < W.heap.size) : Two bs W W' := ⟨h.block _ h1, h.block _ (by omega)⟩
theorem two_of_set {bs b : Nat} (W : World) (v : Value) (h1 : bs ≠ b) (h0 : b ≠ 0) : Two bs W (W.setCell ⟨b, 0, none⟩ v) := ⟨Below.heap_setCell _ _ _ _ h1, Below.heap_setCell _ _ _ _ (fun e => h0 e.symm)⟩

def codeB (l : List UInt8) : Bool := decide ((segs l).length ≤ 6) && (segs l).all nameB
set_option maxRecDepth 100000 in
set_option maxHeartbeats 2000000 in
theorem formed_name (d : Nat) (hd : 1 ≤ d) (s : ByteArray) (w : World) (hs : s.size < 4294967281) (hm : ML w) :
    CallsIn Fence.wide d Tryz.prog 168 #[.string s, .func (.func 105) #[] #[]] w fun e w' => e = .returned (.bool (codeB s.data.toList)) ∧ Below w.heap.size w w' := by
  refine callsIn_of_wp_marks Tryz.func168 rfl trivial ?_ rfl
  simp only [Tryz.ntmps168, List.size_toArray, List.length_cons, List.length_nil, Nat.reduceAdd, Nat.reduceSub, Array.replicate_succ, Array.replicate_zero, List.push_toArray, List.append_toArray, List.nil_append, List.cons_append]
  gi_wp2_with (refine ⟨trivial, ?_⟩; refine (callsIn_wide.2 (segments_any _ _)).mono ?_; rintro e w' ⟨rfl, rfl⟩)
  obtain ⟨l, hl⟩ : ∃ l, l = s.data.toList := ⟨_, rfl⟩
  have hsl : s = ⟨l.toArray⟩ := by rw [hl]
  have HL := Lib.hid hl
  have hlen : l.length < 4294967281 := by rw [hl]; exact hs
  have b0 := Boxed.new w 24 (.func (.func 105) #[] #[])
  have b1 := Boxed.new (w.alloc (.cells #[.func (.func 105) #[] #[]] 24)) 4 (.bool false)
  have b2 := Boxed.new ((w.alloc (.cells #[.func (.func 105) #[] #[]] 24)).alloc (.cells #[.bool false] 4)) 3 (.int .i64 0)
  have b3 := Boxed.new (((w.alloc (.cells #[.func (.func 105) #[] #[]] 24)).alloc (.cells #[.bool false] 4)).alloc (.cells #[.int .i64 0] 3)) 9 (.string s)
  simp only [World.size_alloc] at b1 b2 b3
  have hB0 : Below w.heap.size w ((((w.alloc (.cells #[.func (.func 105) #[] #[]] 24)).alloc (.cells #[.bool false] 4)).alloc (.cells #[.int .i64 0] 3)).alloc (.cells #[.string s] 9)) := ((((Below.refl _ w).alloc (Nat.le_refl _) _).alloc (by simp) _).alloc (by simp; omega) _).alloc (by simp; omega) _
  have hF0 : FI w (.func (.func 105) #[] #[]) 0 ((((w.alloc (.cells #[.func (.func 105) #[] #[]] 24)).alloc (.cells #[.bool false] 4)).alloc (.cells #[.int .i64 0] 3)).alloc (.cells #[.string s] 9)) := ⟨((b0.alloc _).alloc _).alloc _, (b1.alloc _).alloc _, b2.alloc _, hB0, by simp⟩
  have hsz : ((((w.alloc (.cells #[.func (.func 105) #[] #[]] 24)).alloc (.cells #[.bool false] 4)).alloc (.cells #[.int .i64 0] 3)).alloc (.cells #[.string s] 9)).heap.size = w.heap.size + 4 := by simp
  generalize ((((w.alloc (.cells #[.func (.func 105) #[] #[]] 24)).alloc (.cells #[.bool false] 4)).alloc (.cells #[.int .i64 0] 3)).alloc (.cells #[.string s] 9)) = W0 at *
  rw [hsl] at b3
  have HSL := Lib.hid hsl
  have HSZ := Lib.hid hsz
  have hW0 : w.heap.size + 4 ≤ W0.heap.size := by omega
  clear hl hsl hsz
  have hml := hm.below hB0
  have hwp := hm.lt
  refine range_box rfl hd (gf := 216) (lb := #[.pointer (some ⟨w.heap.size + 1 + 1 + 1, 0, none⟩)]) rfl trivial (enters_of Tryz.func216 (by kernel_rfl) rfl) (w.heap.size + 1 + 1 + 1) (by omega) (by omega)
    (seg_stops (d - 1) (w.heap.size + 1 + 1 + 1) l W0 b3 hlen hml (by omega) (by omega)) (fun _ => rfl)
    (fun pre W => (pre.length ≤ 6 ∧ (pre.map (·.1)).all nameB = true) ∧ FI w (.func (.func 105) #[] #[]) pre.length W)
    (fun pre W => (6 < pre.length ∨ (pre.map (·.1)).all nameB = false) ∧ ∃ k, FI w (.func (.func 105) #[] #[]) k W)
    (fun s A B row hs hg hr => ⟨hs.1, hs.2.grown hg (fun r e => by have := (hr r e).1; omega)⟩)
    (fun s A B row hs hg hr => ⟨hs.1, hs.2.imp fun k hk => hk.grown hg (fun r e => by have := (hr r e).1; omega)⟩)
    (fun s A B hs hg => ⟨hs.1, hs.2.grown hg (fun r e => by cases e; omega)⟩)
    (fun s A B hs hg => ⟨hs.1, hs.2.imp fun k hk => hk.grown hg (fun r e => by cases e; omega)⟩)
    ⟨⟨by simp, rfl⟩, hF0⟩
    (fun x => { tmps := #[.string s, .func (.func 105) #[] #[], undef, .pointer (some ⟨w.heap.size, 0, none⟩), .pointer (some ⟨w.heap.size + 1, 0, none⟩), .pointer (some ⟨w.heap.size + 1 + 1, 0, none⟩), .string ⟨x.1.toArray⟩, .string s, .func (.func 216) #[] #[.pointer (some ⟨w.heap.size + 1 + 1 + 1, 0, none⟩)], .string ⟨x.1.toArray⟩, undef, undef, undef, undef, undef, undef, undef, undef, undef, undef], defers := [] }) ?assign ?body ?done ?stop
  case assign =>
    intro l x W K hK
    gi_wp2
    exact hK
  case body =>
    rintro lp pre x W ⟨⟨hp6, hpa⟩, hF⟩ _
    have c0 := hF.hc.cell
    have c2 := hF.hn.cell
    have f2 := hF.hn.frozen
    have c1 := hF.hr.cell
    have f1 := hF.hr.frozen
    have hF2 := hF.count ((pre.length : Int) + 1)
    have HPA := Lib.hid hpa
    have hw := hF.hn.lt
    have hsz4 := hF.sz
    have hall : ((pre ++ [x]).map (·.1)).all nameB = nameB x.1 := by rw [List.map_append, List.all_append, hpa]; simp
    have HALL := Lib.hid hall
    clear hpa hall b0 b1 b2 b3 hF0 hB0
    by_cases h6 : 6 < (pre.length : Int) + 1
    · gi_wp2
      refine ⟨fun _ h => (by cases h), ?_⟩
      gi_wp2
      refine ⟨((KeepsOthers.setCell _ _ _).trans (KeepsOthers.setCell _ _ _)).from _, .inl (by simp; omega), (pre.length : Int) + 1, ?_⟩
      exact ⟨hF2.hc.other (by omega) _, hF2.hr.set _, hF2.hn.other (by omega) _, hF2.bel.setCell (p := ⟨w.heap.size + 1, 0, none⟩) (by simp) _, by have := hF2.sz; simpa using this⟩
    · have hname : ∀ W, CallsIn (Fence.wide.inRound lp) (d - 1 - 1 - 1) Tryz.prog 105 #[.string ⟨x.1.toArray⟩] W fun e w' => e = .returned (.bool (nameB x.1)) ∧ Below W.heap.size W w' := fun W =>
        CallsIn.inRound lp (callsIn_wide.2 (name_any ⟨x.1.toArray⟩ W (by have := x.2; unfold maxLen; show x.1.length ≤ _; omega)))
      have HN := Lib.hid hname
      clear hname
      cases hnx : nameB x.1
      · gi_wp2_with (refine ⟨trivial, fun h => (by cases h), ?_⟩; refine (HN.out _).mono ?_; rintro e W3 ⟨rfl, hb3⟩; rw [hnx]; have hF3 := hF2.below hb3; have hb3c := hF3.hr.cell; have hb3f := hF3.hr.frozen)
        refine ⟨(((KeepsOthers.setCell _ _ _).trans (keeps_of_below hb3)).trans (KeepsOthers.setCell _ _ _)).from _, .inr (by rw [HALL.out, hnx]), (pre.length : Int) + 1, ?_⟩
        exact ⟨hF3.hc.other (by omega) _, hF3.hr.set _, hF3.hn.other (by omega) _, hF3.bel.setCell (p := ⟨w.heap.size + 1, 0, none⟩) (by simp) _, by have := hF3.sz; simpa using this⟩
      · gi_wp2_with (refine ⟨trivial, fun h => (by cases h), ?_⟩; refine (HN.out _).mono ?_; rintro e W3 ⟨rfl, hb3⟩; rw [hnx])
        have hF3 := hF2.below hb3
        refine ⟨((KeepsOthers.setCell _ _ _).trans (keeps_of_below hb3)).from _, (two_of_set W _ (by omega) (by omega)).trans (two_of_below hb3 (by have := hF2.sz; omega) (by have := hF2.sz; omega)), ⟨by simp; omega, by rw [HALL.out, hnx]⟩, ?_⟩
        have e : ((pre ++ [x]).length : Int) = (pre.length : Int) + 1 := by simp
        rw [e]
        exact hF3
  case done =>
    rintro D ys W hD hys ⟨⟨h6, hall⟩, hF⟩ hK
    have hcode := Lib.hid (show codeB s.data.toList = true by
      rw [← HL.out, codeB, ← hys, hall, List.length_map, decide_eq_true h6]; rfl)
    have c1 := hF.hr.cell
    have f1 := hF.hr.frozen
    clear b0 b1 b2 b3 hF0 hB0 hys hall
    gi_wp2
    have hK' := (KeepsOthers.setCell W ⟨w.heap.size + 1, 0, none⟩ (.bool true)).same D _ hK rfl
    refine ⟨by simp, .inl ⟨_, _, rfl, run_takeDeferred hK', ?_⟩⟩
    have hc5 := cell_kept (World.cell?_setCell_same' W ⟨w.heap.size + 1, 0, none⟩ (.bool true) (by rw [c1]; rfl)) (grownBy_putObj' _ D (.deferred none)) (fun r e => by cases e; exact ⟨_, hK', rfl⟩)
    refine ⟨.bool true, ?_, by rw [hcode.out], (hF.bel.setCell (p := ⟨w.heap.size + 1, 0, none⟩) (by simp) _).trans (belowK_b (w := w) (Nat.le_refl _) _ D _ _ (by omega) hK' rfl rfl)⟩
    simp [results, Tryz.f168, go_sem, hc5]
  case stop =>
    rintro D pre W hD hpre ⟨hbad, k, hF⟩ hK
    have hcode := Lib.hid (show codeB s.data.toList = false by
      obtain ⟨r, hr⟩ := hpre
      rw [← HL.out, codeB, ← hr]
      rcases hbad with h | h
      · rw [decide_eq_false (by rw [List.length_append, List.length_map]; omega)]; rfl
      · rw [List.all_append, h]; simp)
    have c1 := hF.hr.cell
    clear b0 b1 b2 b3 hF0 hB0 hpre
    gi_wp2
    refine ⟨by simp, .inl ⟨_, _, rfl, run_takeDeferred hK, ?_⟩⟩
    have hc5 := cell_kept c1 (grownBy_putObj' _ D (.deferred none)) (fun r e => by cases e; exact ⟨_, hK, rfl⟩)
    refine ⟨.bool false, ?_, by rw [hcode.out], hF.bel.trans (belowK_b (w := w) (Nat.le_refl _) W D _ _ (by omega) hK rfl rfl)⟩
    simp [results, Tryz.f168, go_sem, hc5]
theorem formed_any (s : ByteArray) (w : World) (hs : s.size < 4294967281) (hm : ML w) :
    Calls Tryz.prog 168 #[.string s, .func (.func 105) #[] #[]] w fun e w' => e = .returned (.bool (codeB s.data.toList)) ∧ Below w.heap.size w w' := (callsIn_wide (n := 3)).1 (formed_name 3 (by omega) s w hs hm)
def chkA (l : List UInt8) : Int := if codeB l then 0 else 3
theorem AccCheck_any (s : ByteArray) (w : World) (hs : s.size < 4294967281) (hm : ML w) : Calls Tryz.prog 131 #[.string s] w fun e w' => e = .returned (.int .i64 (chkA s.data.toList)) ∧ Below w.heap.size w w' := by
  have hc := Lib.hid (show chkA s.data.toList = if codeB s.data.toList then 0 else 3 from rfl)
  have hf := Lib.hid (formed_any s w hs hm)
  generalize chkA s.data.toList = c at *
  cases hb : codeB s.data.toList
  · go_enter Tryz.func131, Tryz.ntmps131
    go_wp2_with fail
    refine hf.out.mono ?_
    rintro e w1 ⟨rfl, hb1⟩
    rw [hb]
    go_wp2_with fail
    go_ret
    exact ⟨by rw [hc.out, hb]; rfl, hb1⟩
  · go_enter Tryz.func131, Tryz.ntmps131
    go_wp2_with fail
    refine hf.out.mono ?_
    rintro e w1 ⟨rfl, hb1⟩
    rw [hb]
    go_wp2_with fail
    go_ret
    exact ⟨by rw [hc.out, hb]; rfl, hb1⟩
end Go.Proofs.YtjcbohbpkodkoaaGreatDoor

/- Contracts of money.isCode, money.Check at no money, money.both and money.Put at one money of amount 0. -/
namespace Go.Proofs.YtjcbohbpkodkoaaGreatDoor
open Go.RowKit Go.Shelf
attribute [local go_sem] Oper.semAt_some

def upC (c : UInt8) : Bool := decide (65 ≤ c.toNat ∧ c.toNat ≤ 90)
/-- a code of a currency -/
def curB (l : List UInt8) : Bool := l.all upC && decide (l.length = 3)
theorem zones3 (z : Nat) : z < 65 ∨ (65 ≤ z ∧ z ≤ 90) ∨ 90 < z := by omega
theorem allp_take_succ (p : UInt8 → Bool) (l : List UInt8) (k : Nat) (h : k < l.length) : (l.take (k + 1)).all p = ((l.take k).all p && p (l.getD k 0)) := by
  rw [List.take_succ_eq_append_getElem h, List.all_append, List.getD_eq_getElem?_getD, List.getElem?_eq_getElem h]
  simp
theorem notp_all {p : UInt8 → Bool} {l : List UInt8} {k : Nat} (h : k < l.length) (hc : p (l.getD k 0) = false) : l.all p = false := by
  rw [List.all_eq_false]
  refine ⟨l.getD k 0, ?_, by rw [hc]; simp⟩
  rw [List.getD_eq_getElem?_getD, List.getElem?_eq_getElem h]
  exact List.getElem_mem h
set_option maxHeartbeats 1000000 in
set_option maxRecDepth 100000 in
theorem isCode_any (s : ByteArray) (w : World) (hs : s.size ≤ maxLen) : Calls Tryz.prog 166 #[.string s] w fun e w' => e = .returned (.bool (curB s.data.toList)) ∧ w = w' := by
  unfold maxLen at hs
  have hl : s.data.toList.length = s.size := rfl
  have hnb := Lib.hid (show curB s.data.toList = (s.data.toList.all upC && decide (s.size = 3)) from rfl)
  have HL := Lib.hid hl
  clear hl
  have hget : ∀ k (h : k < s.size), s.data.toList.getD k 0 = s[k] := fun k h => by rw [List.getD_eq_getElem?_getD, List.getElem?_eq_getElem (by simpa using h)]; rfl
  have HG := Lib.hid hget
  clear hget
  go_enter Tryz.func166, Tryz.ntmps166
  go_wp2_with fail
  go_loop [6] (fun i => ∃ k : Nat, k ≤ s.size ∧ i = .int .i64 (k : Int) ∧ Hid ((s.data.toList.take k).all upC = true)) (fun i => s.size - (intOf i).toNat)
  case atStart => exact ⟨0, by omega, rfl, rfl⟩
  case round =>
    obtain ⟨k, hk, rfl, HA⟩ := hrel
    by_cases hlt : k < s.size
    · have hal := Lib.hid (allp_take_succ upC s.data.toList k (by rw [HL.out]; exact hlt))
      have hno := Lib.hid (fun h => notp_all (p := upC) (l := s.data.toList) (k := k) (by rw [HL.out]; exact hlt) h)
      have hnc := Lib.hid (show upC (s.data.toList.getD k 0) = decide (65 ≤ (s[k]).toNat ∧ (s[k]).toNat ≤ 90) by rw [HG.out k hlt]; rfl)
      have hzz := zones3 s[k].toNat
      generalize upC (s.data.toList.getD k 0) = nc at *
      have hki : (k : Int) < (s.size : Int) := by omega
      rcases hzz with hz | hz | hz
      · have t1 : decide ((s[k].toNat : Int) < 65) = true := by rw [decide_eq_true_iff]; omega
        have hncv := Lib.hid (show nc = false by rw [hnc.out, decide_eq_false_iff_not]; omega)
        clear hz
        go_wp2_with fail
        go_ret
        exact ⟨ret_bool (by rw [hnb.out, hno.out hncv.out, Bool.false_and]), rfl⟩
      · have t1 : decide ((s[k].toNat : Int) < 65) = false := by rw [decide_eq_false_iff_not]; omega
        have t2 : decide (90 < (s[k].toNat : Int)) = false := by rw [decide_eq_false_iff_not]; omega
        have hncv := Lib.hid (show nc = true by rw [hnc.out, decide_eq_true_iff]; omega)
        clear hz
        go_wp2_with fail
        go_round
        case rel => exact ⟨k + 1, by omega, by go_num, by show _ = _; rw [hal.out, HA.out, hncv.out]; rfl⟩
        case measure => simp [intOf]; omega
      · have t1 : decide ((s[k].toNat : Int) < 65) = false := by rw [decide_eq_false_iff_not]; omega
        have t2 : decide (90 < (s[k].toNat : Int)) = true := by rw [decide_eq_true_iff]; omega
        have hncv := Lib.hid (show nc = false by rw [hnc.out, decide_eq_false_iff_not]; omega)
        clear hz
        go_wp2_with fail
        go_ret
        exact ⟨ret_bool (by rw [hnb.out, hno.out hncv.out, Bool.false_and]), rfl⟩
    · have hfin := Lib.hid (show s.data.toList.all upC = true by
        have := HA.out
        rwa [List.take_of_length_le (by rw [HL.out]; omega)] at this)
      by_cases h1 : s.size = 3
      · have d1 : ((s.size : Int) == 3) = true := by rw [beq_iff_eq]; omega
        have hv := Lib.hid (show true = curB s.data.toList by rw [hnb.out, hfin.out, decide_eq_true h1]; rfl)
        clear h1
        go_wp2_with fail
        go_ret
        exact ⟨ret_bool hv.out, rfl⟩
      · have d1 : ((s.size : Int) == 3) = false := beq_eq_false_iff_ne.2 (by omega)
        have hv := Lib.hid (show false = curB s.data.toList by rw [hnb.out, decide_eq_false h1]; simp)
        clear h1
        go_wp2_with fail
        go_ret
        exact ⟨ret_bool hv.out, rfl⟩
theorem MCheck_nil (w : World) : Calls Tryz.prog 165 #[.slice none 0 0] w fun e w' => e = .returned (.int .i64 0) ∧ w = w' := by
  go_enter Tryz.func165, Tryz.ntmps165
  go_wp2_with fail
  go_loop [10] (fun i => i = .int .i64 0) (fun _ => 0)
  case atStart => rfl
  case round =>
    subst hrel
    go_wp2_with fail
    go_ret
    exact ⟨rfl, rfl⟩
theorem both_any (B : Option Addr) (p d : Nat) (w : World) : Calls Tryz.prog 195 #[.slice none 0 0, .slice B p d] w fun e w' => e = .returned (.func (.func 215) #[] #[.pointer (some ⟨w.heap.size, 0, none⟩), .pointer (some ⟨w.heap.size + 1, 0, none⟩)]) ∧ w' = (w.alloc (.cells #[.slice none 0 0] 167)).alloc (.cells #[.slice B p d] 167) := by
  go_enter Tryz.func195, Tryz.ntmps195
  go_wp2_with fail
  go_ret
  exact ⟨rfl, rfl⟩
end Go.Proofs.YtjcbohbpkodkoaaGreatDoor

/- As in Box, a further block of the caller's choosing lies as it lay. A range over an iterator that keeps what is left in a captured cell: the iterator writes block bs between two rounds. -/
namespace Go.Proofs.YtjcbohbpkodkoaaGreatDoor
open Go.RowKit Go.Shelf

/-- the iterator's block, and block 0 (a variable of the library's), lie as they lay -/
def TwoC (c bs : Nat) (W W' : World) : Prop := W'.heap[bs]? = W.heap[bs]? ∧ W'.heap[c]? = W.heap[c]?
theorem TwoC.trans {c bs : Nat} {A B C : World} (h : TwoC c bs A B) (k : TwoC c bs B C) : TwoC c bs A C := ⟨k.1.trans h.1, k.2.trans h.2⟩
/-- how a round of the loop may end: it goes on, or it returns -/
def BoxEndC {α : Type} (c B bs : Nat) (I Ix : List α → World → Prop) (xs : List α) (W : World) : Exit → Act → World → Prop
  | .normal, _, W' => KeepsFrom B W W' ∧ TwoC c bs W W' ∧ I xs W'
  | .ret, _, W' => KeepsFrom B W W' ∧ Ix xs W'
  | _, _, _ => False

/-- the iterator's contract: of J it asks that it abides new blocks and writes to block bs -/
def SeqBoxC {α : Type} (c : Nat) (F : Fence) (n : Nat) (P : Program) (g : Nat) (lb : Array Value) (encs : α → Array Value) (bs : Nat) (S Sp : List α → Prop) (N : Nat) (w : World) : Prop :=
  ∀ (l : Nat) (J Jx : List α → World → Prop) (W : World), Below w.heap.size w W → (∀ s A B, J s A → A.grownBy B (some bs) → J s B) → (∀ s A B, Jx s A → A.grownBy B (some bs) → Jx s B) →
    (∀ pre x A, J pre A → pre.length < N → YieldAt F (n - 1) P l (encs x) A fun e A' => (e = .returned (.bool true) ∧ J (pre ++ [x]) A' ∧ TwoC c bs A A') ∨ (e = .returned (.bool false) ∧ Jx (pre ++ [x]) A')) →
    J [] W → CallsIn F n P g (#[.func (.yield l) #[] #[]] ++ lb) W fun e W' => (∃ v, e = .returned v) ∧ ((∃ xs, S xs ∧ J xs W') ∨ (∃ pre, Sp pre ∧ Jx pre W'))

theorem range_boxC (c : Nat) {F : Fence} {n : Nat} {P : Program} {α : Type} {g : Operand} {ps : Array Tmp} {assign body : Code} {Q : Exit → Act → World → Prop} {a : Act} {w : World}
    (hro : F.round = none) (h1 : 1 ≤ n) {gf : Nat} {lb : Array Value} (hg : a.eval g = .func (.func gf) #[] lb) (hFg : F.fn gf) (eg : ∀ args w, (callFunc gf args).run P w = .ok (.enter gf args) w)
    {encs : α → Array Value} (bs : Nat) (hbs : bs < w.heap.size) (h3w : c < w.heap.size) {S Sp : List α → Prop} {N : Nat} (hseq : SeqBoxC c F (n - 1) P gf lb encs bs S Sp N w) (hps : ∀ x, (encs x).size = ps.size)
    (I Ix : List α → World → Prop) (hI : OwnFrom w.heap.size I) (hIx : OwnFrom w.heap.size Ix) (hIb : ∀ s A B, I s A → A.grownBy B (some bs) → I s B) (hIxb : ∀ s A B, Ix s A → A.grownBy B (some bs) → Ix s B) (h0 : I [] w) (a₁ : α → Act)
    (hassign : ∀ (l : Nat) (x : α) (W : World) (K : Act → World → Prop), K (a₁ x) W →
      assign.wpIn (F.inRound l) (n - 1 - 1) P (Exit.then K (fun _ _ _ => False)) { tmps := (ps.zip (encs x)).foldl (fun t (p, v) => t.setIfInBounds p v) a.tmps, defers := [] } W)
    (hbody : ∀ (l : Nat) (pre : List α) (x : α) (W : World), I pre W → pre.length < N → body.wpIn (F.inRound l) (n - 1 - 1) P (BoxEndC c w.heap.size bs I Ix (pre ++ [x]) W) (a₁ x) W)
    (hdone : ∀ (D : Nat) (xs : List α) (W : World), w.heap.size ≤ D → S xs → I xs W → W.heap[D]? = some (.deferred (some [])) → Q .normal { a with defers := { target := .collected D, args := #[] } :: a.defers } W)
    (hstop : ∀ (D : Nat) (pre : List α) (W : World), w.heap.size ≤ D → Sp pre → Ix pre W → W.heap[D]? = some (.deferred (some [])) → Code.ret.wpIn F n P Q { a with defers := { target := .collected D, args := #[] } :: a.defers } W) :
    (Code.rangeFunc g ps assign body).wpIn F n P Q a w := by
  refine wpIn_rangeFunc fun fn hfn => ?_
  rw [hro]
  let rc : LoopState → Option Code → Loop := fun st pe => { state := st, pending := pe, fn, tmps := a.tmps, params := ps, assign, body, defers := w.heap.size }
  have hrc : ∀ st pe, rc st pe = { state := st, pending := pe, fn, tmps := a.tmps, params := ps, assign, body, defers := w.heap.size } := fun _ _ => rfl
  obtain ⟨W1, hW1⟩ : ∃ W1, (w.alloc (.deferred (some []))).alloc (.loop (rc .ready none)) = W1 := ⟨_, rfl⟩
  -- the two blocks of the book-keeping
  have hD1 : W1.heap[w.heap.size]? = some (.deferred (some [])) := by
    rw [← hW1]; exact (Below.heap_alloc _ _ _ (by simp)).trans (World.alloc_heap_new w _)
  have hL1 : W1.heap[w.heap.size + 1]? = some (.loop (rc .ready none)) := by
    have h := World.alloc_heap_new (w.alloc (.deferred (some []))) (.loop (rc .ready none))
    rw [World.size_alloc] at h
    rw [← hW1]; exact h
  have hI1 : I [] W1 := by rw [← hW1]; exact hI.alloc _ (hI.alloc _ h0)
  have hb1 : Below w.heap.size w W1 := by rw [← hW1]; exact ((Below.refl _ w).alloc (Nat.le_refl _) _).alloc (by simp) _
  refine ⟨w.heap.size + 1, [{ target := .collected w.heap.size, args := #[] }], W1, { target := .fn (.func gf) lb, args := #[.func (.yield (w.heap.size + 1)) #[] #[]] }, W1, gf,
    #[.func (.yield (w.heap.size + 1)) #[] #[]] ++ lb, W1, ?_, ?_, ?_, ?_, fun _ => h1, ?_⟩
  · rw [← hW1]; exact run_enterLoop_outer _ _ _ _ _
  · simp only [resolve, hg]
    simp [go_sem]
  · intro f' hf'; simp [Target.leads] at hf'; subst hf'; exact hFg
  · simp [invoke, go_sem, eg]
  have keeps : ∀ {A B : World} {k : Nat} {o : Obj}, A.grownBy B (some bs) → w.heap.size ≤ k → A.heap[k]? = some o → B.heap[k]? = some o := fun hgr hk ho =>
    (hgr.block _ (Array.getElem?_eq_some_iff.1 ho).1 (fun e => by cases e; omega)).trans ho
  refine (hseq (w.heap.size + 1)
    (fun pre W => I pre W ∧ W.heap[w.heap.size + 1]? = some (.loop (rc .ready none)) ∧ W.heap[w.heap.size]? = some (.deferred (some [])))
    (fun pre W => Ix pre W ∧ W.heap[w.heap.size + 1]? = some (.loop (rc .done (some .ret))) ∧ W.heap[w.heap.size]? = some (.deferred (some [])))
    W1 hb1 (fun s A B hs hgr => ⟨hIb s A B hs.1 hgr, keeps hgr (by omega) hs.2.1, keeps hgr (Nat.le_refl _) hs.2.2⟩)
    (fun s A B hs hgr => ⟨hIxb s A B hs.1 hgr, keeps hgr (by omega) hs.2.1, keeps hgr (Nat.le_refl _) hs.2.2⟩) ?_ ⟨hI1, hL1, hD1⟩).mono ?_
  · -- a round
    rintro pre x W ⟨hi, hl, hk⟩ hlen
    have hlt : w.heap.size + 1 < W.heap.size := (Array.getElem?_eq_some_iff.1 hl).1
    refine ⟨fn, _, assign, body, run_yield (P := P) (args := encs x) hl (hps x), roundIn_of_wpIn hfn (hassign _ x W _ ⟨_, run_beginRound hl rfl, ?_⟩)⟩
    have hl2 : (W.putObj (w.heap.size + 1) (.loop { rc .ready none with state := .busy })).heap[w.heap.size + 1]? = some (.loop { rc .ready none with state := .busy }) := World.putObj_heap_same hlt
    have hk2 : (W.putObj (w.heap.size + 1) (.loop { rc .ready none with state := .busy })).heap[w.heap.size]? = some (.deferred (some [])) := (World.putObj_heap_other (by omega)).trans hk
    have hx2 : TwoC c bs W (W.putObj (w.heap.size + 1) (.loop { rc .ready none with state := .busy })) := ⟨World.putObj_heap_other (by omega), World.putObj_heap_other (by omega)⟩
    refine wpIn_mono (hbody _ pre x _ (hI.putObj _ hi (by omega) hl rfl) hlen) ?_
    rintro e a3 W3 hp
    cases e with
    | normal =>
      obtain ⟨hk3, hkp3, hi3⟩ := hp
      have hl3 := hk3.same _ _ (by omega) hl2 rfl
      exact ⟨_, _, run_endRound (P := P) none hl3, .inl ⟨rfl, ⟨hI.putObj _ hi3 (by omega) hl3 rfl, World.putObj_heap_same (Array.getElem?_eq_some_iff.1 hl3).1, (World.putObj_heap_other (by omega)).trans (hk3.same _ _ (Nat.le_refl _) hk2 rfl)⟩,
        (hx2.trans hkp3).trans ⟨World.putObj_heap_other (by omega), World.putObj_heap_other (by omega)⟩⟩⟩
    | ret =>
      obtain ⟨hk3, hi3⟩ := hp
      have hl3 := hk3.same _ _ (by omega) hl2 rfl
      exact ⟨_, _, run_endRound (P := P) (some .ret) hl3, .inr ⟨rfl, hIx.putObj _ hi3 (by omega) hl3 rfl, World.putObj_heap_same (Array.getElem?_eq_some_iff.1 hl3).1, (World.putObj_heap_other (by omega)).trans (hk3.same _ _ (Nat.le_refl _) hk2 rfl)⟩⟩
    | exit id => exact hp.elim
    | goto t => exact hp.elim
    | panic ch => exact hp.elim
    | outgrown => exact hp.elim
  · -- behind the iterator
    rintro e W2 ⟨⟨v, rfl⟩, (⟨xs, hS, hi, hl, hk⟩ | ⟨pre, hSp, hi, hl, hk⟩)⟩
    · exact ⟨none, _, run_endLoop (P := P) hl (by simp [hrc]), hdone _ xs _ (Nat.le_refl _) hS (hI.putObj _ hi (by omega) hl rfl) ((World.putObj_heap_other (by omega)).trans hk)⟩
    · exact ⟨some .ret, _, run_endLoop (P := P) hl (by simp [hrc]), hstop _ pre _ (Nat.le_refl _) hSp (hIx.putObj _ hi (by omega) hl rfl) ((World.putObj_heap_other (by omega)).trans hk)⟩
end Go.Proofs.YtjcbohbpkodkoaaGreatDoor

/- The contract of the iterator over two bags, of which the first one is empty and the second one has one money of amount 0. -/
namespace Go.Proofs.YtjcbohbpkodkoaaGreatDoor
open Go.RowKit Go.Shelf
attribute [local go_sem] Oper.semAt_some

def bagLen (bb : Nat) (w : World) : Nat := match w.cell? ⟨bb, 0, none⟩ with
  | some (.slice _ n _) => n
  | _ => 0
theorem grown_set (W : World) (b o : Nat) (v : Value) : W.grownBy (W.setCell ⟨b, o, none⟩ v) (some b) := ⟨rfl, rfl, rfl, by simp, fun k _ hk => Below.heap_setCell _ _ _ _ (fun e => hk (by rw [e]))⟩
theorem grown_both (w : World) (o : Obj) (n bb : Nat) (x y : Value) : w.grownBy ((((w.alloc o).drewN n).setCell ⟨w.heap.size, 1, none⟩ x).setCell ⟨bb, 0, none⟩ y) (some bb) :=
  (((World.grownBy_alloc w o (some bb)).trans (grown_drewN _ n _)).andThen (grown_set _ w.heap.size 1 x) (fun j e => .inl (by cases e; exact Nat.le_refl _))).andThen (grown_set _ bb 0 y) (fun j e => .inr (by cases e; rfl))
set_option maxRecDepth 100000 in
set_option maxHeartbeats 4000000 in
theorem both_stops (d ba bb bm : Nat) (l : List UInt8) (w : World) (ha : Boxed w ba 167 (.slice none 0 0)) (hb : Boxed w bb 167 (.slice (some ⟨bm, 0, none⟩) 1 1))
    (m0 : w.cell? ⟨bm, 0, none⟩ = some (.string ⟨l.toArray⟩)) (m1 : w.cell? ⟨bm, 1, none⟩ = some (.string ⟨#[]⟩)) (hab : ba ≠ bb) (hbm : bm ≠ bb) (lm : bm < w.heap.size) :
    SeqBoxC ba Fence.wide d Tryz.prog 215 #[.pointer (some ⟨ba, 0, none⟩), .pointer (some ⟨bb, 0, none⟩)] (fun _ : Unit => #[.string ⟨l.toArray⟩, (.agg #[.string ⟨#[]⟩, .string ⟨#[]⟩])]) bb (fun xs => xs = [()]) (fun _ => True) 1 w := by
  intro lp J Jx W hW hJ hJx hY h0
  have la := ha.lt
  have lb := hb.lt
  have haW : Boxed W ba 167 (.slice none 0 0) := (hW.block ba la).trans ha
  have hbW : Boxed W bb 167 (.slice (some ⟨bm, 0, none⟩) 1 1) := (hW.block bb lb).trans hb
  have m0W : W.cell? ⟨bm, 0, none⟩ = some (.string ⟨l.toArray⟩) := (hW.cell (p := ⟨bm, 0, none⟩) lm).trans m0
  have m1W : W.cell? ⟨bm, 1, none⟩ = some (.string ⟨#[]⟩) := (hW.cell (p := ⟨bm, 1, none⟩) lm).trans m1
  refine callsIn_of_wp Tryz.func215 rfl trivial ?_ rfl
  simp only [Tryz.ntmps215, List.size_toArray, List.length_cons, List.length_nil, Nat.reduceAdd, Nat.reduceSub, Array.replicate_succ, Array.replicate_zero, List.push_toArray, List.append_toArray, List.nil_append, List.cons_append]
  gi_wp2
  gi_loopw [4, 5] (fun _ _ wr => (Boxed wr bb 167 (.slice (some ⟨bm, 0, none⟩) 1 1) ∧ Boxed wr ba 167 (.slice none 0 0) ∧ wr.cell? ⟨bm, 0, none⟩ = some (.string ⟨l.toArray⟩) ∧ wr.cell? ⟨bm, 1, none⟩ = some (.string ⟨#[]⟩) ∧ J [] wr) ∨ (Boxed wr bb 167 (.slice (some ⟨bm, 0, none⟩) 0 0) ∧ Boxed wr ba 167 (.slice none 0 0) ∧ J [()] wr)) (fun _ _ wr => bagLen bb wr)
  case atStart => exact .inl ⟨hbW, haW, m0W, m1W, h0⟩
  case round =>
    rcases hrel with ⟨hbx, hax, c0, c1, hj⟩ | ⟨hbx, hax, hj⟩
    · have cb := hbx.cell
      have fb := hbx.frozen
      have ca := hax.cell
      have HY := Lib.hid hY
      have HJ := Lib.hid hJ
      have HX := Lib.hid hJx
      clear hY hJ hJx
      have hlt := hbx.lt
      have hbx2 := hbx.alloc (.cells #[.string ⟨#[]⟩, .string ⟨#[]⟩] 235)
      have hax2 := hax.alloc (.cells #[.string ⟨#[]⟩, .string ⟨#[]⟩] 235)
      have hal : Below wr.heap.size wr (wr.alloc (.cells #[.string ⟨#[]⟩, .string ⟨#[]⟩] 235)) := (Below.refl _ _).alloc (Nat.le_refl _) _
      have e0 := (hal.cell (p := ⟨bm, 0, none⟩) (block_lt_of_cell c0)).trans c0
      have e1 := (hal.cell (p := ⟨bm, 1, none⟩) (block_lt_of_cell c1)).trans c1
      have n1 : (wr.alloc (.cells #[.string ⟨#[]⟩, .string ⟨#[]⟩] 235)).cell? ⟨wr.heap.size, 1, none⟩ = some (.string ⟨#[]⟩) := by go_simp
      have n0 : (wr.alloc (.cells #[.string ⟨#[]⟩, .string ⟨#[]⟩] 235)).cell? ⟨wr.heap.size, 0, none⟩ = some (.string ⟨#[]⟩) := by go_simp
      have k1 : (wr.alloc (.cells #[.string ⟨#[]⟩, .string ⟨#[]⟩] 235)).frozen? ⟨wr.heap.size, 1, none⟩ = false := by go_simp
      have hnb := heap_alloc_new wr (.cells #[.string ⟨#[]⟩, .string ⟨#[]⟩] 235)
      have cb2 := hbx2.cell
      have fb2 := hbx2.frozen
      have ca2 := hax2.cell
      have HB2 := Lib.hid hbx2
      have HA2 := Lib.hid hax2
      have HN := Lib.hid hnb
      have HG := Lib.hid (fun n x y => grown_both wr (.cells #[.string ⟨#[]⟩, .string ⟨#[]⟩] 235) n bb x y)
      have HAL := Lib.hid hal
      have hne1 : wr.heap.size ≠ bb := by omega
      have hne2 : bb ≠ wr.heap.size := by omega
      clear hnb hbx2 hax2 hal c0 c1 fb
      gi_wp2
      clear ca cb
      generalize wr.alloc (.cells #[.string ⟨#[]⟩, .string ⟨#[]⟩] 235) = W2 at *
      gi_quiet (fail)
      gi_wp2
      gi_region
      have hgr := HG.out (nq + 1) (.string ⟨#[]⟩) (.slice (some ⟨bm, 0, none⟩) 0 0)
      have hbY : Boxed (((W2.drewN (nq + 1)).setCell ⟨wr.heap.size, 1, none⟩ (.string ⟨#[]⟩)).setCell ⟨bb, 0, none⟩ (.slice (some ⟨bm, 0, none⟩) 0 0)) bb 167 (.slice (some ⟨bm, 0, none⟩) 0 0) :=
        Boxed.set _ (Boxed.kept (W := W2.drewN (nq + 1)) HB2.out (grown_set _ wr.heap.size 1 _) (fun e => hne2 (by cases e; rfl)))
      have haY : Boxed (((W2.drewN (nq + 1)).setCell ⟨wr.heap.size, 1, none⟩ (.string ⟨#[]⟩)).setCell ⟨bb, 0, none⟩ (.slice (some ⟨bm, 0, none⟩) 0 0)) ba 167 (.slice none 0 0) :=
        (Boxed.kept (W := W2.drewN (nq + 1)) HA2.out (grown_set _ wr.heap.size 1 _) (fun e => by have := hax.lt; cases e; omega)).kept (grown_set _ bb 0 _) (fun e => hab (by cases e; rfl))
      have hjY := HJ.out _ _ _ hj hgr
      have y0 : (((W2.drewN (nq + 1)).setCell ⟨wr.heap.size, 1, none⟩ (.string ⟨#[]⟩)).setCell ⟨bb, 0, none⟩ (.slice (some ⟨bm, 0, none⟩) 0 0)).cell? ⟨wr.heap.size, 0, none⟩ = some (.string ⟨#[]⟩) := by
        rw [World.cell?_setCell_other _ _ _ _ (by simp), World.cell?_setCell_other _ _ _ _ (by simp)]; exact n0
      have y1 : (((W2.drewN (nq + 1)).setCell ⟨wr.heap.size, 1, none⟩ (.string ⟨#[]⟩)).setCell ⟨bb, 0, none⟩ (.slice (some ⟨bm, 0, none⟩) 0 0)).cell? ⟨wr.heap.size, 1, none⟩ = some (.string ⟨#[]⟩) := by
        rw [World.cell?_setCell_other _ _ _ _ (by simp)]; exact World.cell?_setCell_same (W2.drewN (nq + 1)) _ _ n1
      generalize ((W2.drewN (nq + 1)).setCell ⟨wr.heap.size, 1, none⟩ (.string ⟨#[]⟩)).setCell ⟨bb, 0, none⟩ (.slice (some ⟨bm, 0, none⟩) 0 0) = WY at *
      obtain ⟨fn, tmps, assign, body, hy, hR⟩ := HY.out [] () WY hjY (by simp)
      have HBY := Lib.hid hbY
      have HAY := Lib.hid haY
      clear hbY haY cb2 fb2 ca2 e0 e1 n0 n1 k1
      gi_wp2
      refine ⟨fun h => (by cases h), ?_⟩
      refine hR.mono ?_
      clear hR
      rintro e W5 (⟨rfl, h1, h2⟩ | ⟨rfl, h1⟩)
      · have hb5 : Boxed W5 bb 167 (.slice (some ⟨bm, 0, none⟩) 0 0) := h2.1.trans HBY.out
        have ha5 : Boxed W5 ba 167 (.slice none 0 0) := h2.2.trans HAY.out
        have hbl := Lib.hid hbx.cell
        gi_wp2
        go_roundw
        case rel => exact .inr ⟨hb5, ha5, h1⟩
        case measure => rw [bagLen, bagLen, hb5.cell, hbl.out]; exact Nat.zero_lt_one
      · gi_wp2
        refine bodyPost_ret (results_none rfl _ _ _) rfl ?_
        exact ⟨⟨_, rfl⟩, .inr ⟨_, trivial, h1⟩⟩
    · have cb := hbx.cell
      have ca := hax.cell
      clear hY hJ hJx
      gi_wp2
      go_end0
      exact ⟨⟨_, rfl⟩, .inl ⟨_, rfl, hj⟩⟩
end Go.Proofs.YtjcbohbpkodkoaaGreatDoor
