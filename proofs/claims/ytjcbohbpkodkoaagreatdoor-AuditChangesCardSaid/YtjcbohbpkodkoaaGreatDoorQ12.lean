/- Contracts of restate.valid, isPosted, the reference's Valid. -/
import Derived.Test.YtjcbohbpkodkoaaGreatDoorQ11
import Derived.Test.YtjcbohbpkodkoaaGreatDoorQ8
import Derived.Test.YtjcbohbpkodkoaaGreatDoorQ3
import Derived.Test.YtjcbohbpkodkoaaGreatDoorQ2
import Derived.Test.YtjcbohbpkodkoaaGreatDoorQ4
import Derived.Test.YtjcbohbpkodkoaaGreatDoorQ9
import Derived.Test.YtjcbohbpkodkoaaGreatDoorQ10
import Derived.Test.YtjcbohbpkodkoaaGreatDoorQ6
import Derived.Deep.QuietTactic
import Derived.BigQuiet
import Derived.Lib.SmallJoins
import Derived.Shelf.Strings.Builder1
import Derived.Shelf.Strings.Builder2
import Derived.Shelf.Strings.OnBuilder
import Derived.Test.YtjcbohbpkodkoaaGreatDoorProg
import Derived.Shelf.Strings.BuilderK
import Derived.Lib.ConvBytes
import Derived.Outline
namespace Go.Proofs.YtjcbohbpkodkoaaGreatDoor
open Go.RowKit Go.Maps Num

set_option maxRecDepth 100000 in
theorem pvalid_any (d : Int) (w : World) : Calls Tryz.prog 40 #[.int .i64 d] w (RetP (.bool (valD d)) w) := by
  unfold valD
  by_cases h1 : -25567 ≤ d
  · have e1 := decide_eq_true h1
    by_cases h2 : d ≤ 84005
    · have e2 := decide_eq_true h2
      go_enter Tryz.func40, Tryz.ntmps40
      go_wp2_with fail
      go_ret
      exact ⟨by rw [e1, e2]; rfl, rfl⟩
    · have e2 := decide_eq_false h2
      go_enter Tryz.func40, Tryz.ntmps40
      go_wp2_with fail
      go_ret
      exact ⟨rfl, rfl⟩
  · have e1 := decide_eq_false h1
    go_enter Tryz.func40, Tryz.ntmps40
    go_wp2_with fail
    go_ret
    exact ⟨rfl, rfl⟩
theorem okDay_valD (d : Int) : Dat.okDay d = valD d := by unfold Dat.okDay valD; rw [Bool.decide_and]
theorem rday_any (d : Int) (w : World) : Calls Tryz.prog 56 #[.int .i64 d] w (RetP (.int .i64 (if valD d = true then 0 else 13)) w) := by
  cases h : valD d
  · refine (Dat.check_no d w (by rw [okDay_valD]; exact h)).mono ?_
    rintro e w' ⟨rfl, rfl⟩
    exact ⟨rfl, rfl⟩
  · refine (Dat.check_yes d w (by rw [okDay_valD]; exact h)).mono ?_
    rintro e w' ⟨rfl, rfl⟩
    exact ⟨rfl, rfl⟩
/-- a valid posted entry -/
def pokB (x : Po) : Bool := okE x.2 && (valD x.1.1 && (decide (x.2.1 ≤ x.1.1) && (decide (1 ≤ x.1.2.1) && nameB x.1.2.2)))
set_option maxRecDepth 100000 in
set_option maxHeartbeats 4000000 in
theorem isPosted_any (d kn : Int) (bz : List UInt8) (d1 : Int) (cz : List UInt8) (A : Option Addr) (n c : Nat) (l : List Ln) (w : World) (hl : Lns w A n c l) (hcz : cz.length ≤ maxLen) (hbz : bz.length ≤ maxLen) (ht : Tab w) (hm : ML w) :
    Calls Tryz.prog 69 #[.agg (poC d kn bz d1 cz A n c)] w (BoolPost (pokB ((d, kn, bz), (d1, cz, l))) w) := by
  have y0 := heap_alloc_new w (.cells (poC d kn bz d1 cz A n c) 42)
  have B0 := Lib.hid ((Below.refl _ w).alloc (Nat.le_refl _) (.cells (poC d kn bz d1 cz A n c) 42))
  have HL := Lib.hid (show w.heap.size < (w.alloc (.cells (poC d kn bz d1 cz A n c) 42)).heap.size by simp)
  unfold poC at y0 B0 HL
  have Y := Lib.hid y0
  obtain ⟨c0, c1, c2, c3, c4, c5⟩ := cellsP y0
  have HP := Lib.hid (fun W b (h : pokB ((d, kn, bz), (d1, cz, l)) = b) (hb : Below w.heap.size w W) => (show BoolPost (pokB ((d, kn, bz), (d1, cz, l))) w (.returned (.bool b)) W from ⟨by rw [h], hb⟩))
  have HV := Lib.hid (show pokB ((d, kn, bz), (d1, cz, l)) = (decide (chkE d1 cz l = 0) && (valD d && (decide (d1 ≤ d) && (decide (1 ≤ kn) && nameB bz)))) from rfl)
  have CK := Lib.hid (fun W (h : Below w.heap.size w W) => Chk_any d1 cz A n c l W (hl.below h) hcz (ht.below h) (hm.below h))
  have CN := Lib.hid (fun W => name_any ⟨bz.toArray⟩ W hbz)
  rw [show (⟨bz.toArray⟩ : ByteArray).data.toList = bz from rfl] at CN
  have CV := Lib.hid (fun W => pvalid_any d W)
  unfold IntPost enV at CK
  unfold RetP at CV
  generalize BoolPost (pokB ((d, kn, bz), (d1, cz, l))) w = Post at *
  generalize pokB ((d, kn, bz), (d1, cz, l)) = r at *
  generalize chkE d1 cz l = ck at *
  generalize nameB bz = nb at *
  generalize valD d = vd at *
  unfold poC
  clear y0 hl hcz hbz ht hm
  go_enter Tryz.func69, Tryz.ntmps69
  go_wp2_with fail
  generalize w.alloc (.cells #[.int .i64 d, .int .i64 kn, .string ⟨bz.toArray⟩, .int .i64 d1, .string ⟨cz.toArray⟩, .slice A n c] 42) = w1 at *
  refine (CK.out _ B0.out).mono ?_
  rintro e w2 ⟨rfl, hb⟩
  have B2 := Lib.hid (below_next B0.out hb ⟨rfl, rfl, rfl, rfl⟩)
  clear c0 c1 c2 c3 c4 c5
  obtain ⟨c0, c1, c2, c3, c4, c5⟩ := cellsP ((hb.block _ HL.out).trans Y.out)
  clear hb CK
  by_cases h1 : ck = 0
  case neg =>
    have e1 : (ck == 0) = false := beq_eq_false_iff_ne.2 h1
    have hv := Lib.hid (show r = false by rw [HV.out, decide_eq_false h1]; rfl)
    clear HV h1 CN CV
    go_wp2_with fail
    exact HP.out _ _ hv.out B2.out
  subst h1
  have HV1 := Lib.hid (show r = (vd && (decide (d1 ≤ d) && (decide (1 ≤ kn) && nb))) from HV.out)
  clear HV
  go_wp2_with fail
  refine (CV.out _).mono ?_
  rintro e w3 ⟨rfl, rfl⟩
  clear CV
  cases vd
  · have hv := Lib.hid (show r = false from HV1.out)
    clear HV1 CN
    go_wp2_with fail
    exact HP.out _ _ hv.out B2.out
  by_cases h3 : d1 ≤ d
  case neg =>
    have e3 : decide (d1 ≤ d) = false := decide_eq_false h3
    have hv := Lib.hid (show r = false by rw [HV1.out, e3]; rfl)
    clear HV1 CN h3
    go_wp2_with fail
    exact HP.out _ _ hv.out B2.out
  have e3 : decide (d1 ≤ d) = true := decide_eq_true h3
  by_cases h4 : 1 ≤ kn
  case neg =>
    have e4 : decide (1 ≤ kn) = false := decide_eq_false h4
    have hv := Lib.hid (show r = false by rw [HV1.out, e4, e3]; rfl)
    clear HV1 CN h3 h4
    go_wp2_with fail
    exact HP.out _ _ hv.out B2.out
  have e4 : decide (1 ≤ kn) = true := decide_eq_true h4
  have hv := Lib.hid (show r = nb by rw [HV1.out, e4, e3]; rfl)
  clear HV1 h3 h4
  go_wp2_with fail
  refine (CN.out _).mono ?_
  rintro e w4 ⟨rfl, hb⟩
  have B4 := Lib.hid (below_next B2.out hb ⟨rfl, rfl, rfl, rfl⟩)
  clear hb CN
  go_wp2_with fail
  exact HP.out _ _ hv.out B4.out
set_option maxRecDepth 100000 in
set_option maxHeartbeats 4000000 in
theorem rValid_any (d kn : Int) (bz : List UInt8) (d1 : Int) (cz : List UInt8) (A : Option Addr) (n c : Nat) (l : List Ln) (w : World) (hl : Lns w A n c l) (hcz : cz.length ≤ maxLen) (hbz : bz.length ≤ maxLen) (hs : ∀ x ∈ l, x.2.2.length ≤ 13) :
    Calls Tryz.prog 28 #[.agg (poC d kn bz d1 cz A n c)] w (BoolPost (pokB ((d, kn, bz), (d1, cz, l))) w) := by
  have y0 := heap_alloc_new w (.cells (poC d kn bz d1 cz A n c) 42)
  have B0 := Lib.hid ((Below.refl _ w).alloc (Nat.le_refl _) (.cells (poC d kn bz d1 cz A n c) 42))
  have HL := Lib.hid (show w.heap.size < (w.alloc (.cells (poC d kn bz d1 cz A n c) 42)).heap.size by simp)
  unfold poC at y0 B0 HL
  have Y := Lib.hid y0
  obtain ⟨c0, c1, c2, c3, c4, c5⟩ := cellsP y0
  have HP := Lib.hid (fun W b (h : pokB ((d, kn, bz), (d1, cz, l)) = b) (hb : Below w.heap.size w W) => (show BoolPost (pokB ((d, kn, bz), (d1, cz, l))) w (.returned (.bool b)) W from ⟨by rw [h], hb⟩))
  have HV := Lib.hid (show pokB ((d, kn, bz), (d1, cz, l)) = (decide (chkE d1 cz l = 0) && (valD d && (decide (d1 ≤ d) && (decide (1 ≤ kn) && nameB bz)))) from rfl)
  have CK := Lib.hid (fun W (h : Below w.heap.size w W) => rchkE_any d1 cz A n c l W (hl.below h) hcz hs)
  have CN := Lib.hid (fun W => rname_any ⟨bz.toArray⟩ W hbz)
  rw [show (⟨bz.toArray⟩ : ByteArray).data.toList = bz from rfl] at CN
  have CV := Lib.hid (fun W => rday_any d W)
  unfold IntPost enV at CK
  unfold RetP at CV
  generalize BoolPost (pokB ((d, kn, bz), (d1, cz, l))) w = Post at *
  generalize pokB ((d, kn, bz), (d1, cz, l)) = r at *
  generalize chkE d1 cz l = ck at *
  generalize nameB bz = nb at *
  generalize valD d = vd at *
  unfold poC
  clear y0 hl hcz hbz hs
  go_enter Tryz.func28, Tryz.ntmps28
  go_wp2_with fail
  generalize w.alloc (.cells #[.int .i64 d, .int .i64 kn, .string ⟨bz.toArray⟩, .int .i64 d1, .string ⟨cz.toArray⟩, .slice A n c] 42) = w1 at *
  refine (CK.out _ B0.out).mono ?_
  rintro e w2 ⟨rfl, hb⟩
  have B2 := Lib.hid (below_next B0.out hb ⟨rfl, rfl, rfl, rfl⟩)
  clear c0 c1 c2 c3 c4 c5
  obtain ⟨c0, c1, c2, c3, c4, c5⟩ := cellsP ((hb.block _ HL.out).trans Y.out)
  clear hb CK
  by_cases h1 : ck = 0
  case neg =>
    have e1 : (ck == 0) = false := beq_eq_false_iff_ne.2 h1
    have hv := Lib.hid (show r = false by rw [HV.out, decide_eq_false h1]; rfl)
    clear HV h1 CN CV
    go_wp2_with fail
    exact HP.out _ _ hv.out B2.out
  subst h1
  have HV1 := Lib.hid (show r = (vd && (decide (d1 ≤ d) && (decide (1 ≤ kn) && nb))) from HV.out)
  clear HV
  cases vd
  · have hv := Lib.hid (show r = false from HV1.out)
    have CV1 := Lib.hid (fun W => (show Calls Tryz.prog 56 #[.int .i64 d] W fun e w' => e = .returned (.int .i64 13) ∧ W = w' from CV.out W))
    clear HV1 CN CV
    go_wp2_with fail
    refine (CV1.out _).mono ?_
    rintro e w3 ⟨rfl, rfl⟩
    go_wp2_with fail
    exact HP.out _ _ hv.out B2.out
  have CV1 := Lib.hid (fun W => (show Calls Tryz.prog 56 #[.int .i64 d] W fun e w' => e = .returned (.int .i64 0) ∧ W = w' from CV.out W))
  clear CV
  go_wp2_with fail
  refine (CV1.out _).mono ?_
  rintro e w3 ⟨rfl, rfl⟩
  clear CV1
  by_cases h3 : d1 ≤ d
  case neg =>
    have e3 : decide (d1 ≤ d) = false := decide_eq_false h3
    have hv := Lib.hid (show r = false by rw [HV1.out, e3]; rfl)
    clear HV1 CN h3
    go_wp2_with fail
    exact HP.out _ _ hv.out B2.out
  have e3 : decide (d1 ≤ d) = true := decide_eq_true h3
  by_cases h4 : 1 ≤ kn
  case neg =>
    have e4 : decide (1 ≤ kn) = false := decide_eq_false h4
    have hv := Lib.hid (show r = false by rw [HV1.out, e4, e3]; rfl)
    clear HV1 CN h3 h4
    go_wp2_with fail
    exact HP.out _ _ hv.out B2.out
  have e4 : decide (1 ≤ kn) = true := decide_eq_true h4
  have hv := Lib.hid (show r = nb by rw [HV1.out, e4, e3]; rfl)
  clear HV1 h3 h4
  go_wp2_with fail
  refine (CN.out _).mono ?_
  rintro e w4 ⟨rfl, hb⟩
  go_wp2_with fail
  first
    | exact HP.out _ _ hv.out (below_next B2.out hb ⟨rfl, rfl, rfl, rfl⟩)
    | (subst hb; exact HP.out _ _ hv.out B2.out)
end Go.Proofs.YtjcbohbpkodkoaaGreatDoor

/- Contracts of restate.isList, the reference's Check. -/
namespace Go.Proofs.YtjcbohbpkodkoaaGreatDoor
open Go.RowKit Go.Maps Num

def okN : Option Int → Int → Bool
  | none, _ => true
  | some k, m => decide (k ≤ m)
/-- a list of posted entries; ahead of it, k was known -/
def posL : Option Int → List Po → Bool
  | _, [] => true
  | k, x :: r => pokB x && (okN k x.1.2.1 && posL (some x.1.2.1) r)
theorem posL_cons (k : Option Int) (x : Po) (r : List Po) : posL k (x :: r) = (pokB x && (okN k x.1.2.1 && posL (some x.1.2.1) r)) := rfl
def knAt (ps : List PE) : Nat → Option Int
  | 0 => none
  | k + 1 => some (ps.getD k pe0).1.2.1
theorem drop_pe (l : List PE) (k : Nat) (h : k < l.length) : l.drop k = l.getD k pe0 :: l.drop (k + 1) := by
  rw [List.drop_eq_getElem_cons h, List.getD_eq_getElem?_getD, List.getElem?_eq_getElem h]; rfl
theorem posL_all {k : Option Int} {l : List Po} (h : posL k l = true) : ∀ x ∈ l, pokB x = true := by
  induction l generalizing k with
  | nil => intro x hx; cases hx
  | cons y r ih =>
    rw [posL_cons, Bool.and_eq_true_iff, Bool.and_eq_true_iff] at h
    intro x hx
    rcases List.mem_cons.1 hx with rfl | hx
    · exact h.1
    · exact ih h.2.2 x hx
set_option maxRecDepth 100000 in
set_option maxHeartbeats 8000000 in
theorem pisList_any (A : Option Addr) (n c : Nat) (ps : List PE) (w : World) (h : rowPo.Rds w A n c ps) (hr : ∀ p ∈ ps, RdE w p.2) (hz : ∀ p ∈ ps, p.2.2.2.1.length ≤ maxLen ∧ p.1.2.2.length ≤ maxLen) (hn : n ≤ 10000) (ht : Tab w) (hm : ML w) :
    Calls Tryz.prog 39 #[.slice A n c] w (BoolPost (posL none (ps.map poOf)) w) := by
  have ll := Lib.hid h.len
  have L1 := Lib.hid h
  have HR := Lib.hid hr
  have HZ := Lib.hid hz
  have HT := Lib.hid ht
  have HM := Lib.hid hm
  have HP := Lib.hid (fun W b (h : posL none (ps.map poOf) = b) (hb : Below w.heap.size w W) => (show BoolPost (posL none (ps.map poOf)) w (.returned (.bool b)) W from ⟨by rw [h], hb⟩))
  have R0 := Lib.hid (show posL none (ps.map poOf) = posL (knAt ps 0) ((ps.drop 0).map poOf) by rw [List.drop_zero]; rfl)
  generalize BoolPost (posL none (ps.map poOf)) w = Post at *
  generalize posL none (ps.map poOf) = r at *
  clear h hr hz ht hm
  have hd : decide (10000 < (n : Int)) = false := by simp; omega
  have hd2 : ¬ (10000 : Int) < (n : Int) := by omega
  go_enter Tryz.func39, Tryz.ntmps39
  go_wp2_with fail
  go_loopw [10] (fun i wr => ∃ k : Nat, k ≤ n ∧ i = .int .i64 (k : Int) ∧ Hid (r = posL (knAt ps k) ((ps.drop k).map poOf)) ∧ Hid (Below w.heap.size w wr)) (fun i _ => n - (intOf i).toNat)
  case atStart => exact ⟨0, by omega, rfl, R0, Lib.hid (Below.refl _ _)⟩
  case round =>
    obtain ⟨k, hk, rfl, hch, HB⟩ := hrel
    clear R0
    by_cases hlt : k < n
    · have hkl : k < ps.length := by rw [ll.out]; exact hlt
      obtain ⟨b1, o1, rfl, hb1, _⟩ := L1.out.at_ (by omega)
      obtain ⟨q0, q1, q2, q3, q4, q5⟩ := rdsP_cells (L1.out.below HB.out) k hlt
      have hmm := pe_mem ps k hkl
      have hrd := HR.out _ hmm
      have hzz := HZ.out _ hmm
      have hdr := drop_pe ps k hkl
      have hpk : knAt ps (k + 1) = some (ps.getD k pe0).1.2.1 := rfl
      have hch2 := hch.out
      rw [hdr, List.map_cons, posL_cons] at hch2
      have hki : (k : Int) < (n : Int) := by omega
      clear hdr hmm
      generalize ps.getD k pe0 = p at *
      obtain ⟨⟨d, kn, bz⟩, ⟨d1, y1, A1, n1, m1⟩, ⟨d2, y2, l2⟩⟩ := p
      obtain ⟨e1, e2, e3⟩ := hrd
      simp only [rawA, rawN, rawC] at q0 q1 q2 q3 q4 q5 e1 e2 e3
      subst e1 e2
      have hch3 : r = (pokB ((d, kn, bz), (d1, y1, l2)) && (okN (knAt ps k) kn && posL (some kn) ((ps.drop (k + 1)).map poOf))) := hch2
      have hpk2 : knAt ps (k + 1) = some kn := hpk
      clear hch2 hpk
      have IP := Lib.hid (fun W (hb : Below w.heap.size w W) => isPosted_any d kn bz d1 y1 A1 n1 m1 l2 W (e3.below hb) hzz.1 hzz.2 (HT.out.below hb) (HM.out.below hb))
      unfold BoolPost poC at IP
      clear e3 hzz
      generalize pokB ((d, kn, bz), (d1, y1, l2)) = pb at *
      have X0 := Lib.hid (heap_alloc_new wr (.cells #[.int .i64 d, .int .i64 kn, .string ⟨bz.toArray⟩, .int .i64 d1, .string ⟨y1.toArray⟩, .slice A1 n1 m1] 42))
      have B1 := Lib.hid (HB.out.alloc HB.out.size (.cells #[.int .i64 d, .int .i64 kn, .string ⟨bz.toArray⟩, .int .i64 d1, .string ⟨y1.toArray⟩, .slice A1 n1 m1] 42))
      have LT := Lib.hid (show wr.heap.size < (wr.alloc (.cells #[.int .i64 d, .int .i64 kn, .string ⟨bz.toArray⟩, .int .i64 d1, .string ⟨y1.toArray⟩, .slice A1 n1 m1] 42)).heap.size by simp)
      go_upto_region 6 with fail
      generalize wr.alloc (.cells #[.int .i64 d, .int .i64 kn, .string ⟨bz.toArray⟩, .int .i64 d1, .string ⟨y1.toArray⟩, .slice A1 n1 m1] 42) = w1 at *
      clear q0 q1 q2 q3 q4 q5
      have BK := Lib.hid (fun p : Bel w1 => cellsP ((p.h.block _ LT.out).trans X0.out))
      have hx0 := fun p : Bel w1 => (BK.out p).1
      have hx1 := fun p : Bel w1 => (BK.out p).2.1
      have hx2 := fun p : Bel w1 => (BK.out p).2.2.1
      have hx3 := fun p : Bel w1 => (BK.out p).2.2.2.1
      have hx4 := fun p : Bel w1 => (BK.out p).2.2.2.2.1
      have hx5 := fun p : Bel w1 => (BK.out p).2.2.2.2.2
      have IPp := Lib.hid (fun p : Bel w1 => IP.out p.W (below_next B1.out p.h ⟨rfl, rfl, rfl, rfl⟩))
      clear IP
      cases pb
      · have hv := Lib.hid (show r = false from hch3)
        clear hch3 hch
        refine wp_region_quiet_bel (by kernel_rfl) (by kernel_rfl) ?_
        repeat (go_big_quiet_step (first
          | (go_at_call 69; with_reducible refine Calls.bel_of (IPp.out _))))
        refine wpQuiet_nil ?_
        intro wq' hw'
        obtain ⟨⟨wq, hq⟩, hw2⟩ := hw'
        have hw3 : wq' = wq := hw2
        subst hw3
        have BZ := Lib.hid (below_next B1.out hq ⟨rfl, rfl, rfl, rfl⟩)
        clear hx0 hx1 hx2 hx3 hx4 hx5 hw2 hq
        go_wp2_with fail
        exact HP.out _ _ hv.out BZ.out
      · have hch4 : r = (okN (knAt ps k) kn && posL (some kn) ((ps.drop (k + 1)).map poOf)) := hch3
        clear hch3 hch
        by_cases hk0 : k = 0
        · have hk0i : ¬ (0 : Int) < (k : Int) := by omega
          have hk0d : decide ((0 : Int) < (k : Int)) = false := decide_eq_false hk0i
          have hk0n : ¬ 0 < k := by omega
          rw [show okN (knAt ps k) kn = true by rw [hk0]; rfl, Bool.true_and] at hch4
          have RR := Lib.hid (show r = posL (knAt ps (k + 1)) ((ps.drop (k + 1)).map poOf) by rw [hpk2]; exact hch4)
          clear hk0 hch4 hpk2
          refine wp_region_quiet_bel (by kernel_rfl) (by kernel_rfl) ?_
          repeat (go_big_quiet_step (first
            | (go_at_call 69; with_reducible refine Calls.bel_of (IPp.out _))))
          refine wpQuiet_nil ?_
          intro wq' hw'
          obtain ⟨⟨wq, hq⟩, hw2⟩ := hw'
          have hw3 : wq' = wq := hw2
          subst hw3
          have BZ := Lib.hid (below_next B1.out hq ⟨rfl, rfl, rfl, rfl⟩)
          clear hx0 hx1 hx2 hx3 hx4 hx5 hw2 hq
          go_wp2_with fail
          go_roundw
          case rel => exact ⟨k + 1, by omega, by go_num, RR, BZ⟩
          case measure => simp [intOf]; omega
        · obtain ⟨j, hj⟩ : ∃ j, k = j + 1 := ⟨k - 1, by omega⟩
          have hjn : j < n := by omega
          have PJ := Lib.hid ((rdsP_cells L1.out j hjn).2.1)
          have hkn : okN (knAt ps k) kn = decide ((ps.getD j pe0).1.2.1 ≤ kn) := by rw [hj]; rfl
          have hwj : IntKind.i64.wrap ((k : Int) - 1) = (j : Int) := (IntWalk.i64_in _ (by omega)).trans (by omega)
          have hji : (j : Int) < (n : Int) := by omega
          have hk0i : (0 : Int) < (k : Int) := by omega
          have hk0d : decide ((0 : Int) < (k : Int)) = true := decide_eq_true hk0i
          have hk0n : 0 < k := by omega
          generalize (ps.getD j pe0).1.2.1 = kj at *
          have hpj := fun p : Bel w1 => ((below_next B1.out p.h ⟨rfl, rfl, rfl, rfl⟩).cell (p := ⟨b1, o1 + j * 6 + 1, none⟩) hb1).trans PJ.out
          clear hk0 hj
          by_cases hkk : kj ≤ kn
          · rw [hkn, decide_eq_true hkk, Bool.true_and] at hch4
            have e9 : decide (kn < kj) = false := decide_eq_false (by omega)
            have RR := Lib.hid (show r = posL (knAt ps (k + 1)) ((ps.drop (k + 1)).map poOf) by rw [hpk2]; exact hch4)
            clear hch4 hpk2 hkn hkk
            refine wp_region_quiet_bel (by kernel_rfl) (by kernel_rfl) ?_
            repeat (go_big_quiet_step (first
              | (go_at_call 69; with_reducible refine Calls.bel_of (IPp.out _))))
            refine wpQuiet_nil ?_
            intro wq' hw'
            obtain ⟨⟨wq, hq⟩, hw2⟩ := hw'
            have hw3 : wq' = wq := hw2
            subst hw3
            have BZ := Lib.hid (below_next B1.out hq ⟨rfl, rfl, rfl, rfl⟩)
            clear hx0 hx1 hx2 hx3 hx4 hx5 hw2 hq hpj
            go_wp2_with fail
            go_roundw
            case rel => exact ⟨k + 1, by omega, by go_num, RR, BZ⟩
            case measure => simp [intOf]; omega
          · rw [hkn, decide_eq_false hkk, Bool.false_and] at hch4
            have e9 : decide (kn < kj) = true := decide_eq_true (by omega)
            have hv := Lib.hid hch4
            clear hch4 hpk2 hkn hkk
            refine wp_region_quiet_bel (by kernel_rfl) (by kernel_rfl) ?_
            repeat (go_big_quiet_step (first
              | (go_at_call 69; with_reducible refine Calls.bel_of (IPp.out _))))
            refine wpQuiet_nil ?_
            intro wq' hw'
            obtain ⟨⟨wq, hq⟩, hw2⟩ := hw'
            have hw3 : wq' = wq := hw2
            subst hw3
            have BZ := Lib.hid (below_next B1.out hq ⟨rfl, rfl, rfl, rfl⟩)
            clear hx0 hx1 hx2 hx3 hx4 hx5 hw2 hq hpj
            go_wp2_with fail
            exact HP.out _ _ hv.out BZ.out
    · have hkn : k = n := by omega
      subst hkn
      have hv := Lib.hid (show r = true by rw [hch.out, List.drop_of_length_le (by rw [ll.out]; exact Nat.le_refl _)]; rfl)
      have hki : ¬ (k : Int) < (k : Int) := by omega
      clear hch
      go_wp2_with fail
      exact HP.out _ _ hv.out HB.out
end Go.Proofs.YtjcbohbpkodkoaaGreatDoor

/- Contract of restate.Trial. -/
namespace Go.Proofs.YtjcbohbpkodkoaaGreatDoor
open Go.RowKit Go.Maps Num

/-- balances and a code are returned -/
def CodeC (i : Int) (w : World) (e : Ending) (w' : World) : Prop := ∃ v, e = .returned (.tuple #[v, .int .i64 i]) ∧ Below w.heap.size w w'
set_option maxRecDepth 100000 in
set_option maxHeartbeats 8000000 in
theorem pTrial_any (A : Option Addr) (n c : Nat) (ps : List PE) (w : World) (h : rowPo.Rds w A n c ps) (hr : ∀ p ∈ ps, RdE w p.2) (hz : ∀ p ∈ ps, p.2.2.2.1.length ≤ 1000 ∧ p.1.2.2.length ≤ 1000) (hn : n ≤ 16) (ht : Tab w) (hm : ML w) :
    Calls Tryz.prog 23 #[.slice A n c, .int .i64 84005] w (CodeC (if posL none (ps.map poOf) = true then 0 else 1) w) := by
  have ll := Lib.hid h.len
  have L1 := Lib.hid h
  have HR := Lib.hid hr
  have HZ := Lib.hid hz
  have HT := Lib.hid ht
  have HM := Lib.hid hm
  have IL := Lib.hid (pisList_any A n c ps w h hr (fun p hp => by have := hz p hp; unfold maxLen; omega) (by omega) ht hm)
  have HPO := Lib.hid (fun (hpo : posL none (ps.map poOf) = true) => posL_all hpo)
  have HP := Lib.hid (fun W v b (h : posL none (ps.map poOf) = b) (hb : Below w.heap.size w W) => (show CodeC (if posL none (ps.map poOf) = true then 0 else 1) w (.returned (.tuple #[v, .int .i64 (if b = true then 0 else 1)])) W from ⟨v, by rw [h], hb⟩))
  have PV := Lib.hid (fun W => (show Calls Tryz.prog 40 #[.int .i64 84005] W (RetP (.bool true) W) from pvalid_any 84005 W))
  unfold BoolPost at IL
  unfold RetP at PV
  generalize CodeC (if posL none (ps.map poOf) = true then 0 else 1) w = Post at *
  generalize posL none (ps.map poOf) = r at *
  clear h hr hz ht hm
  go_enter Tryz.func23, Tryz.ntmps23
  go_wp2_with fail
  refine IL.out.mono ?_
  rintro e w2 ⟨rfl, hb⟩
  have B2 := Lib.hid hb
  clear hb IL
  cases r
  · have HP2 := Lib.hid (fun W v h => HP.out W v false rfl h)
    clear HP HPO PV
    go_wp2_with fail
    exact HP2.out _ _ B2.out
  have HP2 := Lib.hid (fun W v h => HP.out W v true rfl h)
  have HPO2 := Lib.hid (HPO.out rfl)
  clear HP HPO
  go_wp2_with fail
  refine (PV.out _).mono ?_
  rintro e w3 ⟨rfl, rfl⟩
  clear PV
  have hnl := Lib.hid hn
  go_wp2_with fail
  go_loopw [6, 19] (fun v i wr => ∃ k : Nat, k ≤ n ∧ i = .int .i64 (k : Int) ∧ Hid (rowE.Own w.heap.size wr v ((ps.take k).map Prod.snd)) ∧ Hid (Below w.heap.size w wr)) (fun _ i _ => n - (intOf i).toNat)
  case atStart => exact ⟨0, by omega, rfl, Lib.hid (Row.Own.nil _ _), B2⟩
  case round =>
    obtain ⟨k, hk, rfl, HO, HB⟩ := hrel
    by_cases hlt : k < n
    · have hkl : k < ps.length := by rw [ll.out]; exact hlt
      obtain ⟨b1, o1, rfl, hb1, _⟩ := L1.out.at_ (by omega)
      obtain ⟨q0, q1, q2, q3, q4, q5⟩ := rdsP_cells (L1.out.below HB.out) k hlt
      have hmm := pe_mem ps k hkl
      obtain ⟨e1, e2, _⟩ := HR.out _ hmm
      have hpk := HPO2.out _ (List.mem_map_of_mem (f := poOf) hmm)
      have htk := take_pe ps k hkl
      have HLN := Lib.hid (show ((ps.take k).map Prod.snd).length + 1 ≤ 1000000 by rw [List.length_map, List.length_take]; have := hnl.out; omega)
      have hki : (k : Int) < (n : Int) := by omega
      clear hmm
      generalize ps.getD k pe0 = p at *
      have HTK := Lib.hid (show (ps.take (k + 1)).map Prod.snd = (ps.take k).map Prod.snd ++ [p.2] by rw [htk, List.map_append]; rfl)
      clear htk
      obtain ⟨⟨d, kn, bz⟩, ⟨d1, y1, A1, n1, m1⟩, ⟨d2, y2, l2⟩⟩ := p
      simp only [rawA, rawN, rawC] at q0 q1 q2 q3 q4 q5 e1 e2
      subst e1 e2
      have hd0 : d ≤ 84005 := by
        have h1 : pokB ((d, kn, bz), (d1, y1, l2)) = true := hpk
        unfold pokB at h1
        rw [Bool.and_eq_true_iff, Bool.and_eq_true_iff] at h1
        have h2 : valD d = true := h1.2.1
        unfold valD at h2
        rw [Bool.and_eq_true_iff] at h2
        exact of_decide_eq_true h2.2
      have hdd : decide (d ≤ 84005) = true := decide_eq_true hd0
      have X0 := Lib.hid (heap_alloc_new wr (.cells #[.int .i64 d, .int .i64 kn, .string ⟨bz.toArray⟩, .int .i64 d1, .string ⟨y1.toArray⟩, .slice A1 n1 m1] 42))
      have B1 := Lib.hid (HB.out.alloc HB.out.size (.cells #[.int .i64 d, .int .i64 kn, .string ⟨bz.toArray⟩, .int .i64 d1, .string ⟨y1.toArray⟩, .slice A1 n1 m1] 42))
      have O1 := Lib.hid (HO.out.alloc (.cells #[.int .i64 d, .int .i64 kn, .string ⟨bz.toArray⟩, .int .i64 d1, .string ⟨y1.toArray⟩, .slice A1 n1 m1] 42))
      clear HO
      go_upto_region 9 with fail
      generalize wr.alloc (.cells #[.int .i64 d, .int .i64 kn, .string ⟨bz.toArray⟩, .int .i64 d1, .string ⟨y1.toArray⟩, .slice A1 n1 m1] 42) = w1 at *
      clear q0 q1 q2 q3 q4 q5 hpk
      obtain ⟨c0, c1, c2, c3, c4, c5⟩ := cellsP X0.out
      have hB1 := B1.out.size
      go_wp2_with (at_builtin; go_must (refine Row.wp_append1 rowE_ok rfl (.tmp 27) (.tmp 30) rfl w.heap.size _ ((ps.take k).map Prod.snd) w1 ((d1, y1, A1, n1, m1), (d1, y1, l2)) _ _ rfl rfl rfl O1.out rfl hB1 HLN.out ?_); intro v' w5 hown' hg hv')
      have HO2 := Lib.hid (show rowE.Own w.heap.size w5 v' ((ps.take (k + 1)).map Prod.snd) by rw [HTK.out]; exact hown')
      have HB2 := Lib.hid (below_own B1.out (Nat.le_refl _) hg (fun g e => (O1.out.own g e).1))
      clear c0 c1 c2 c3 c4 c5 hown' hg hv' hB1
      go_roundw
      case rel => exact ⟨k + 1, by omega, by go_num, HO2, HB2⟩
      case measure => simp [intOf]; omega
    · have hkn : k = n := by omega
      subst hkn
      have hki : ¬ (k : Int) < (k : Int) := by omega
      have ho := HO.out
      rw [List.take_of_length_le (by rw [ll.out]; exact Nat.le_refl _)] at ho
      obtain ⟨A', c', rfl, hrd⟩ := ho.rds
      have e0 : trI ((ps.map Prod.snd).map Prod.snd) 84005 = 0 := by
        unfold trI
        rw [if_neg, if_neg (by decide)]
        have : ((ps.map Prod.snd).map Prod.snd).all okE = true := by
          rw [List.all_eq_true]
          intro x hx
          obtain ⟨y, hy, rfl⟩ := List.mem_map.1 hx
          obtain ⟨p, hp, rfl⟩ := List.mem_map.1 hy
          have h1 := HPO2.out _ (List.mem_map_of_mem (f := poOf) hp)
          unfold pokB at h1
          rw [Bool.and_eq_true_iff] at h1
          exact h1.1
        rw [this]; decide
      have CT := Trial_any A' (ps.map Prod.snd).length c' (ps.map Prod.snd) 84005 wr ⟨hrd, fun q hq => by
          obtain ⟨p, hp, rfl⟩ := List.mem_map.1 hq
          exact (HR.out p hp).below HB.out⟩ (fun q hq => by
          obtain ⟨p, hp, rfl⟩ := List.mem_map.1 hq
          exact (HZ.out p hp).1) (by rw [List.length_map, ll.out]; have := hnl.out; omega) (HT.out.below HB.out) (HM.out.below HB.out)
      rw [e0] at CT
      unfold ListC at CT
      have CT1 := Lib.hid CT
      clear CT e0 hrd ho HO HPO2
      generalize (ps.map Prod.snd).length = ln at *
      go_wp2_with fail
      refine CT1.out.mono ?_
      rintro e w6 ⟨v, rfl, _, hb⟩
      have B6 := Lib.hid (below_next HB.out hb ⟨rfl, rfl, rfl, rfl⟩)
      clear hb CT1
      go_wp2_with fail
      exact HP2.out _ _ B6.out
end Go.Proofs.YtjcbohbpkodkoaaGreatDoor

/- Contract of the reference's Check at posted entries. -/
namespace Go.Proofs.YtjcbohbpkodkoaaGreatDoor
open Go.RowKit Go.Maps Num

theorem bel_six {w : World} {b o : Nat} {x0 x1 x2 x3 x4 x5 : Value} (p : Bel w) (h0 : w.cell? ⟨b, o, none⟩ = some x0) (h1 : w.cell? ⟨b, o + 1, none⟩ = some x1) (h2 : w.cell? ⟨b, o + 2, none⟩ = some x2) (h3 : w.cell? ⟨b, o + 3, none⟩ = some x3) (h4 : w.cell? ⟨b, o + 4, none⟩ = some x4) (h5 : w.cell? ⟨b, o + 5, none⟩ = some x5) :
    p.W.cell? ⟨b, o, none⟩ = some x0 ∧ p.W.cell? ⟨b, o + 1, none⟩ = some x1 ∧ p.W.cell? ⟨b, o + 2, none⟩ = some x2 ∧ p.W.cell? ⟨b, o + 3, none⟩ = some x3 ∧ p.W.cell? ⟨b, o + 4, none⟩ = some x4 ∧ p.W.cell? ⟨b, o + 5, none⟩ = some x5 := by
  have hlt : b < w.heap.size := block_lt_of_cell h0
  exact ⟨(p.h.cell (p := ⟨b, o, none⟩) hlt).trans h0, (p.h.cell (p := ⟨b, o + 1, none⟩) hlt).trans h1, (p.h.cell (p := ⟨b, o + 2, none⟩) hlt).trans h2, (p.h.cell (p := ⟨b, o + 3, none⟩) hlt).trans h3, (p.h.cell (p := ⟨b, o + 4, none⟩) hlt).trans h4, (p.h.cell (p := ⟨b, o + 5, none⟩) hlt).trans h5⟩
set_option maxRecDepth 100000 in
set_option maxHeartbeats 8000000 in
theorem rcheckP_any (A : Option Addr) (n c : Nat) (ps : List PE) (w : World) (h : rowPo.Rds w A n c ps) (hr : ∀ p ∈ ps, RdE w p.2 ∧ ∀ x ∈ p.2.2.2.2, x.2.2.length ≤ 13) (hz : ∀ p ∈ ps, p.2.2.2.1.length ≤ maxLen ∧ p.1.2.2.length ≤ maxLen) (hn : n ≤ 10000) :
    Calls Tryz.prog 14 #[.slice A n c] w (IntPost (if posL none (ps.map poOf) = true then 0 else 1) w) := by
  have ll := Lib.hid h.len
  have L1 := Lib.hid h
  have HR := Lib.hid hr
  have HZ := Lib.hid hz
  have HP := Lib.hid (fun W b (h : posL none (ps.map poOf) = b) (hb : Below w.heap.size w W) => (show IntPost (if posL none (ps.map poOf) = true then 0 else 1) w (.returned (.int .i64 (if b = true then 0 else 1))) W from ⟨by rw [h], hb⟩))
  have R0 := Lib.hid (show posL none (ps.map poOf) = posL (knAt ps 0) ((ps.drop 0).map poOf) by rw [List.drop_zero]; rfl)
  generalize IntPost (if posL none (ps.map poOf) = true then 0 else 1) w = Post at *
  generalize posL none (ps.map poOf) = r at *
  clear h hr hz
  have hd : decide (10000 < (n : Int)) = false := by simp; omega
  have hd2 : ¬ (10000 : Int) < (n : Int) := by omega
  go_enter Tryz.func14, Tryz.ntmps14
  go_wp2_with fail
  go_loopw [3] (fun i wr => ∃ k : Nat, k ≤ n ∧ i = .int .i64 (k : Int) ∧ Hid (r = posL (knAt ps k) ((ps.drop k).map poOf)) ∧ Hid (Below w.heap.size w wr)) (fun i _ => n - (intOf i).toNat)
  case atStart => exact ⟨0, by omega, rfl, R0, Lib.hid (Below.refl _ _)⟩
  case round =>
    obtain ⟨k, hk, rfl, hch, HB⟩ := hrel
    clear R0
    by_cases hlt : k < n
    · have hkl : k < ps.length := by rw [ll.out]; exact hlt
      obtain ⟨b1, o1, rfl, hb1, _⟩ := L1.out.at_ (by omega)
      obtain ⟨q0, q1, q2, q3, q4, q5⟩ := rdsP_cells (L1.out.below HB.out) k hlt
      have hmm := pe_mem ps k hkl
      have hrd := HR.out _ hmm
      have hzz := HZ.out _ hmm
      have hdr := drop_pe ps k hkl
      have hpk : knAt ps (k + 1) = some (ps.getD k pe0).1.2.1 := rfl
      have hch2 := hch.out
      rw [hdr, List.map_cons, posL_cons] at hch2
      have hki : (k : Int) < (n : Int) := by omega
      clear hdr hmm
      generalize ps.getD k pe0 = p at *
      obtain ⟨⟨d, kn, bz⟩, ⟨d1, y1, A1, n1, m1⟩, ⟨d2, y2, l2⟩⟩ := p
      obtain ⟨⟨e1, e2, e3⟩, e4⟩ := hrd
      simp only [rawA, rawN, rawC] at q0 q1 q2 q3 q4 q5 e1 e2 e3 e4
      subst e1 e2
      have hch3 : r = (pokB ((d, kn, bz), (d1, y1, l2)) && (okN (knAt ps k) kn && posL (some kn) ((ps.drop (k + 1)).map poOf))) := hch2
      have hpk2 : knAt ps (k + 1) = some kn := hpk
      clear hch2 hpk
      have IP := Lib.hid (fun W (hb : Below w.heap.size w W) => rValid_any d kn bz d1 y1 A1 n1 m1 l2 W (e3.below hb) hzz.1 hzz.2 e4)
      unfold BoolPost poC at IP
      clear e3 e4 hzz
      generalize pokB ((d, kn, bz), (d1, y1, l2)) = pb at *
      have QQ := Lib.hid (fun p : Bel wr => bel_six p q0 q1 q2 q3 q4 q5)
      go_upto_region 6 with fail
      clear q0 q1 q2 q3 q4 q5
      have hx0 := fun p : Bel wr => (QQ.out p).1
      have hx1 := fun p : Bel wr => (QQ.out p).2.1
      have hx2 := fun p : Bel wr => (QQ.out p).2.2.1
      have hx3 := fun p : Bel wr => (QQ.out p).2.2.2.1
      have hx4 := fun p : Bel wr => (QQ.out p).2.2.2.2.1
      have hx5 := fun p : Bel wr => (QQ.out p).2.2.2.2.2
      have IPp := Lib.hid (fun p : Bel wr => IP.out p.W (below_next HB.out p.h ⟨rfl, rfl, rfl, rfl⟩))
      clear IP
      cases pb
      · have hv := Lib.hid (show r = false from hch3)
        clear hch3 hch
        refine wp_region_quiet_bel (by kernel_rfl) (by kernel_rfl) ?_
        repeat (go_big_quiet_step (first
          | (go_at_call 28; with_reducible refine Calls.bel_of (IPp.out _))))
        refine wpQuiet_nil ?_
        intro wq' hw'
        obtain ⟨⟨wq, hq⟩, hw2⟩ := hw'
        have hw3 : wq' = wq := hw2
        subst hw3
        have BZ := Lib.hid (below_next HB.out hq ⟨rfl, rfl, rfl, rfl⟩)
        clear hx0 hx1 hx2 hx3 hx4 hx5 hw2 hq
        go_wp2_with fail
        exact HP.out _ _ hv.out BZ.out
      · have hch4 : r = (okN (knAt ps k) kn && posL (some kn) ((ps.drop (k + 1)).map poOf)) := hch3
        clear hch3 hch
        by_cases hk0 : k = 0
        · have hk0i : ¬ (0 : Int) < (k : Int) := by omega
          have hk0d : decide ((0 : Int) < (k : Int)) = false := decide_eq_false hk0i
          have hk0n : ¬ 0 < k := by omega
          rw [show okN (knAt ps k) kn = true by rw [hk0]; rfl, Bool.true_and] at hch4
          have RR := Lib.hid (show r = posL (knAt ps (k + 1)) ((ps.drop (k + 1)).map poOf) by rw [hpk2]; exact hch4)
          clear hk0 hch4 hpk2
          refine wp_region_quiet_bel (by kernel_rfl) (by kernel_rfl) ?_
          repeat (go_big_quiet_step (first
            | (go_at_call 28; with_reducible refine Calls.bel_of (IPp.out _))))
          refine wpQuiet_nil ?_
          intro wq' hw'
          obtain ⟨⟨wq, hq⟩, hw2⟩ := hw'
          have hw3 : wq' = wq := hw2
          subst hw3
          have BZ := Lib.hid (below_next HB.out hq ⟨rfl, rfl, rfl, rfl⟩)
          clear hx0 hx1 hx2 hx3 hx4 hx5 hw2 hq
          go_wp2_with fail
          go_roundw
          case rel => exact ⟨k + 1, by omega, by go_num, RR, BZ⟩
          case measure => simp [intOf]; omega
        · obtain ⟨j, hj⟩ : ∃ j, k = j + 1 := ⟨k - 1, by omega⟩
          have hjn : j < n := by omega
          have PJ := Lib.hid ((rdsP_cells L1.out j hjn).2.1)
          have hkn : okN (knAt ps k) kn = decide ((ps.getD j pe0).1.2.1 ≤ kn) := by rw [hj]; rfl
          have hwj : IntKind.i64.wrap ((k : Int) - 1) = (j : Int) := (IntWalk.i64_in _ (by omega)).trans (by omega)
          have hji : (j : Int) < (n : Int) := by omega
          have hk0i : (0 : Int) < (k : Int) := by omega
          have hk0d : decide ((0 : Int) < (k : Int)) = true := decide_eq_true hk0i
          have hk0n : 0 < k := by omega
          generalize (ps.getD j pe0).1.2.1 = kj at *
          have hpj := fun p : Bel wr => ((below_next HB.out p.h ⟨rfl, rfl, rfl, rfl⟩).cell (p := ⟨b1, o1 + j * 6 + 1, none⟩) hb1).trans PJ.out
          clear hk0 hj
          by_cases hkk : kj ≤ kn
          · rw [hkn, decide_eq_true hkk, Bool.true_and] at hch4
            have e9 : decide (kn < kj) = false := decide_eq_false (by omega)
            have RR := Lib.hid (show r = posL (knAt ps (k + 1)) ((ps.drop (k + 1)).map poOf) by rw [hpk2]; exact hch4)
            clear hch4 hpk2 hkn hkk
            refine wp_region_quiet_bel (by kernel_rfl) (by kernel_rfl) ?_
            repeat (go_big_quiet_step (first
              | (go_at_call 28; with_reducible refine Calls.bel_of (IPp.out _))))
            refine wpQuiet_nil ?_
            intro wq' hw'
            obtain ⟨⟨wq, hq⟩, hw2⟩ := hw'
            have hw3 : wq' = wq := hw2
            subst hw3
            have BZ := Lib.hid (below_next HB.out hq ⟨rfl, rfl, rfl, rfl⟩)
            clear hx0 hx1 hx2 hx3 hx4 hx5 hw2 hq hpj
            go_wp2_with fail
            go_roundw
            case rel => exact ⟨k + 1, by omega, by go_num, RR, BZ⟩
            case measure => simp [intOf]; omega
          · rw [hkn, decide_eq_false hkk, Bool.false_and] at hch4
            have e9 : decide (kn < kj) = true := decide_eq_true (by omega)
            have hv := Lib.hid hch4
            clear hch4 hpk2 hkn hkk
            refine wp_region_quiet_bel (by kernel_rfl) (by kernel_rfl) ?_
            repeat (go_big_quiet_step (first
              | (go_at_call 28; with_reducible refine Calls.bel_of (IPp.out _))))
            refine wpQuiet_nil ?_
            intro wq' hw'
            obtain ⟨⟨wq, hq⟩, hw2⟩ := hw'
            have hw3 : wq' = wq := hw2
            subst hw3
            have BZ := Lib.hid (below_next HB.out hq ⟨rfl, rfl, rfl, rfl⟩)
            clear hx0 hx1 hx2 hx3 hx4 hx5 hw2 hq hpj
            go_wp2_with fail
            exact HP.out _ _ hv.out BZ.out
    · have hkn : k = n := by omega
      subst hkn
      have hv := Lib.hid (show r = true by rw [hch.out, List.drop_of_length_le (by rw [ll.out]; exact Nat.le_refl _)]; rfl)
      have hki : ¬ (k : Int) < (k : Int) := by omega
      clear hch
      go_wp2_with fail
      exact HP.out _ _ hv.out HB.out
end Go.Proofs.YtjcbohbpkodkoaaGreatDoor

/- Contracts of Of and Parts, and of the reference's. -/
namespace Go.Proofs.YtjcbohbpkodkoaaGreatDoor.Dat
open Go.RowKit

def Ret2 (a b : Int) (w : World) (e : Ending) (w' : World) : Prop := e = .returned (.tuple #[.int .i64 a, .int .i64 b]) ∧ Below w.heap.size w w'
def Ret4 (a b c d : Int) (w : World) (e : Ending) (w' : World) : Prop := e = .returned (.tuple #[.int .i64 a, .int .i64 b, .int .i64 c, .int .i64 d]) ∧ Below w.heap.size w w'
theorem of_no {y m d : Int} (h : ¬ Valid y m d) : ofN y m d = 0 ∧ ofE y m d = 13 := by
  have : ¬ vdB y m d = true := fun h' => h ((vdB_iff y m d).1 h')
  simp [ofN, ofE, this]
theorem tup2 {a b c d : Int} (h : a = c) (g : b = d) : Ending.returned (.tuple #[.int .i64 a, .int .i64 b]) = .returned (.tuple #[.int .i64 c, .int .i64 d]) := by rw [h, g]
theorem tup4 {a b c d a' b' c' d' : Int} (h : a = a') (g : b = b') (i : c = c') (j : d = d') : Ending.returned (.tuple #[.int .i64 a, .int .i64 b, .int .i64 c, .int .i64 d]) = .returned (.tuple #[.int .i64 a', .int .i64 b', .int .i64 c', .int .i64 d']) := by rw [h, g, i, j]

end Go.Proofs.YtjcbohbpkodkoaaGreatDoor.Dat

/- Contracts of Parts, and of the reference's. -/
namespace Go.Proofs.YtjcbohbpkodkoaaGreatDoor.Dat
open Go.RowKit

/-- what Parts returns -/
noncomputable def pY (d : Int) : Int := if okDay d then yOf d else 0
noncomputable def pM (d : Int) : Int := if okDay d then mOf d else 0
noncomputable def pD (d : Int) : Int := if okDay d then dOf d else 0
def pE (d : Int) : Int := if okDay d then 0 else 13
theorem p_no {d : Int} (h : okDay d = false) : pY d = 0 ∧ pM d = 0 ∧ pD d = 0 ∧ pE d = 13 := by simp [pY, pM, pD, pE, h]
theorem p_yes {d : Int} (h : okDay d = true) : pY d = yOf d ∧ pM d = mOf d ∧ pD d = dOf d ∧ pE d = 0 := by simp [pY, pM, pD, pE, h]
theorem fin4 {y m r d : Int} (h : okDay d = true) (y0 : 1900 ≤ y) (y1 : y ≤ 2199) (m0 : 1 ≤ m) (m1 : m ≤ 12) (r0 : 0 ≤ r) (r1 : r < len y m) (e : r = d + 25567 - beg y - cum y m) :
    y = pY d ∧ m = pM d ∧ r + 1 = pD d ∧ (0 : Int) = pE d := by
  have hv : Valid y m (r + 1) := ⟨y0, y1, m0, m1, by omega, by omega⟩
  obtain ⟨a, b, c⟩ := dateOf_eq hv (n := d) (by unfold num; omega)
  obtain ⟨a', b', c', d'⟩ := p_yes h
  exact ⟨by rw [a', a], by rw [b', b], by rw [c', c], d'.symm⟩

set_option maxHeartbeats 1000000 in
theorem Parts_any (d : Int) (w : World) : Calls Tryz.prog 76 #[.int .i64 d] w (Ret4 (pY d) (pM d) (pD d) (pE d) w) := by
  cases hd : okDay d
  · have HN := Lib.hid (p_no hd)
    go_enter Tryz.func76, Tryz.ntmps76
    go_wp2_with (go_at_call 110; refine (valid_no _ _ (by assumption)).mono ?_; rintro e w' ⟨rfl, rfl⟩)
    obtain ⟨a, b, c, e⟩ := HN.out
    refine bodyPost_ret (v := .tuple #[.int .i64 0, .int .i64 0, .int .i64 0, .int .i64 13]) (by simp [results, Tryz.results76, go_sem]) rfl ⟨tup4 a.symm b.symm c.symm e.symm, Below.refl _ _⟩
  · obtain ⟨d0, d1⟩ := (okDay_iff d).1 hd
    have hw : IntKind.i64.wrap (d - -25567) = d + 25567 := by rw [IntWalk.i64_in _ (by omega)]; omega
    go_enter Tryz.func76, Tryz.ntmps76
    go_wp2_with (go_at_call 110; refine (valid_yes _ _ (by assumption)).mono ?_; rintro e w' ⟨rfl, rfl⟩)
    go_loop [7] (fun n => ∃ y : Int, 1900 ≤ y ∧ y ≤ 2199 ∧ beg y ≤ d + 25567 ∧ n = .int .i64 y) (fun n => (2199 - intOf n).toNat)
    case atStart => exact ⟨_, by omega, by omega, by unfold beg; omega, rfl⟩
    case round =>
      obtain ⟨y, y0, y1, yb, rfl⟩ := hrel
      have hg1 := beg_mono 1900 y (by omega)
      have hg2 := beg_mono y 2200 (by omega)
      rw [beg_first] at hg1
      rw [beg_last] at hg2
      by_cases hk : beg (y + 1) ≤ d + 25567
      · have hy : y + 1 ≤ 2199 := by
          have := beg_mono 2200 (y + 1)
          rw [beg_last] at this
          omega
        go_wp2_with (go_at_call 111; refine (begin_any _ _ (by omega) (by omega)).mono ?_; rintro e w' ⟨rfl, rfl⟩)
        go_round
        case rel => exact ⟨y + 1, by omega, by omega, hk, by go_num⟩
        case measure => simp [intOf]; omega
      · have hs := beg_succ y
        have hl := lp_01 y
        have hr : d + 25567 - beg y < 365 + lp y := by omega
        have HR := Lib.hid hr
        have hr' : d + 25567 - beg y ≤ 365 := by omega
        clear hs hr
        go_wp2_with (go_at_call 111; refine (begin_any _ _ (by omega) (by omega)).mono ?_; rintro e w' ⟨rfl, rfl⟩)
        go_loopw [6, 8] (fun n i wr => ∃ k : Int, 1 ≤ k ∧ k ≤ 12 ∧ 0 ≤ d + 25567 - beg y - cum y k ∧ n = .int .i64 (d + 25567 - beg y - cum y k) ∧ i = .int .i64 k ∧ Below w.heap.size w wr) (fun _ i _ => (12 - intOf i).toNat)
        case atStart => exact ⟨1, by omega, by omega, by rw [cum_one]; omega, by rw [cum_one]; go_num, rfl, Below.refl _ _⟩
        case round =>
          obtain ⟨k, k0, k1, kb, rfl, rfl, hb⟩ := hrel
          have c0 := cum_le y 1 k (by omega) k0 (by omega)
          have c1 := cum_le y k 13 k0 (by omega) (by omega)
          have lk := len_lo y k
          rw [cum_one] at c0
          rw [cum_end] at c1
          have hs := Lib.hid (cum_succ y k k0 k1)
          by_cases hc : len y k ≤ d + 25567 - beg y - cum y k
          · have hk12 : k + 1 ≤ 12 := by
              rcases Int.lt_or_eq_of_le k1 with h | h
              · omega
              · subst h
                have := hs.out
                rw [show (12 : Int) + 1 = 13 from rfl, cum_end] at this
                have := HR.out
                omega
            go_wp2_with (go_at_call 112; refine (length_any _ _ _ (by omega) (by omega)).mono ?_; rintro e w3 ⟨rfl, hb3⟩; replace hb := hb.trans (hb3.mono hb.size); clear hb3)
            go_roundw
            case rel => exact ⟨k + 1, by omega, hk12, by rw [hs.out]; omega, by rw [hs.out]; go_num, by go_num, hb⟩
            case measure => simp [intOf]; omega
          · have hfin := Lib.hid (fin4 hd y0 y1 k0 k1 kb (by omega) rfl)
            go_wp2_with (go_at_call 112; refine (length_any _ _ _ (by omega) (by omega)).mono ?_; rintro e w3 ⟨rfl, hb3⟩)
            obtain ⟨a, b, c, e⟩ := hfin.out
            refine bodyPost_ret (v := .tuple #[.int .i64 y, .int .i64 k, .int .i64 (d + 25567 - beg y - cum y k + 1), .int .i64 0]) (by simp [results, Tryz.results76, go_sem]) rfl ⟨tup4 a b c e, hb.trans (hb3.mono hb.size)⟩
set_option maxHeartbeats 1000000 in
theorem rParts_any (d : Int) (w : World) : Calls Tryz.prog 85 #[.int .i64 d] w (Ret4 (pY d) (pM d) (pD d) (pE d) w) := by
  cases hd : okDay d
  · have HN := Lib.hid (p_no hd)
    go_enter Tryz.func85, Tryz.ntmps85
    go_wp2_with (go_at_call 56; refine (check_no _ _ (by assumption)).mono ?_; rintro e w' ⟨rfl, rfl⟩)
    obtain ⟨a, b, c, e⟩ := HN.out
    refine bodyPost_ret (v := .tuple #[.int .i64 0, .int .i64 0, .int .i64 0, .int .i64 13]) (by simp [results, Tryz.results85, go_sem]) rfl ⟨tup4 a.symm b.symm c.symm e.symm, Below.refl _ _⟩
  · obtain ⟨d0, d1⟩ := (okDay_iff d).1 hd
    have hw : IntKind.i64.wrap (d - -25567) = d + 25567 := by rw [IntWalk.i64_in _ (by omega)]; omega
    go_enter Tryz.func85, Tryz.ntmps85
    go_wp2_with (go_at_call 56; refine (check_yes _ _ (by assumption)).mono ?_; rintro e w' ⟨rfl, rfl⟩)
    go_loop [6, 7, 9] (fun n i _ => ∃ y : Int, 1900 ≤ y ∧ y ≤ 2199 ∧ beg y ≤ d + 25567 ∧ n = .int .i64 (d + 25567 - beg y) ∧ i = .int .i64 y) (fun _ i _ => (2199 - intOf i).toNat)
    case atStart => exact ⟨1900, by omega, by omega, by rw [beg_first]; omega, by rw [beg_first]; go_num, rfl⟩
    case round =>
      obtain ⟨y, y0, y1, yb, rfl, rfl⟩ := hrel
      have hg1 := beg_mono 1900 y (by omega)
      have hg2 := beg_mono y 2200 (by omega)
      rw [beg_first] at hg1
      rw [beg_last] at hg2
      have hs := Lib.hid (beg_succ y)
      by_cases hk : d + 25567 - beg y < 365 + lp y
      · have HR := Lib.hid hk
        have hl := lp_01 y
        have hr' : d + 25567 - beg y ≤ 365 := by omega
        have hsplit : (leapB y = false ∧ d + 25567 - beg y < 365) ∨ (leapB y = true ∧ d + 25567 - beg y < 366) := by
          cases hb : leapB y
          · exact .inl ⟨rfl, by have := lp_of_not hb; omega⟩
          · exact .inr ⟨rfl, by omega⟩
        clear hk
        rcases hsplit with ⟨hb, hk⟩ | ⟨hb, hk⟩
        all_goals
          go_wp2_with (go_at_call 119; refine (rleap_any _ _).mono ?_; rintro e w' ⟨rfl, rfl⟩)
          go_loop [6, 8] (fun n i => ∃ k : Int, 1 ≤ k ∧ k ≤ 12 ∧ 0 ≤ d + 25567 - beg y - cum y k ∧ n = .int .i64 (d + 25567 - beg y - cum y k) ∧ i = .int .i64 k) (fun _ i => (12 - intOf i).toNat)
          case atStart => exact ⟨1, by omega, by omega, by rw [cum_one]; omega, by rw [cum_one]; go_num, rfl⟩
          case round =>
            obtain ⟨k, k0, k1, kb, rfl, rfl⟩ := hrel
            have c0 := cum_le y 1 k (by omega) k0 (by omega)
            have c1 := cum_le y k 13 k0 (by omega) (by omega)
            have lk := len_lo y k
            rw [cum_one] at c0
            rw [cum_end] at c1
            have hs := Lib.hid (cum_succ y k k0 k1)
            by_cases hc : len y k ≤ d + 25567 - beg y - cum y k
            · have hk12 : k + 1 ≤ 12 := by
                rcases Int.lt_or_eq_of_le k1 with h | h
                · omega
                · subst h
                  have := hs.out
                  rw [show (12 : Int) + 1 = 13 from rfl, cum_end] at this
                  have := HR.out
                  omega
              go_wp2_with (go_at_call 120; refine (rlength_any _ _ _ (by omega) (by omega)).mono ?_; rintro e w3 ⟨rfl, rfl⟩)
              go_round
              case rel => exact ⟨k + 1, by omega, hk12, by rw [hs.out]; omega, by rw [hs.out]; go_num, by go_num⟩
              case measure => simp [intOf]; omega
            · have hfin := Lib.hid (fin4 hd y0 y1 k0 k1 kb (by omega) rfl)
              go_wp2_with (go_at_call 120; refine (rlength_any _ _ _ (by omega) (by omega)).mono ?_; rintro e w3 ⟨rfl, rfl⟩)
              obtain ⟨a, b, c, e⟩ := hfin.out
              refine bodyPost_ret (v := .tuple #[.int .i64 y, .int .i64 k, .int .i64 (d + 25567 - beg y - cum y k + 1), .int .i64 0]) (by simp [results, Tryz.results85, go_sem]) rfl ⟨tup4 a b c e, Below.refl _ _⟩
      · have hy : y + 1 ≤ 2199 := by
          have := beg_mono 2200 (y + 1)
          have := hs.out
          rw [beg_last] at *
          omega
        cases hb : leapB y
        · have HL := Lib.hid (lp_of_not hb)
          have hk' : 365 ≤ d + 25567 - beg y := by have := HL.out; omega
          clear hk
          go_wp2_with (go_at_call 119; refine (rleap_any _ _).mono ?_; rintro e w' ⟨rfl, rfl⟩)
          go_round
          case rel => exact ⟨y + 1, by omega, by omega, by rw [hs.out, HL.out]; omega, by rw [hs.out, HL.out]; go_num, by go_num⟩
          case measure => simp [intOf]; omega
        · have HL := Lib.hid (lp_of_leap hb)
          have hk' : 366 ≤ d + 25567 - beg y := by have := HL.out; omega
          clear hk
          go_wp2_with (go_at_call 119; refine (rleap_any _ _).mono ?_; rintro e w' ⟨rfl, rfl⟩)
          go_round
          case rel => exact ⟨y + 1, by omega, by omega, by rw [hs.out, HL.out]; omega, by rw [hs.out, HL.out]; go_num, by go_num⟩
          case measure => simp [intOf]; omega
theorem Parts_yes (d : Int) (w : World) (h : okDay d = true) : Calls Tryz.prog 76 #[.int .i64 d] w (Ret4 (yOf d) (mOf d) (dOf d) 0 w) := by
  have := Parts_any d w
  rwa [(p_yes h).1, (p_yes h).2.1, (p_yes h).2.2.1, (p_yes h).2.2.2] at this
theorem Parts_no (d : Int) (w : World) (h : okDay d = false) : Calls Tryz.prog 76 #[.int .i64 d] w (Ret4 0 0 0 13 w) := by
  have := Parts_any d w
  rwa [(p_no h).1, (p_no h).2.1, (p_no h).2.2.1, (p_no h).2.2.2] at this
theorem rParts_yes (d : Int) (w : World) (h : okDay d = true) : Calls Tryz.prog 85 #[.int .i64 d] w (Ret4 (yOf d) (mOf d) (dOf d) 0 w) := by
  have := rParts_any d w
  rwa [(p_yes h).1, (p_yes h).2.1, (p_yes h).2.2.1, (p_yes h).2.2.2] at this
theorem rParts_no (d : Int) (w : World) (h : okDay d = false) : Calls Tryz.prog 85 #[.int .i64 d] w (Ret4 0 0 0 13 w) := by
  have := rParts_any d w
  rwa [(p_no h).1, (p_no h).2.1, (p_no h).2.2.1, (p_no h).2.2.2] at this
def dayE (d : Int) : Int := if okDay d then 0 else 13
end Go.Proofs.YtjcbohbpkodkoaaGreatDoor.Dat

/- Contracts of Print and awake. -/
namespace Go.Proofs.YtjcbohbpkodkoaaGreatDoor.Dat
open Go.RowKit

/-- the table of the powers of ten holds them -/
def Tab (w : World) : Prop := Lib.TabIs Tryz.prog w "internal/strconv.uint64pow10" .u64 Lib.pow10Tab
theorem gPow : Tryz.prog.globalNamed "internal/strconv.uint64pow10" = some 1 := by kernel_rfl
theorem Tab.below {w w' : World} (h : Tab w) (hb : Below w.heap.size w w') : Tab w' := Joins.tab_stays gPow h hb (Nat.le_refl _)
def dg (k : Nat) : UInt8 := UInt8.ofNat (48 + k)
theorem dec1 (n : Nat) (h : n < 10) : Lib.decDigits n = [dg n] := by rw [Lib.decDigits, dif_pos h]; rfl
theorem dec2 (n : Nat) (h : 10 ≤ n) (h' : n < 100) : Lib.decDigits n = [dg (n / 10), dg (n % 10)] := by
  rw [Lib.decDigits, dif_neg (by omega), dec1 _ (by omega)]; rfl
theorem dec4 (n : Nat) (h : 1000 ≤ n) (h' : n < 10000) : Lib.decDigits n = [dg (n / 1000), dg (n / 100 % 10), dg (n / 10 % 10), dg (n % 10)] := by
  rw [Lib.decDigits, dif_neg (by omega), Lib.decDigits, dif_neg (by omega), dec2 _ (by omega) (by omega), show n / 10 / 10 / 10 = n / 1000 by omega, show n / 10 / 10 % 10 = n / 100 % 10 by omega]; rfl
def dig2 (n : Nat) : List UInt8 := [dg (n / 10), dg (n % 10)]
def dig4 (n : Nat) : List UInt8 := [dg (n / 1000), dg (n / 100 % 10), dg (n / 10 % 10), dg (n % 10)]
def textL (y m d : Int) : List UInt8 := dig4 y.toNat ++ [45] ++ dig2 m.toNat ++ [45] ++ dig2 d.toNat
theorem itoa1 (n : Nat) (w : World) (h : n < 10) : Calls Tryz.prog 47 #[.int .i64 (n : Int)] w fun e w' => e = .returned (.string ⟨#[dg n]⟩) ∧ w = w' :=
  (Tryz.strconv_Itoa_small n (by omega) w).mono fun _ _ ⟨he, hw⟩ => ⟨by rw [he, dec1 n h], hw.symm⟩
theorem itoa2 (n : Nat) (w : World) (h : 10 ≤ n) (h' : n < 100) : Calls Tryz.prog 47 #[.int .i64 (n : Int)] w fun e w' => e = .returned (.string ⟨#[dg (n / 10), dg (n % 10)]⟩) ∧ w = w' :=
  (Tryz.strconv_Itoa_small n (by omega) w).mono fun _ _ ⟨he, hw⟩ => ⟨by rw [he, dec2 n h h'], hw.symm⟩
theorem itoa4 (n : Int) (w : World) (h : 1000 ≤ n) (h' : n < 10000) (ht : Tab w) : Calls Tryz.prog 47 #[.int .i64 n] w fun e w' => e = .returned (.string ⟨#[dg (n.toNat / 1000), dg (n.toNat / 100 % 10), dg (n.toNat / 10 % 10), dg (n.toNat % 10)]⟩) ∧ Below w.heap.size w w' :=
  (Tryz.strconv_Itoa n (by omega) (by omega) w ht).mono fun _ _ ⟨he, k, os, hw⟩ => ⟨by
    rw [he]
    have : Lib.itoa n = Lib.decDigits n.toNat := by rw [Lib.itoa, if_neg (by omega)]
    rw [this, dec4 n.toNat (by omega) (by omega)], by
    rw [hw]; exact ⟨rfl, rfl, rfl, by simp [Sort.grow, World.drewN], fun j hj => by simp [Sort.grow, World.drewN, Array.getElem?_append, hj]⟩⟩
theorem two_any (n : Int) (w : World) (h : 1 ≤ n) (h' : n ≤ 31) : Calls Tryz.prog 77 #[.int .i64 n] w fun e w' => e = .returned (.string ⟨#[dg (n.toNat / 10), dg (n.toNat % 10)]⟩) ∧ w = w' := by
  obtain ⟨k, rfl⟩ := Int.eq_ofNat_of_zero_le (show 0 ≤ n by omega)
  rw [Int.toNat_natCast]
  by_cases hk : k < 10
  · have H := Lib.hid (show dg (k / 10) = 48 ∧ dg (k % 10) = dg k by rw [Nat.div_eq_of_lt hk, Nat.mod_eq_of_lt hk]; exact ⟨rfl, rfl⟩)
    generalize hx : dg k = x at *
    have HX := Lib.hid hx
    have hit : ∀ w, Calls Tryz.prog 47 #[.int .i64 (k : Int)] w fun e w' => e = .returned (.string ⟨#[x]⟩) ∧ w = w' := fun w => by rw [← hx]; exact itoa1 k w hk
    have HI := Lib.hid hit
    clear hx hit
    go_enter Tryz.func77, Tryz.ntmps77
    go_wp2_with fail
    refine (HI.out _).mono ?_
    rintro e w1 ⟨rfl, rfl⟩
    go_wp2_with fail
    refine (Tryz.strings_Repeat_one _ _).mono ?_
    rintro e w1 ⟨rfl, rfl⟩
    go_wp2_with fail
    refine (HI.out _).mono ?_
    rintro e w1 ⟨rfl, rfl⟩
    go_wp2_with fail
    go_ret
    exact ⟨by rw [H.out.1, H.out.2]; rfl, rfl⟩
  · generalize hx : dg (k / 10) = x at *
    generalize hy : dg (k % 10) = y at *
    have hit : ∀ w, Calls Tryz.prog 47 #[.int .i64 (k : Int)] w fun e w' => e = .returned (.string ⟨#[x, y]⟩) ∧ w = w' := fun w => by rw [← hx, ← hy]; exact itoa2 k w (by omega) (by omega)
    have HI := Lib.hid hit
    clear hx hy hit
    go_enter Tryz.func77, Tryz.ntmps77
    go_wp2_with fail
    refine (HI.out _).mono ?_
    rintro e w1 ⟨rfl, rfl⟩
    go_wp2_with fail
    refine (Tryz.strings_Repeat_zero _ _).mono ?_
    rintro e w1 ⟨rfl, rfl⟩
    go_wp2_with fail
    refine (HI.out _).mono ?_
    rintro e w1 ⟨rfl, rfl⟩
    go_wp2_with fail
    go_ret
    exact ⟨rfl, rfl⟩
def RetS (s : List UInt8) (n : Int) (w : World) (e : Ending) (w' : World) : Prop := e = .returned (.tuple #[.string ⟨s.toArray⟩, .int .i64 n]) ∧ Below w.heap.size w w'
noncomputable def prS (d : Int) : List UInt8 := if okDay d then textL (yOf d) (mOf d) (dOf d) else []
theorem Print_any (d : Int) (w : World) (ht : Tab w) : Calls Tryz.prog 46 #[.int .i64 d] w (RetS (prS d) (dayE d) w) := by
  cases hd : okDay d
  · have HN := Lib.hid (show prS d = [] ∧ dayE d = 13 by simp [prS, dayE, hd])
    go_enter Tryz.func46, Tryz.ntmps46
    go_wp2_with (go_at_call 76; refine (Parts_no _ _ (by assumption)).mono ?_; rintro e w' ⟨rfl, hb⟩)
    go_ret2
    exact ⟨by rw [HN.out.1, HN.out.2]; rfl, hb⟩
  · obtain ⟨d0, d1⟩ := (okDay_iff d).1 hd
    have hv := (date_valid d d0 d1).1
    have y0 := hv.y0; have y1 := hv.y1; have m0 := hv.m0; have m1 := hv.m1; have q0 := hv.d0; have q1 := hv.d1
    have hl := len_lo (yOf d) (mOf d)
    have HN := Lib.hid (show prS d = textL (yOf d) (mOf d) (dOf d) ∧ dayE d = 0 by simp [prS, dayE, hd])
    clear hv
    go_enter Tryz.func46, Tryz.ntmps46
    go_wp2_with fail
    refine (Parts_yes _ _ hd).mono ?_
    rintro e w1 ⟨rfl, hb1⟩
    have ht1 := ht.below hb1
    go_wp2_with fail
    refine (itoa4 _ _ (by omega) (by omega) ht1).mono ?_
    rintro e w2 ⟨rfl, hb2⟩
    have hT := Lib.hid (show textL (yOf d) (mOf d) (dOf d) = dig4 (yOf d).toNat ++ [45] ++ dig2 (mOf d).toNat ++ [45] ++ dig2 (dOf d).toNat from rfl)
    generalize h1 : dg ((yOf d).toNat / 1000) = c1 at *
    generalize h2 : dg ((yOf d).toNat / 100 % 10) = c2 at *
    generalize h3 : dg ((yOf d).toNat / 10 % 10) = c3 at *
    generalize h4 : dg ((yOf d).toNat % 10) = c4 at *
    have HH := Lib.hid (And.intro h1 (And.intro h2 (And.intro h3 h4)))
    clear h1 h2 h3 h4
    go_wp2_with fail
    refine (two_any _ _ (by omega) (by omega)).mono ?_
    rintro e w3 ⟨rfl, rfl⟩
    generalize h1 : dg ((mOf d).toNat / 10) = c5 at *
    generalize h2 : dg ((mOf d).toNat % 10) = c6 at *
    have HG := Lib.hid (And.intro h1 h2)
    clear h1 h2
    go_wp2_with fail
    refine (two_any _ _ (by omega) (by omega)).mono ?_
    rintro e w3 ⟨rfl, rfl⟩
    generalize h1 : dg ((dOf d).toNat / 10) = c7 at *
    generalize h2 : dg ((dOf d).toNat % 10) = c8 at *
    have HF := Lib.hid (And.intro h1 h2)
    clear h1 h2
    go_wp2_with fail
    go_ret2
    refine ⟨?_, hb1.trans (hb2.mono hb1.size)⟩
    obtain ⟨e1, e2, e3, e4⟩ := HH.out
    obtain ⟨e5, e6⟩ := HG.out
    obtain ⟨e7, e8⟩ := HF.out
    rw [HN.out.1, HN.out.2, hT.out, dig4, dig2, dig2, e1, e2, e3, e4, e5, e6, e7, e8]
    rfl
end Go.Proofs.YtjcbohbpkodkoaaGreatDoor.Dat

/- Contracts of library functions at this translation, laid by the kit. -/
namespace Go.Proofs
open Go.Shelf
def Tryz.lays156_ren : Go.Shelf.Ren := ⟨fun | 156 => 44 | 165 => 75 | 166 => 43 | 169 => 49 | 240 => 74 | 241 => 109 | 276 => 108 | 277 => 147 | n => n, fun | 31 => 23 | 9 => 9 | 3 => 3 | 4 => 4 | 0 => 0 | 20 => 20 | 72 => 86 | 76 => 89 | 70 => 83 | 37 => 84 | 75 => 88 | 127 => 121 | 164 => 153 | 5 => 5 | 80 => 98 | n => n, fun | n => n⟩
theorem Tryz.lays156 : Go.Proofs.Lays.n156 Tryz.prog Tryz.lays156_ren := {
  mixed := by kernel_rfl
  f156 := Tryz.func44.trans (congrArg some (by kernel_rfl))
  f165 := Tryz.func75.trans (congrArg some (by kernel_rfl))
  f166 := Tryz.func43.trans (congrArg some (by kernel_rfl))
  f169 := Tryz.func49.trans (congrArg some (by kernel_rfl))
  f240 := Tryz.func74.trans (congrArg some (by kernel_rfl))
  f241 := Tryz.func109.trans (congrArg some (by kernel_rfl))
  f276 := Tryz.func108.trans (congrArg some (by kernel_rfl))
  f277 := Tryz.func147.trans (congrArg some (by kernel_rfl))
  t0 := Tryz.underlying0
  a0 := Tryz.isAgg0
  z0 := Tryz.sizeOf0
  v0 := Tryz.zeroValue0
  t3 := Tryz.underlying3
  a3 := Tryz.isAgg3
  z3 := Tryz.sizeOf3
  v3 := Tryz.zeroValue3
  t4 := Tryz.underlying4
  a4 := Tryz.isAgg4
  z4 := Tryz.sizeOf4
  v4 := Tryz.zeroValue4
  t9 := Tryz.underlying9
  a9 := Tryz.isAgg9
  z9 := Tryz.sizeOf9
  v9 := Tryz.zeroValue9
  t20 := Tryz.underlying20
  a20 := Tryz.isAgg20
  z20 := Tryz.sizeOf20
  v20 := Tryz.zeroValue20
  t31 := Tryz.underlying23
  a31 := Tryz.isAgg23
  z31 := Tryz.sizeOf23
  v31 := Tryz.zeroValue23
  t37 := Tryz.underlying84
  a37 := Tryz.isAgg84
  z37 := Tryz.sizeOf84
  v37 := Tryz.zeroValue84
  t70 := Tryz.underlying83
  a70 := Tryz.isAgg83
  z70 := Tryz.sizeOf83
  v70 := Tryz.zeroValue83
  t72 := Tryz.underlying86
  a72 := Tryz.isAgg86
  z72 := Tryz.sizeOf86
  v72 := Tryz.zeroValue86
  t75 := Tryz.underlying88
  a75 := Tryz.isAgg88
  z75 := Tryz.sizeOf88
  v75 := Tryz.zeroValue88
  t76 := Tryz.underlying89
  a76 := Tryz.isAgg89
  z76 := Tryz.sizeOf89
  v76 := Tryz.zeroValue89
  t127 := Tryz.underlying121
  a127 := Tryz.isAgg121
  z127 := Tryz.sizeOf121
  v127 := Tryz.zeroValue121
  t164 := Tryz.underlying153
  a164 := Tryz.isAgg153
  z164 := Tryz.sizeOf153
  v164 := Tryz.zeroValue153 }
theorem Tryz.Builder_Extra_156 : Builder.Extra Tryz.prog Tryz.lays156_ren := {
  sizeBuilder := by kernel_rfl
  liesBuilder := by kernel_rfl
  t5 := Tryz.underlying5
  a5 := Tryz.isAgg5
  z5 := Tryz.sizeOf5
  v5 := Tryz.zeroValue5
  infoByte := by kernel_rfl
  cellsByte := by kernel_rfl
  sizeByte := by kernel_rfl
  neB5 := by decide }
open Go.RowKit in
theorem Tryz.strings_Join (bk o c : Nat) (xs : List ByteArray) (sep : ByteArray) (w : World) (hcells : ∀ (j : Nat) x, xs[j]? = some x → w.cell? ⟨bk, o + j, none⟩ = some (.string x)) (hbk : bk < w.heap.size) (hN : xs.length ≤ 140737488355328) (hcap : xs.length ≤ c) (hlen : (Lib.join (xs.map (·.data.toList)) sep.data.toList).length ≤ 140737488355328) :
    Calls Tryz.prog 44 #[.slice (some ⟨bk, o, none⟩) xs.length c, .string sep] w fun e w' => e = .returned (.string ⟨(Lib.join (xs.map (·.data.toList)) sep.data.toList).toArray⟩) ∧ Below w.heap.size w w' := Any.strings_Join Tryz.lays156 Tryz.Builder_Extra_156 bk o c xs sep w hcells hbk hN hcap hlen
end Go.Proofs

/- Audit: contracts of text's closures. -/
namespace Go.Proofs.YtjcbohbpkodkoaaGreatDoor
open Go.RowKit Go.Maps Num

theorem join_any (A : Option Addr) (n c : Nat) (l : List (List UInt8)) (w : World) (h : rowS.Rds w A n c l) (h0 : 0 < n) (hn : n ≤ 1000) (hl : (Lib.join l [32]).length ≤ 100000) :
    Calls Tryz.prog 44 #[.slice A n c, .string ⟨#[32]⟩] w (StrPost (Lib.join l [32]) w) := by
  obtain ⟨b, o, rfl, hb, _⟩ := h.at_ h0
  have e1 : (l.map fun x => (⟨x.toArray⟩ : ByteArray)).map (·.data.toList) = l := by
    rw [List.map_map]
    exact (List.map_congr_left fun x _ => rfl).trans (List.map_id l)
  have e2 : (l.map fun x => (⟨x.toArray⟩ : ByteArray)).length = n := by rw [List.length_map, h.len]
  have H := Tryz.strings_Join b o c (l.map fun x => ⟨x.toArray⟩) ⟨#[32]⟩ w (fun j x hx => by
      rw [List.getElem?_map] at hx
      obtain ⟨y, hy, rfl⟩ := Option.map_eq_some_iff.1 hx
      have hj : j < l.length := (List.getElem?_eq_some_iff.1 hy).1
      have h2 := rdsS h j (by rw [← h.len]; exact hj)
      rw [List.getD_eq_getElem?_getD, hy] at h2
      exact h2) hb (by rw [e2]; omega) (by rw [e2]; exact h.cap) (by
      rw [e1]
      show (Lib.join l [32]).length ≤ _
      omega)
  rw [e1, e2] at H
  exact H
theorem join3 (a b c : List UInt8) : Lib.join [a, b, c] [32] = a ++ ([32] ++ (b ++ ([32] ++ c))) := by simp [Lib.join, List.intercalate]
theorem join2 (a b : List UInt8) : Lib.join [a, b] [32] = a ++ ([32] ++ b) := by simp [Lib.join, List.intercalate]
/-- a builder of the call's own that holds l, and may be frozen at its head -/
def BldF (B b : Nat) (l : List UInt8) (w : World) : Prop := Lib.IsBuilderF 86 5 B b (Lib.byteCells l) w
theorem BldAtF_below {B b : Nat} {p : Value} {bs : List Value} {w w' : World} (h : Lib.BuilderAtF 86 5 B b p bs w) (hb : Below w.heap.size w w') : Lib.BuilderAtF 86 5 B b p bs w' := by
  obtain ⟨hB, v, hbk, hown, hne⟩ := h
  refine ⟨hB, v, (hb.block _ (Array.getElem?_eq_some_iff.1 hbk).1).trans hbk, hown.kept (row := none) (grown_of_below hb) ?_, hne⟩
  cases v.ownBlock with
  | none => exact .inl rfl
  | some g => exact .inr (fun e => by cases e)
theorem BldF.below {B b : Nat} {l : List UInt8} {w w' : World} (h : BldF B b l w) (hb : Below w.heap.size w w') : BldF B b l w' := by
  rcases h with h | h
  · exact .inl (BldAtF_below h hb)
  · exact .inr (BldAtF_below h hb)
theorem BldF.lt {B b : Nat} {l : List UInt8} {w : World} (h : BldF B b l w) : b < w.heap.size := by
  rcases h with ⟨_, v, hbk, _⟩ | ⟨_, v, hbk, _⟩ <;> exact (Array.getElem?_eq_some_iff.1 hbk).1
theorem BldF.of {B b : Nat} {l : List UInt8} {w : World} (h : Bld B b l w) : BldF B b l w := Lib.IsBuilderF.of h
theorem BldF.al {B b : Nat} {l : List UInt8} {w : World} (h : BldF B b l w) (o : Obj) : BldF B b l (w.alloc o) := h.below ((Below.refl _ w).alloc (Nat.le_refl _) o)
theorem others_below {e : TypeId} {b : Option Nat} {w w' : World} (h : Below w.heap.size w w') : Lib.OthersKept e b w w' := fun k _ hk _ _ => (h.block k (Array.getElem?_eq_some_iff.1 hk).1).trans hk
theorem wsF_any (B b : Nat) (l x : List UInt8) (w : World) (h : BldF B b l w) (hl : l.length + x.length ≤ 100000) (hB : B ≤ w.heap.size) :
    Calls Tryz.prog 43 #[.pointer (some ⟨b, 0, none⟩), .string ⟨x.toArray⟩] w fun e w' => e = .returned (.tuple #[.int .i64 (x.length : Int), .nilIface]) ∧ BldF B b (l ++ x) w' ∧ Below B w w' ∧ Lib.OthersKept 5 (some b) w w' := by
  have hx : (⟨x.toArray⟩ : ByteArray).size = x.length := rfl
  refine (Any.Builder_WriteString_k ({ Tryz.lays105 with } : Go.Proofs.Lays.n166 Tryz.prog Tryz.lays105_ren) Tryz.Builder_Extra_105 B b _ ⟨x.toArray⟩ w h (by rw [cells_len, hx]; omega) hB).mono ?_
  rintro e w' ⟨he, hw, hb, ho⟩
  exact ⟨he, .inr (by rw [← cells_app]; exact hw), hb, ho⟩
theorem strF_any (B b : Nat) (l : List UInt8) (w : World) (h : BldF B b l w) (hB : B ≤ w.heap.size) :
    Calls Tryz.prog 49 #[.pointer (some ⟨b, 0, none⟩)] w fun e w' => e = .returned (.string ⟨l.toArray⟩) ∧ Below B w w' :=
  (Any.Builder_String_any_k Tryz.lays169 Tryz.Builder_Extra_169 B b l w h hB).mono fun _ _ ⟨he, _, hb, _⟩ => ⟨he, hb⟩
set_option maxRecDepth 100000 in
theorem line_any (A : Option Addr) (n c : Nat) (l : List (List UInt8)) (B b : Nat) (T : List UInt8) (w : World) (h : rowS.Rds w A n c l) (h0 : 0 < n) (hn : n ≤ 3) (hj : (Lib.join l [32]).length ≤ 1000) (hB : B ≤ w.heap.size) (hb : BldF B b T w) (hT : T.length ≤ 90000) :
    Calls Tryz.prog 42 #[.slice A n c, .pointer (some ⟨b, 0, none⟩)] w fun e w' => e = .returned (.tuple #[]) ∧ BldF B b (T ++ (Lib.join l [32] ++ [10])) w' ∧ Below B w w' ∧ Lib.OthersKept 5 (some b) w w' := by
  have HJ := Lib.hid (join_any A n c l w h h0 (by omega) (by omega))
  have HB := Lib.hid hB
  have HL := Lib.hid hb
  obtain ⟨J, hJ⟩ : ∃ J, Lib.join l [32] = J := ⟨_, rfl⟩
  rw [hJ] at HJ hj ⊢
  obtain ⟨K, hK⟩ : ∃ K, J ++ [10] = K := ⟨_, rfl⟩
  have k1 := fun W => cat_run J [10] K (by simp; omega) hK W
  have hKl : K.length ≤ 1001 := by rw [← hK]; simp; omega
  have HW := Lib.hid (fun W (h1 : BldF B b T W) (h2 : B ≤ W.heap.size) => wsF_any B b T K W h1 (by omega) h2)
  rw [hK]
  unfold StrPost at HJ
  clear h hJ hb hB hK hj hKl hT h0 hn
  go_enter Tryz.func42, Tryz.ntmps42
  go_wp2_with fail
  refine HJ.out.mono ?_
  rintro e w1 ⟨rfl, hb1⟩
  have L1 := Lib.hid (HL.out.below hb1)
  have B1 := Lib.hid (hb1.mono HB.out)
  have Z1 := Lib.hid (Nat.le_trans HB.out hb1.size)
  have O1 := Lib.hid (others_below (e := 5) (b := some b) hb1)
  clear hb1 HJ HL
  go_wp2_with fail
  refine (HW.out _ L1.out Z1.out).mono ?_
  rintro e w2 ⟨rfl, h2, h3, h4⟩
  have L2 := Lib.hid h2
  have B2 := Lib.hid (B1.out.trans h3)
  have O2 := Lib.hid (O1.out.trans h4)
  clear h2 h3 h4 HW L1 O1
  go_wp2_with fail
  go_end0
  exact ⟨rfl, L2.out, B2.out, O2.out⟩
theorem day_any (d : Int) (w : World) (ht : Tab w) : Calls Tryz.prog 45 #[.int .i64 d] w (StrPost (Dat.prS d) w) := by
  have HD := Lib.hid (Dat.Print_any d w ht)
  unfold Dat.RetS at HD
  generalize Dat.prS d = s at *
  generalize Dat.dayE d = i at *
  go_enter Tryz.func45, Tryz.ntmps45
  go_wp2_with fail
  refine HD.out.mono ?_
  rintro e w1 ⟨rfl, hb⟩
  have HB := Lib.hid hb
  clear hb
  go_wp2_with fail
  go_ret
  exact ⟨rfl, HB.out⟩
end Go.Proofs.YtjcbohbpkodkoaaGreatDoor

/- Audit: contract of text. -/
namespace Go.Proofs.YtjcbohbpkodkoaaGreatDoor
open Go.RowKit Go.Maps Num

theorem itoa_any (n : Int) (w : World) (h0 : -9223372036854775808 ≤ n) (h1 : n ≤ 9223372036854775807) (ht : Tab w) : Calls Tryz.prog 47 #[.int .i64 n] w (StrPost (Lib.itoa n) w) :=
  (Tryz.strconv_Itoa n h0 h1 w ht).mono fun _ _ ⟨he, k, os, hw⟩ => ⟨he, by
    rw [hw]; exact ⟨rfl, rfl, rfl, by simp [Sort.grow, World.drewN], fun j hj => by simp [Sort.grow, World.drewN, Array.getElem?_append, hj]⟩⟩
theorem prS_len (d : Int) : (Dat.prS d).length ≤ 10 := by
  unfold Dat.prS
  split
  · simp [Dat.textL, Dat.dig4, Dat.dig2]
  · simp
theorem itoa_len21 (n : Int) (h0 : -9223372036854775808 ≤ n) (h1 : n ≤ 9223372036854775807) : (Lib.itoa n).length ≤ 21 := by
  by_cases h : n = 0
  · subst h; rw [itoa_zero]; decide
  · rw [itoa_txt n h]
    have := txt_bd (v := n) (k := 20) (by omega)
    omega
/-- the text of a line -/
def lnT (x : Ln) : List UInt8 := Lib.join [x.1, x.2.1, prt x.2.2] [32] ++ [10]
/-- the text ahead of the lines -/
noncomputable def hdT (d kn : Int) (bz : List UInt8) (d1 : Int) (cz : List UInt8) : List UInt8 := (Lib.join [Dat.prS d, Lib.itoa kn, bz] [32] ++ [10]) ++ (Lib.join [Dat.prS d1, cz] [32] ++ [10])
/-- the text of a posted entry -/
noncomputable def poT (x : Po) : List UInt8 := hdT x.1.1 x.1.2.1 x.1.2.2 x.2.1 x.2.2.1 ++ x.2.2.2.flatMap lnT
/-- three strings in a block of their own -/
theorem rdsS3 (W : World) (a b c : List UInt8) : rowS.Rds (W.alloc (.cells #[.string ⟨a.toArray⟩, .string ⟨b.toArray⟩, .string ⟨c.toArray⟩] 9)) (some ⟨W.heap.size, 0, none⟩) 3 3 [a, b, c] :=
  ⟨rfl, Nat.le_refl _, by unfold maxLen; omega, fun _ => ⟨W.heap.size, 0, rfl, by simp, fun j u hu => by
    rw [Nat.zero_add, cell_of_row _ _ _ _ _ _ (heap_alloc_new W _)]
    simpa [Row.vs] using hu⟩⟩
theorem rdsS2 (W : World) (a b : List UInt8) : rowS.Rds (W.alloc (.cells #[.string ⟨a.toArray⟩, .string ⟨b.toArray⟩] 9)) (some ⟨W.heap.size, 0, none⟩) 2 2 [a, b] :=
  ⟨rfl, Nat.le_refl _, by unfold maxLen; omega, fun _ => ⟨W.heap.size, 0, rfl, by simp, fun j u hu => by
    rw [Nat.zero_add, cell_of_row _ _ _ _ _ _ (heap_alloc_new W _)]
    simpa [Row.vs] using hu⟩⟩
/-- text's line at three words in a block of their own -/
theorem line3_any (B b : Nat) (T x y z : List UInt8) (W : World) (hB : B ≤ W.heap.size) (hb : BldF B b T W) (hT : T.length ≤ 90000) (hl : x.length ≤ 100) (hl2 : y.length ≤ 100) (hl3 : z.length ≤ 100) :
    Calls Tryz.prog 42 #[.slice (some ⟨W.heap.size, 0, none⟩) 3 3, .pointer (some ⟨b, 0, none⟩)] (W.alloc (.cells #[.string ⟨x.toArray⟩, .string ⟨y.toArray⟩, .string ⟨z.toArray⟩] 9)) fun e w' => e = .returned (.tuple #[]) ∧ BldF B b (T ++ (Lib.join [x, y, z] [32] ++ [10])) w' ∧ Below B W w' ∧ Lib.OthersKept 5 (some b) W w' := by
  refine (line_any _ 3 3 [x, y, z] B b T _ (rdsS3 W x y z) (by omega) (by omega) (by rw [join3]; simp; omega) (by simp; omega) (hb.al _) hT).mono ?_
  rintro e w' ⟨he, h1, h2, h3⟩
  exact ⟨he, h1, ((Below.refl B W).alloc hB _).trans h2, ((Lib.OthersKept.refl 5 (some b) W).alloc _).trans h3⟩
theorem line2_any (B b : Nat) (T x y : List UInt8) (W : World) (hB : B ≤ W.heap.size) (hb : BldF B b T W) (hT : T.length ≤ 90000) (hl : x.length ≤ 100) (hl2 : y.length ≤ 100) :
    Calls Tryz.prog 42 #[.slice (some ⟨W.heap.size, 0, none⟩) 2 2, .pointer (some ⟨b, 0, none⟩)] (W.alloc (.cells #[.string ⟨x.toArray⟩, .string ⟨y.toArray⟩] 9)) fun e w' => e = .returned (.tuple #[]) ∧ BldF B b (T ++ (Lib.join [x, y] [32] ++ [10])) w' ∧ Below B W w' ∧ Lib.OthersKept 5 (some b) W w' := by
  refine (line_any _ 2 2 [x, y] B b T _ (rdsS2 W x y) (by omega) (by omega) (by rw [join2]; simp; omega) (by simp; omega) (hb.al _) hT).mono ?_
  rintro e w' ⟨he, h1, h2, h3⟩
  exact ⟨he, h1, ((Below.refl B W).alloc hB _).trans h2, ((Lib.OthersKept.refl 5 (some b) W).alloc _).trans h3⟩
end Go.Proofs.YtjcbohbpkodkoaaGreatDoor

/- Audit: contract of text. -/
namespace Go.Proofs.YtjcbohbpkodkoaaGreatDoor
open Go.RowKit Go.Maps Num

theorem hdT_len (d kn : Int) (bz : List UInt8) (d1 : Int) (cz : List UInt8) (hbz : bz.length ≤ 60) (hcz : cz.length ≤ 60) (h0 : -9223372036854775808 ≤ kn) (h1 : kn ≤ 9223372036854775807) : (hdT d kn bz d1 cz).length ≤ 200 := by
  unfold hdT
  rw [join3, join2]
  have := prS_len d
  have := prS_len d1
  have := itoa_len21 kn h0 h1
  simp
  omega
theorem lnT_len (x : Ln) (h : x.1.length ≤ 60 ∧ x.2.1.length ≤ 60 ∧ x.2.2.length ≤ 13) : (lnT x).length ≤ 150 := by
  unfold lnT
  rw [join3]
  have := prt_len x.2.2
  have := can_len x.2.2
  simp
  omega
theorem lnsT_len (l : List Ln) (h : ∀ x ∈ l, x.1.length ≤ 60 ∧ x.2.1.length ≤ 60 ∧ x.2.2.length ≤ 13) : (l.flatMap lnT).length ≤ 150 * l.length := by
  induction l with
  | nil => simp
  | cons x r ih =>
    have h1 := lnT_len x (h x (by simp))
    have h2 := ih fun y hy => h y (List.mem_cons_of_mem _ hy)
    rw [List.flatMap_cons, List.length_append, List.length_cons]
    omega
theorem lnsT_take (l : List Ln) (k : Nat) (h : k < l.length) : (l.take (k + 1)).flatMap lnT = (l.take k).flatMap lnT ++ lnT (l.getD k ln0) := by
  rw [take_ln l k h, List.flatMap_append]
  simp
set_option maxRecDepth 100000 in
set_option maxHeartbeats 8000000 in
theorem ptext_any (d kn : Int) (bz : List UInt8) (d1 : Int) (cz : List UInt8) (A : Option Addr) (n c : Nat) (l : List Ln) (w : World) (hl : Lns w A n c l) (hbz : bz.length ≤ 60) (hcz : cz.length ≤ 60) (hn : n ≤ 66)
    (hs : ∀ x ∈ l, x.1.length ≤ 60 ∧ x.2.1.length ≤ 60 ∧ x.2.2.length ≤ 13) (h0 : -9223372036854775808 ≤ kn) (h1 : kn ≤ 9223372036854775807) (ht : Tab w) :
    Calls Tryz.prog 24 #[.agg (poC d kn bz d1 cz A n c)] w (StrPost (poT ((d, kn, bz), (d1, cz, l))) w) := by
  have hBA : Below w.heap.size w ((w.alloc (.cells (poC d kn bz d1 cz A n c) 42)).alloc (.cells #[.pointer none, .slice none 0 0] 86)) := ((Below.refl _ w).alloc (Nat.le_refl _) _).alloc (by simp) _
  have y0 : ((w.alloc (.cells (poC d kn bz d1 cz A n c) 42)).alloc (.cells #[.pointer none, .slice none 0 0] 86)).heap[w.heap.size]? = some (.cells (poC d kn bz d1 cz A n c) 42) := by
    rw [heap_alloc_old _ _ (by simp)]; exact heap_alloc_new w _
  have hbl : Bld (w.heap.size + 1) (w.heap.size + 1) [] ((w.alloc (.cells (poC d kn bz d1 cz A n c) 42)).alloc (.cells #[.pointer none, .slice none 0 0] 86)) := by
    have := Bld.fresh (w.alloc (.cells (poC d kn bz d1 cz A n c) 42))
    rwa [show (w.alloc (.cells (poC d kn bz d1 cz A n c) 42)).heap.size = w.heap.size + 1 by simp] at this
  have hsz : ((w.alloc (.cells (poC d kn bz d1 cz A n c) 42)).alloc (.cells #[.pointer none, .slice none 0 0] 86)).heap.size = w.heap.size + 2 := by simp
  unfold poC at hBA y0 hbl hsz
  have HP := Lib.hid (fun W T (e : poT ((d, kn, bz), (d1, cz, l)) = T) (h : Below w.heap.size w W) => (show StrPost (poT ((d, kn, bz), (d1, cz, l))) w (.returned (.string ⟨T.toArray⟩)) W from ⟨by rw [e], h⟩))
  have HE := Lib.hid (show poT ((d, kn, bz), (d1, cz, l)) = (([] ++ (Lib.join [Dat.prS d, Lib.itoa kn, bz] [32] ++ [10])) ++ (Lib.join [Dat.prS d1, cz] [32] ++ [10])) ++ l.flatMap lnT from rfl)
  generalize StrPost (poT ((d, kn, bz), (d1, cz, l))) w = Post at *
  generalize poT ((d, kn, bz), (d1, cz, l)) = PT at *
  have hp0 := prS_len d
  have hp1 := prS_len d1
  have hik := itoa_len21 kn h0 h1
  have LL := Lib.hid hl.len
  have hlt := lnsT_len l hs
  have HLT := Lib.hid (show ∀ k, ((l.take k).flatMap lnT).length ≤ 9900 from fun k => by
    have := lnsT_len (l.take k) fun x hx => hs x (List.mem_of_mem_take hx)
    have h2 : (l.take k).length ≤ 66 := by rw [List.length_take]; have := hl.len; omega
    omega)
  have DY := Lib.hid (fun W (h : Below w.heap.size w W) => day_any d W (ht.below h))
  have DY1 := Lib.hid (fun W (h : Below w.heap.size w W) => day_any d1 W (ht.below h))
  have IT := Lib.hid (fun W (h : Below w.heap.size w W) => itoa_any kn W h0 h1 (ht.below h))
  unfold StrPost at DY DY1 IT
  generalize Dat.prS d = s1 at *
  generalize Dat.prS d1 = s2 at *
  generalize Lib.itoa kn = s3 at *
  have L1 := Lib.hid hl
  have HS := Lib.hid hs
  have B0 := Lib.hid hBA
  have Y0 := Lib.hid y0
  have SZ := Lib.hid hsz
  have BL := Lib.hid (BldF.of hbl)
  obtain ⟨c0, c1, c2, c3, c4, c5⟩ := cellsP y0
  unfold poC
  clear hBA y0 hsz hbl hl hs ht h0 h1 hlt
  go_enter Tryz.func24, Tryz.ntmps24
  go_upto_region 4 with fail
  generalize (w.alloc (.cells #[.int .i64 d, .int .i64 kn, .string ⟨bz.toArray⟩, .int .i64 d1, .string ⟨cz.toArray⟩, .slice A n c] 42)).alloc (.cells #[.pointer none, .slice none 0 0] 86) = w2 at *
  have HBB := Lib.hid (show w.heap.size < w.heap.size + 1 by omega)
  have HB2 := Lib.hid (show w.heap.size + 1 ≤ w2.heap.size by have := SZ.out; omega)
  generalize w.heap.size + 1 = b at *
  clear SZ
  -- what stands while only blocks from b on change
  have ARM := Lib.hid (fun W (h : Below b w2 W) => (show Below w.heap.size w W ∧ W.heap[w.heap.size]? = some (.cells #[.int .i64 d, .int .i64 kn, .string ⟨bz.toArray⟩, .int .i64 d1, .string ⟨cz.toArray⟩, .slice A n c] 42) ∧ b ≤ W.heap.size from
    ⟨B0.out.trans (h.mono (Nat.le_of_lt HBB.out)), (h.block _ HBB.out).trans Y0.out, Nat.le_trans HB2.out h.size⟩))
  have HD := Lib.hid (Below.refl w2.heap.size w2)
  have ARMd := Lib.hid (fun W (h : Below w2.heap.size w2 W) => ARM.out W (h.mono HB2.out))
  have LN := Lib.hid (fun W (h : Below w2.heap.size w2 W) => line3_any b b [] s1 s3 bz W (Nat.le_trans HB2.out h.size) (BL.out.below h) (by simp) (by omega) (by omega) (by omega))
  have LND := Lib.hid (fun W (h : Below w2.heap.size w2 W) => line3_any b b [] s1 s3 bz W.drew (Nat.le_trans HB2.out h.size) (BL.out.below (Below.drew h)) (by simp) (by omega) (by omega) (by omega))
  go_cut [13] from 9 to 20 (fun t wx => Hid (t = .string ⟨s1.toArray⟩ ∧ BldF b b ([] ++ (Lib.join [s1, s3, bz] [32] ++ [10])) wx ∧ Below b w2 wx))
  case first =>
    go_region_held3 (fun w' => w'.cell? ⟨w.heap.size, 0, none⟩ = some (.int .i64 d) ∧ w'.cell? ⟨w.heap.size, 1, none⟩ = some (.int .i64 kn) ∧ w'.cell? ⟨w.heap.size, 2, none⟩ = some (.string ⟨bz.toArray⟩))
      (first | exact ⟨g0, g1, g2⟩ | exact ⟨c0, c1, c2⟩ | exact ⟨keepC g0, keepC g1, keepC g2⟩ | go_keep)
      (first
        | (go_at_call 45; with_reducible refine (DY.out _ (ARMd.out _ ?_).1).mono ?_; · (first | exact HD.out | exact Below.drew HD.out)
           rintro e w' ⟨rfl, hb⟩; have HD := Lib.hid (below_next HD.out hb ⟨rfl, rfl, rfl, rfl⟩); obtain ⟨g0, g1, g2, _⟩ := cellsP (ARMd.out _ HD.out).2.1; clear hb)
        | (go_at_call 47; with_reducible refine (IT.out _ (ARMd.out _ ?_).1).mono ?_; · (first | exact HD.out | exact Below.drew HD.out)
           rintro e w' ⟨rfl, hb⟩; have HD := Lib.hid (below_next HD.out hb ⟨rfl, rfl, rfl, rfl⟩); obtain ⟨g0, g1, g2, _⟩ := cellsP (ARMd.out _ HD.out).2.1; clear hb)
        | (go_at_call 42; with_reducible refine (LN.out _ HD.out).mono ?_
           rintro e w' ⟨rfl, h5, h6, _⟩; have HF := Lib.hid (And.intro h5 h6); obtain ⟨g0, g1, g2, _⟩ := cellsP (ARM.out _ ((HD.out.mono HB2.out).trans h6)).2.1; clear h5 h6)
        | (go_at_call 42; with_reducible refine (LND.out _ HD.out).mono ?_
           rintro e w' ⟨rfl, h5, h6, _⟩; have HF := Lib.hid (And.intro h5 h6); obtain ⟨g0, g1, g2, _⟩ := cellsP (ARM.out _ ((HD.out.mono HB2.out).trans h6)).2.1; clear h5 h6))
    all_goals
      go_wp2_with fail
      go_meet
      exact Lib.hid ⟨rfl, HF.out.1, (HD.out.mono HB2.out).trans HF.out.2⟩
  case rest =>
  obtain ⟨rfl, hbl1, hbb1⟩ := hcut.out
  generalize wc = w3 at *
  clear hcut LN LND HD ARMd BL c0 c1 c2 c3 c4 c5
  obtain ⟨T1, hT1⟩ : ∃ T, [] ++ (Lib.join [s1, s3, bz] [32] ++ [10]) = T := ⟨_, rfl⟩
  have hT1l : T1.length ≤ 200 := by rw [← hT1, join3]; simp; omega
  rw [hT1] at hbl1 HE
  have BL1 := Lib.hid hbl1
  have HW1 := Lib.hid hbb1
  have HD := Lib.hid (Below.refl w3.heap.size w3)
  obtain ⟨c0, c1, c2, c3, c4, c5⟩ := cellsP (ARM.out _ HW1.out).2.1
  have HB3 := Lib.hid (ARM.out _ HW1.out).2.2
  have ARMd := Lib.hid (fun W (h : Below w3.heap.size w3 W) => ARM.out W (HW1.out.trans (h.mono HB3.out)))
  have LN := Lib.hid (fun W (h : Below w3.heap.size w3 W) => line2_any b b T1 s2 cz W (Nat.le_trans HB3.out h.size) (BL1.out.below h) (by omega) (by omega) (by omega))
  have LND := Lib.hid (fun W (h : Below w3.heap.size w3 W) => line2_any b b T1 s2 cz W.drew (Nat.le_trans HB3.out h.size) (BL1.out.below (Below.drew h)) (by omega) (by omega) (by omega))
  clear hT1 hbl1 hbb1
  go_upto_region 5 with fail
  go_cut [26] from 21 to 31 (fun t wx => Hid (t = .string ⟨s2.toArray⟩ ∧ BldF b b (T1 ++ (Lib.join [s2, cz] [32] ++ [10])) wx ∧ Below b w3 wx))
  case first =>
    go_region_held3 (fun w' => w'.cell? ⟨w.heap.size, 3, none⟩ = some (.int .i64 d1) ∧ w'.cell? ⟨w.heap.size, 4, none⟩ = some (.string ⟨cz.toArray⟩))
      (first | exact ⟨g3, g4⟩ | exact ⟨c3, c4⟩ | exact ⟨keepC g3, keepC g4⟩ | go_keep)
      (first
        | (go_at_call 45; with_reducible refine (DY1.out _ (ARMd.out _ ?_).1).mono ?_; · (first | exact HD.out | exact Below.drew HD.out)
           rintro e w' ⟨rfl, hb⟩; have HD := Lib.hid (below_next HD.out hb ⟨rfl, rfl, rfl, rfl⟩); obtain ⟨_, _, _, g3, g4, _⟩ := cellsP (ARMd.out _ HD.out).2.1; clear hb)
        | (go_at_call 42; with_reducible refine (LN.out _ HD.out).mono ?_
           rintro e w' ⟨rfl, h5, h6, _⟩; have HF := Lib.hid (And.intro h5 h6); obtain ⟨_, _, _, g3, g4, _⟩ := cellsP (ARM.out _ (HW1.out.trans ((HD.out.mono HB3.out).trans h6))).2.1; clear h5 h6)
        | (go_at_call 42; with_reducible refine (LND.out _ HD.out).mono ?_
           rintro e w' ⟨rfl, h5, h6, _⟩; have HF := Lib.hid (And.intro h5 h6); obtain ⟨_, _, _, g3, g4, _⟩ := cellsP (ARM.out _ (HW1.out.trans ((HD.out.mono HB3.out).trans h6))).2.1; clear h5 h6))
    all_goals
      go_wp2_with fail
      go_meet
      exact Lib.hid ⟨rfl, HF.out.1, (HD.out.mono HB3.out).trans HF.out.2⟩
  case rest =>
  obtain ⟨rfl, hbl1, hbb1⟩ := hcut.out
  generalize wc = w4 at *
  clear hcut LN LND HD ARMd BL1 c0 c1 c2 c3 c4 c5
  obtain ⟨T2, hT2⟩ : ∃ T, T1 ++ (Lib.join [s2, cz] [32] ++ [10]) = T := ⟨_, rfl⟩
  have hT2l : T2.length ≤ 400 := by rw [← hT2, join2]; simp; omega
  rw [hT2] at hbl1 HE
  have HW2 := Lib.hid (HW1.out.trans hbb1)
  have R0 := Lib.hid (show BldF b b (T2 ++ (l.take 0).flatMap lnT) w4 by rw [List.take_zero, List.flatMap_nil, List.append_nil]; exact hbl1)
  obtain ⟨c0, c1, c2, c3, c4, c5⟩ := cellsP (ARM.out _ HW2.out).2.1
  clear hT2 hbl1 hbb1 HW1 HB3 DY DY1 IT
  go_wp2_with fail
  clear c0 c1 c2 c3 c4 c5
  go_loopw [36] (fun i wr => ∃ k : Nat, k ≤ n ∧ i = .int .i64 (k : Int) ∧ Hid (BldF b b (T2 ++ (l.take k).flatMap lnT) wr) ∧ Hid (Below b w2 wr)) (fun i _ => n - (intOf i).toNat)
  case atStart => exact ⟨0, by omega, rfl, R0, HW2⟩
  case round =>
    obtain ⟨k, hk, rfl, HR, HB⟩ := hrel
    clear R0
    by_cases hlt : k < n
    · have hkl : k < l.length := by rw [LL.out]; exact hlt
      obtain ⟨b1, o1, rfl, hb1, hc1⟩ := (L1.out.below (ARM.out _ HB.out).1).at_ (by omega)
      obtain ⟨q0, q1, q2⟩ := hc1 k hlt
      have hki : (k : Int) < (n : Int) := by omega
      have hsx := HS.out _ (lnAt_mem l k hkl)
      have htk := Lib.hid (lnsT_take l k hkl)
      have htl := HLT.out k
      clear hc1
      generalize l.getD k ln0 = x at *
      obtain ⟨a, cu, m⟩ := x
      simp only at q0 q1 q2 hsx
      obtain ⟨hs1, hs2, hs3⟩ := hsx
      have hpr := prt_len m
      have hcl := can_len m
      obtain ⟨T3, hT3⟩ : ∃ T, T2 ++ (l.take k).flatMap lnT = T := ⟨_, rfl⟩
      have hT3l : T3.length ≤ 11000 := by rw [← hT3, List.length_append]; omega
      rw [hT3] at HR
      have HE2 := Lib.hid (show T3 ++ (Lib.join [a, cu, prt m] [32] ++ [10]) = T2 ++ (l.take (k + 1)).flatMap lnT by rw [htk.out, ← hT3]; simp [lnT])
      have PR := Lib.hid (fun W => Print_any m W (by omega))
      unfold StrPost at PR
      have hpm : (prt m).length ≤ 20 := by omega
      generalize prt m = pm at *
      have Y1 := Lib.hid (heap_alloc_new wr (.cells #[.string ⟨a.toArray⟩, .string ⟨cu.toArray⟩, .string ⟨m.toArray⟩] 68))
      have HBW := Lib.hid (ARM.out _ HB.out).2.2
      have B5 := Lib.hid (HB.out.alloc HBW.out (.cells #[.string ⟨a.toArray⟩, .string ⟨cu.toArray⟩, .string ⟨m.toArray⟩] 68))
      have L5 := Lib.hid (HR.out.al (.cells #[.string ⟨a.toArray⟩, .string ⟨cu.toArray⟩, .string ⟨m.toArray⟩] 68))
      have LT5 := Lib.hid (show wr.heap.size < (wr.alloc (.cells #[.string ⟨a.toArray⟩, .string ⟨cu.toArray⟩, .string ⟨m.toArray⟩] 68)).heap.size by simp)
      clear hT3 htk htl hpr hcl
      go_upto_region 9 with fail
      generalize wr.alloc (.cells #[.string ⟨a.toArray⟩, .string ⟨cu.toArray⟩, .string ⟨m.toArray⟩] 68) = w5 at *
      have HB5 := Lib.hid (Nat.le_trans HBW.out (Nat.le_of_lt LT5.out))
      have HBl := Lib.hid (show b < wr.heap.size from BldF.lt HR.out)
      obtain ⟨⟨c0, c1, c2⟩, _⟩ := cells3 Y1.out
      have HD := Lib.hid (Below.refl w5.heap.size w5)
      have YC := Lib.hid (fun W (h : Below w5.heap.size w5 W) => cells3 ((h.block _ LT5.out).trans Y1.out))
      have YO := Lib.hid (fun W W' (h : Below w5.heap.size w5 W) (ok : Lib.OthersKept 5 (some b) W W') => cells3 (ok _ _ ((h.block _ LT5.out).trans Y1.out) (fun e => by injection e with e; have := HBl.out; omega) (fun c fz e => by injection e with _ e2; exact absurd e2 (by decide))))
      have LN := Lib.hid (fun W (h : Below w5.heap.size w5 W) => line3_any b b T3 a cu pm W (Nat.le_trans HB5.out h.size) (L5.out.below h) (by omega) (by omega) (by omega) (by omega))
      have LND := Lib.hid (fun W (h : Below w5.heap.size w5 W) => line3_any b b T3 a cu pm W.drew (Nat.le_trans HB5.out h.size) (L5.out.below (Below.drew h)) (by omega) (by omega) (by omega) (by omega))
      clear q0 q1 q2
      go_region_held3 (fun w' => w'.cell? ⟨wr.heap.size, 0, none⟩ = some (.string ⟨a.toArray⟩) ∧ w'.cell? ⟨wr.heap.size, 1, none⟩ = some (.string ⟨cu.toArray⟩) ∧ w'.cell? ⟨wr.heap.size, 2, none⟩ = some (.string ⟨m.toArray⟩))
        (first | exact ⟨g0, g1, g2⟩ | exact ⟨c0, c1, c2⟩ | exact ⟨keepC g0, keepC g1, keepC g2⟩ | go_keep)
        (first
          | (go_at_call 48; with_reducible refine (PR.out _).mono ?_
             rintro e w' ⟨rfl, hb⟩; have HD := Lib.hid (below_next HD.out hb ⟨rfl, rfl, rfl, rfl⟩); obtain ⟨⟨g0, g1, g2⟩, _⟩ := YC.out _ HD.out; clear hb)
          | (go_at_call 42; with_reducible refine (LN.out _ HD.out).mono ?_
             rintro e w' ⟨rfl, h5, h6, h7⟩; have HF := Lib.hid (And.intro h5 h6); obtain ⟨⟨g0, g1, g2⟩, _⟩ := YO.out _ _ HD.out h7; clear h5 h6 h7)
          | (go_at_call 42; with_reducible refine (LND.out _ HD.out).mono ?_
             rintro e w' ⟨rfl, h5, h6, h7⟩; have HF := Lib.hid (And.intro h5 h6); obtain ⟨⟨g0, g1, g2⟩, _⟩ := YO.out _ _ (Below.drew HD.out) h7; clear h5 h6 h7))
      all_goals
        have HR2 := Lib.hid (show BldF b b (T2 ++ (l.take (k + 1)).flatMap lnT) w' by rw [← HE2.out]; exact HF.out.1)
        have HB2 := Lib.hid (B5.out.trans ((HD.out.mono HB5.out).trans HF.out.2))
        go_wp2_with fail
        go_roundw
        case rel => exact ⟨k + 1, by omega, by go_num, HR2, HB2⟩
        case measure => simp [intOf]; omega
    · have hkn : k = n := by omega
      subst hkn
      have hki : ¬ (k : Int) < (k : Int) := by omega
      have hr := HR.out
      rw [List.take_of_length_le (by rw [LL.out]; exact Nat.le_refl _)] at hr
      rw [← HE.out] at hr
      have ST := Lib.hid (strF_any b b PT wr hr (ARM.out _ HB.out).2.2)
      clear hr HR
      go_wp2_with fail
      refine ST.out.mono ?_
      rintro e w6 ⟨rfl, hb⟩
      have HB6 := Lib.hid (ARM.out _ (HB.out.trans hb)).1
      clear hb ST
      go_wp2_with fail
      exact HP.out _ _ rfl HB6.out
end Go.Proofs.YtjcbohbpkodkoaaGreatDoor

/- Contracts of the reference's digits and Print. -/
namespace Go.Proofs.YtjcbohbpkodkoaaGreatDoor.Dat
open Go.RowKit

def quo : Nat → Nat → Nat
  | n, 0 => n
  | n, k + 1 => quo n k / 10
def digs : Nat → Nat → List UInt8
  | _, 0 => []
  | n, k + 1 => dg (quo n k % 10) :: digs n k
theorem quo_le (n k : Nat) : quo n k ≤ n := by
  induction k with
  | zero => exact Nat.le_refl _
  | succ k ih => rw [quo]; omega
theorem digs_len (n k : Nat) : (digs n k).length = k := by
  induction k with
  | zero => rfl
  | succ k ih => simp [digs, ih]
theorem digs4 (n : Nat) (h : n < 10000) : digs n 4 = dig4 n := by
  simp only [digs, quo, dig4]
  rw [show n / 10 / 10 / 10 % 10 = n / 1000 by omega, show n / 10 / 10 % 10 = n / 100 % 10 by omega]
theorem digs2 (n : Nat) (h : n < 100) : digs n 2 = dig2 n := by
  simp only [digs, quo, dig2]
  rw [show n / 10 % 10 = n / 10 by omega]
theorem conv1 (w : World) (z : Int) : (convert 84 9 (.slice (some ⟨w.heap.size, 0, none⟩) 1 1)).run Tryz.prog (w.alloc (.cells #[.int .u8 z] 5)) = .ok (.string ⟨#[UInt8.ofNat z.toNat]⟩) (w.alloc (.cells #[.int .u8 z] 5)) := by
  have := run_convert_bytes_arg (P := Tryz.prog) (w.alloc (.cells #[.int .u8 z] 5)) 84 5 Tryz.underlying84 Tryz.underlying5 w.heap.size 0 1 1 [z] rfl (fun i hi => by
    obtain rfl : i = 0 := by omega
    rw [cell_of_row _ _ _ _ _ _ (heap_alloc_new w _)]; rfl) 9 Tryz.underlying9
  exact this
set_option maxHeartbeats 1000000 in
theorem digits_any (n : Nat) (c : Nat) (w : World) (hn : n ≤ 100000) (hc : c ≤ 10) : Calls Tryz.prog 86 #[.int .i64 (n : Int), .int .i64 (c : Int)] w fun e w' => e = .returned (.string ⟨(digs n c).toArray⟩) ∧ Below w.heap.size w w' := by
  go_enter Tryz.func86, Tryz.ntmps86
  go_wp2_with fail
  go_loopw [0, 5, 6] (fun v s i wr => ∃ k : Nat, k ≤ c ∧ i = .int .i64 (k : Int) ∧ v = .int .i64 (quo n k : Int) ∧ s = .string ⟨(digs n k).toArray⟩ ∧ Below w.heap.size w wr) (fun _ _ i _ => c - (intOf i).toNat)
  case atStart => exact ⟨0, by omega, rfl, rfl, rfl, Below.refl _ _⟩
  case round =>
    obtain ⟨k, hk, rfl, rfl, rfl, hb⟩ := hrel
    have hq := quo_le n k
    have HL := digs_len n k
    by_cases hlt : k < c
    · have HQ := Lib.hid (show quo n (k + 1) = quo n k / 10 from rfl)
      have HD := Lib.hid (show digs n (k + 1) = dg (quo n k % 10) :: digs n k from rfl)
      generalize quo n k = q at *
      generalize digs n k = L at *
      have hLl : L.length ≤ 10 := by omega
      clear HL
      have hcv := conv1 wr
      go_wp2_with fail
      go_roundw
      case rel =>
        refine ⟨k + 1, by omega, by go_num, by rw [HQ.out]; go_num, ?_, hb.alloc (by have := hb.size; omega) _⟩
        rw [HD.out]
        exact congrArg Value.string (by apply ByteArray.ext; simp [dg])
      case measure => simp [intOf]; omega
    · have he := Lib.hid (show k = c by omega)
      clear HL
      go_wp2_with fail
      go_ret
      exact ⟨by rw [← he.out]; rfl, hb⟩
theorem digits4 (y : Int) (w : World) (h0 : 0 ≤ y) (h1 : y < 10000) : Calls Tryz.prog 86 #[.int .i64 y, .int .i64 4] w fun e w' => e = .returned (.string ⟨(dig4 y.toNat).toArray⟩) ∧ Below w.heap.size w w' := by
  have := digits_any y.toNat 4 w (by omega) (by omega)
  rw [Int.toNat_of_nonneg h0, digs4 _ (by omega)] at this
  exact this
theorem digits2 (y : Int) (w : World) (h0 : 0 ≤ y) (h1 : y < 100) : Calls Tryz.prog 86 #[.int .i64 y, .int .i64 2] w fun e w' => e = .returned (.string ⟨(dig2 y.toNat).toArray⟩) ∧ Below w.heap.size w w' := by
  have := digits_any y.toNat 2 w (by omega) (by omega)
  rw [Int.toNat_of_nonneg h0, digs2 _ (by omega)] at this
  exact this
theorem rPrint_any (d : Int) (w : World) : Calls Tryz.prog 51 #[.int .i64 d] w (RetS (prS d) (dayE d) w) := by
  cases hd : okDay d
  · have HN := Lib.hid (show prS d = [] ∧ dayE d = 13 by simp [prS, dayE, hd])
    go_enter Tryz.func51, Tryz.ntmps51
    go_wp2_with (go_at_call 85; refine (rParts_no _ _ (by assumption)).mono ?_; rintro e w' ⟨rfl, hb⟩)
    go_ret2
    exact ⟨by rw [HN.out.1, HN.out.2]; rfl, hb⟩
  · obtain ⟨d0, d1⟩ := (okDay_iff d).1 hd
    have hv := (date_valid d d0 d1).1
    have y0 := hv.y0; have y1 := hv.y1; have m0 := hv.m0; have m1 := hv.m1; have q0 := hv.d0; have q1 := hv.d1
    have hl := len_lo (yOf d) (mOf d)
    have HN := Lib.hid (show prS d = textL (yOf d) (mOf d) (dOf d) ∧ dayE d = 0 by simp [prS, dayE, hd])
    have hT := Lib.hid (show textL (yOf d) (mOf d) (dOf d) = dig4 (yOf d).toNat ++ [45] ++ dig2 (mOf d).toNat ++ [45] ++ dig2 (dOf d).toNat from rfl)
    have x1 := fun w => digits4 (yOf d) w (by omega) (by omega)
    have x2 := fun w => digits2 (mOf d) w (by omega) (by omega)
    have x3 := fun w => digits2 (dOf d) w (by omega) (by omega)
    have l1 : (dig4 (yOf d).toNat).length ≤ 4 := Nat.le_refl _
    have l2 : (dig2 (mOf d).toNat).length ≤ 2 := Nat.le_refl _
    have l3 : (dig2 (dOf d).toNat).length ≤ 2 := Nat.le_refl _
    generalize dig4 (yOf d).toNat = A at *
    generalize dig2 (mOf d).toNat = B at *
    generalize dig2 (dOf d).toNat = C at *
    have X := Lib.hid (And.intro x1 (And.intro x2 x3))
    clear hv x1 x2 x3
    go_enter Tryz.func51, Tryz.ntmps51
    go_wp2_with fail
    refine (rParts_yes _ _ hd).mono ?_
    rintro e w1 ⟨rfl, hb1⟩
    go_wp2_with fail
    refine (X.out.1 _).mono ?_
    rintro e w2 ⟨rfl, hb2⟩
    have b2 := hb1.trans (hb2.mono hb1.size)
    go_wp2_with fail
    refine (X.out.2.1 _).mono ?_
    rintro e w3 ⟨rfl, hb3⟩
    have b3 := b2.trans (hb3.mono b2.size)
    go_wp2_with fail
    refine (X.out.2.2 _).mono ?_
    rintro e w4 ⟨rfl, hb4⟩
    go_wp2_with fail
    go_ret2
    refine ⟨?_, b3.trans (hb4.mono b3.size)⟩
    rw [HN.out.1, HN.out.2, hT.out]
    simp
    apply ByteArray.ext
    simp
end Go.Proofs.YtjcbohbpkodkoaaGreatDoor.Dat

/- Audit: contract of the reference's text. -/
namespace Go.Proofs.YtjcbohbpkodkoaaGreatDoor
open Go.RowKit Go.Maps Num

set_option maxRecDepth 100000 in
theorem rPrintI_any (l : List UInt8) (w : World) (hs : l.length ≤ 1000) : Calls Tryz.prog 52 #[.string ⟨l.toArray⟩] w (StrPost (prt l) w) := by
  have H1 := Lib.hid (rcan_any l w (by omega))
  unfold RetP at H1
  by_cases he : can l = []
  · have hp : prt l = [48] := by unfold prt; rw [if_pos he]
    rw [hp]
    rw [he] at H1
    clear hp he
    go_enter Tryz.func52, Tryz.ntmps52
    go_wp2_with fail
    refine H1.out.mono ?_
    rintro e w' ⟨rfl, rfl⟩
    go_wp2_with fail
    go_ret
    exact ⟨rfl, Below.refl _ _⟩
  · have hp : prt l = can l := by unfold prt; rw [if_neg he]
    rw [hp]
    obtain ⟨c, r, hne⟩ := cons_ne he
    rw [hne] at H1 ⊢
    clear hp he hne
    go_enter Tryz.func52, Tryz.ntmps52
    go_wp2_with fail
    refine H1.out.mono ?_
    rintro e w' ⟨rfl, rfl⟩
    go_wp2_with fail
    go_ret
    exact ⟨rfl, Below.refl _ _⟩
theorem prt_txt (n : Int) : prt (txt n) = Lib.itoa n := by
  by_cases h : n = 0
  · subst h
    have e0 : txt 0 = [] := by unfold txt; rw [if_neg (by omega)]; exact dig_zero
    rw [itoa_zero, e0]
    unfold prt
    rw [if_pos (by unfold can; rw [val_nil]; exact e0)]
  · have e : can (txt n) = txt n := by unfold can; rw [val_txt]
    unfold prt
    rw [e, itoa_txt n h, if_neg]
    intro e2
    have := val_txt n
    rw [e2, val_nil] at this
    exact h this.symm
set_option maxRecDepth 100000 in
set_option maxHeartbeats 8000000 in
theorem rtext_any (d kn : Int) (bz : List UInt8) (d1 : Int) (cz : List UInt8) (A : Option Addr) (n c : Nat) (l : List Ln) (w : World) (hl : Lns w A n c l) (hbz : bz.length ≤ 60) (hcz : cz.length ≤ 60) (hn : n ≤ 66)
    (hs : ∀ x ∈ l, x.1.length ≤ 60 ∧ x.2.1.length ≤ 60 ∧ x.2.2.length ≤ 13) (h0 : -9223372036854775808 ≤ kn) (h1 : kn ≤ 9223372036854775807) :
    Calls Tryz.prog 26 #[.agg (poC d kn bz d1 cz A n c)] w (StrPost (poT ((d, kn, bz), (d1, cz, l))) w) := by
  have y0 := heap_alloc_new w (.cells (poC d kn bz d1 cz A n c) 42)
  have B0 := Lib.hid ((Below.refl _ w).alloc (Nat.le_refl _) (.cells (poC d kn bz d1 cz A n c) 42))
  have HL := Lib.hid (show w.heap.size < (w.alloc (.cells (poC d kn bz d1 cz A n c) 42)).heap.size by simp)
  unfold poC at y0 B0 HL
  have Y := Lib.hid y0
  obtain ⟨c0, c1, c2, c3, c4, c5⟩ := cellsP y0
  have HP := Lib.hid (fun W T (e : poT ((d, kn, bz), (d1, cz, l)) = T) (h : Below w.heap.size w W) => (show StrPost (poT ((d, kn, bz), (d1, cz, l))) w (.returned (.string ⟨T.toArray⟩)) W from ⟨by rw [e], h⟩))
  have HE := (show poT ((d, kn, bz), (d1, cz, l)) = ((Lib.join [Dat.prS d, Lib.itoa kn, bz] [32] ++ [10]) ++ (Lib.join [Dat.prS d1, cz] [32] ++ [10])) ++ l.flatMap lnT from rfl)
  rw [join3, join2] at HE
  have hp0 := prS_len d
  have hp1 := prS_len d1
  have hik := itoa_len21 kn h0 h1
  have hit : (txt kn).length ≤ 21 := txt_bd (v := kn) (k := 20) (by omega)
  have LL := Lib.hid hl.len
  have HLT := Lib.hid (show ∀ k, ((l.take k).flatMap lnT).length ≤ 9900 from fun k => by
    have := lnsT_len (l.take k) fun x hx => hs x (List.mem_of_mem_take hx)
    have h2 : (l.take k).length ≤ 66 := by rw [List.length_take]; have := hl.len; omega
    omega)
  have DY := Lib.hid (fun W => Dat.rPrint_any d W)
  have DY1 := Lib.hid (fun W => Dat.rPrint_any d1 W)
  have OF := Lib.hid (fun W => rof_any kn W h0 h1)
  have PR := Lib.hid (fun W => rPrintI_any (txt kn) W (by omega))
  rw [prt_txt] at PR
  unfold Dat.RetS at DY DY1
  unfold RetP at OF
  unfold StrPost at PR
  generalize StrPost (poT ((d, kn, bz), (d1, cz, l))) w = Post at *
  generalize poT ((d, kn, bz), (d1, cz, l)) = PT at *
  generalize Dat.prS d = s1 at *
  generalize Dat.prS d1 = s2 at *
  generalize Dat.dayE d = i1 at *
  generalize Dat.dayE d1 = i2 at *
  generalize Lib.itoa kn = s3 at *
  generalize txt kn = s4 at *
  obtain ⟨t1, e1⟩ : ∃ t, s1 ++ [32] = t := ⟨_, rfl⟩
  obtain ⟨t2, e2⟩ : ∃ t, t1 ++ s3 = t := ⟨_, rfl⟩
  obtain ⟨t3, e3⟩ : ∃ t, t2 ++ [32] = t := ⟨_, rfl⟩
  obtain ⟨t4, e4⟩ : ∃ t, t3 ++ bz = t := ⟨_, rfl⟩
  obtain ⟨t5, e5⟩ : ∃ t, t4 ++ [10] = t := ⟨_, rfl⟩
  obtain ⟨t6, e6⟩ : ∃ t, t5 ++ s2 = t := ⟨_, rfl⟩
  obtain ⟨t7, e7⟩ : ∃ t, t6 ++ [32] = t := ⟨_, rfl⟩
  obtain ⟨t8, e8⟩ : ∃ t, t7 ++ cz = t := ⟨_, rfl⟩
  obtain ⟨t9, e9⟩ : ∃ t, t8 ++ [10] = t := ⟨_, rfl⟩
  have l1 : t1.length ≤ 11 := by rw [← e1]; simp; omega
  have l2 : t2.length ≤ 32 := by rw [← e2]; simp; omega
  have l3 : t3.length ≤ 33 := by rw [← e3]; simp; omega
  have l4 : t4.length ≤ 93 := by rw [← e4]; simp; omega
  have l5 : t5.length ≤ 94 := by rw [← e5]; simp; omega
  have l6 : t6.length ≤ 104 := by rw [← e6]; simp; omega
  have l7 : t7.length ≤ 105 := by rw [← e7]; simp; omega
  have l8 : t8.length ≤ 165 := by rw [← e8]; simp; omega
  have l9 : t9.length ≤ 166 := by rw [← e9]; simp; omega
  have k1 := fun W => cat_run s1 [32] t1 (by simp; omega) e1 W
  have k2 := fun W => cat_run t1 s3 t2 (by omega) e2 W
  have k3 := fun W => cat_run t2 [32] t3 (by simp; omega) e3 W
  have k4 := fun W => cat_run t3 bz t4 (by omega) e4 W
  have k5 := fun W => cat_run t4 [10] t5 (by simp; omega) e5 W
  have k6 := fun W => cat_run t5 s2 t6 (by omega) e6 W
  have k7 := fun W => cat_run t6 [32] t7 (by simp; omega) e7 W
  have k8 := fun W => cat_run t7 cz t8 (by omega) e8 W
  have k9 := fun W => cat_run t8 [10] t9 (by simp; omega) e9 W
  have HE1 := Lib.hid (show PT = t9 ++ l.flatMap lnT by rw [HE, ← e9, ← e8, ← e7, ← e6, ← e5, ← e4, ← e3, ← e2, ← e1]; simp)
  have HL9 := Lib.hid l9
  have L1 := Lib.hid hl
  have HS := Lib.hid hs
  unfold poC
  clear y0 hl hs h0 h1 HE e1 e2 e3 e4 e5 e6 e7 e8 e9 l1 l2 l3 l4 l5 l6 l7 l8 l9 hp0 hp1 hik hit
  go_enter Tryz.func26, Tryz.ntmps26
  go_wp2_with fail
  generalize w.alloc (.cells #[.int .i64 d, .int .i64 kn, .string ⟨bz.toArray⟩, .int .i64 d1, .string ⟨cz.toArray⟩, .slice A n c] 42) = w1 at *
  have CE := Lib.hid (fun W (h : Below w1.heap.size w1 W) => cellsP ((h.block _ HL.out).trans Y.out))
  refine (DY.out _).mono ?_
  rintro e w2 ⟨rfl, hb⟩
  have B2 := Lib.hid hb
  clear hb c0 c1 c2 c3 c4 c5 DY
  obtain ⟨c0, c1, c2, c3, c4, c5⟩ := CE.out _ B2.out
  go_wp2_with fail
  refine (DY1.out _).mono ?_
  rintro e w3 ⟨rfl, hb⟩
  have B3 := Lib.hid (below_next B2.out hb ⟨rfl, rfl, rfl, rfl⟩)
  clear hb c0 c1 c2 c3 c4 c5 DY1 B2
  obtain ⟨c0, c1, c2, c3, c4, c5⟩ := CE.out _ B3.out
  go_upto_region 3 with fail
  clear c0 c1 c2 c3 c4 c5
  have CEp := Lib.hid (fun p : Bel w3 => CE.out p.W (below_next B3.out p.h ⟨rfl, rfl, rfl, rfl⟩))
  have hc0 := fun p : Bel w3 => (CEp.out p).1
  have hc1 := fun p : Bel w3 => (CEp.out p).2.1
  have hc2 := fun p : Bel w3 => (CEp.out p).2.2.1
  have hc3 := fun p : Bel w3 => (CEp.out p).2.2.2.1
  have hc4 := fun p : Bel w3 => (CEp.out p).2.2.2.2.1
  have OFp := Lib.hid (fun p : Bel w3 => (show Calls Tryz.prog 53 #[.int .i64 kn] p.W fun e w' => e = .returned (.string ⟨s4.toArray⟩) ∧ Below p.W.heap.size p.W w' from (OF.out p.W).mono fun e w' ⟨h1, h2⟩ => ⟨h1, by subst h2; exact Below.refl _ _⟩))
  have PRp := Lib.hid (fun p : Bel w3 => PR.out p.W)
  clear OF PR
  refine wp_region_quiet_bel (by kernel_rfl) (by kernel_rfl) ?_
  repeat (go_big_quiet_step (first
    | (go_at_call 53; with_reducible refine Calls.bel_of (OFp.out _))
    | (go_at_call 52; with_reducible refine Calls.bel_of (PRp.out _))))
  refine wpQuiet_nil ?_
  intro wq' hw'
  obtain ⟨⟨wq, hq⟩, hw2⟩ := hw'
  have hw3 : wq' = wq := hw2
  subst hw3
  have B4 := Lib.hid (below_next B3.out hq ⟨rfl, rfl, rfl, rfl⟩)
  clear hc0 hc1 hc2 hc3 hc4 hw2 hq CEp OFp PRp k1 k2 k3 k4 k5 k6 k7 k8 k9 B3
  have R0 := Lib.hid (show t9 ++ (l.take 0).flatMap lnT = t9 by rw [List.take_zero, List.flatMap_nil, List.append_nil])
  go_wp2_with fail
  go_loopw [7, 8] (fun t i wr => ∃ (k : Nat) (T : List UInt8), k ≤ n ∧ i = .int .i64 (k : Int) ∧ t = .string ⟨T.toArray⟩ ∧ Hid (t9 ++ (l.take k).flatMap lnT = T) ∧ Hid (Below w1.heap.size w1 wr)) (fun _ i _ => n - (intOf i).toNat)
  case atStart => exact ⟨0, t9, by omega, rfl, rfl, R0, B4⟩
  case round =>
    obtain ⟨k, T, hk, rfl, rfl, HR, HB⟩ := hrel
    clear R0
    obtain ⟨c0, c1, c2, c3, c4, c5⟩ := CE.out _ HB.out
    by_cases hlt : k < n
    · have hkl : k < l.length := by rw [LL.out]; exact hlt
      obtain ⟨b1, o1, rfl, hb1, hc1⟩ := (L1.out.below (below_next B0.out HB.out ⟨rfl, rfl, rfl, rfl⟩)).at_ (by omega)
      obtain ⟨q0, q1, q2⟩ := hc1 k hlt
      have hki : (k : Int) < (n : Int) := by omega
      have hsx := HS.out _ (lnAt_mem l k hkl)
      have htk := lnsT_take l k hkl
      have hTl : T.length ≤ 11000 := by rw [← HR.out, List.length_append]; have := HLT.out k; have := HL9.out; omega
      clear hc1
      generalize l.getD k ln0 = x at *
      obtain ⟨a, cu, m⟩ := x
      simp only at q0 q1 q2 hsx
      obtain ⟨hs1, hs2, hs3⟩ := hsx
      have hpm : (prt m).length ≤ 20 := by have := prt_len m; have := can_len m; omega
      have PR := Lib.hid (fun W => rPrintI_any m W (by omega))
      unfold StrPost at PR
      have hln : lnT (a, cu, m) = Lib.join [a, cu, prt m] [32] ++ [10] := rfl
      rw [join3] at hln
      generalize prt m = pm at *
      obtain ⟨v1, e1⟩ : ∃ t, T ++ a = t := ⟨_, rfl⟩
      obtain ⟨v2, e2⟩ : ∃ t, v1 ++ [32] = t := ⟨_, rfl⟩
      obtain ⟨v3, e3⟩ : ∃ t, v2 ++ cu = t := ⟨_, rfl⟩
      obtain ⟨v4, e4⟩ : ∃ t, v3 ++ [32] = t := ⟨_, rfl⟩
      obtain ⟨v5, e5⟩ : ∃ t, v4 ++ pm = t := ⟨_, rfl⟩
      obtain ⟨v6, e6⟩ : ∃ t, v5 ++ [10] = t := ⟨_, rfl⟩
      have l1 : v1.length ≤ 11060 := by rw [← e1]; simp; omega
      have l2 : v2.length ≤ 11061 := by rw [← e2]; simp; omega
      have l3 : v3.length ≤ 11121 := by rw [← e3]; simp; omega
      have l4 : v4.length ≤ 11122 := by rw [← e4]; simp; omega
      have l5 : v5.length ≤ 11142 := by rw [← e5]; simp; omega
      have k1 := fun W => cat_run T a v1 (by omega) e1 W
      have k2 := fun W => cat_run v1 [32] v2 (by simp; omega) e2 W
      have k3 := fun W => cat_run v2 cu v3 (by omega) e3 W
      have k4 := fun W => cat_run v3 [32] v4 (by simp; omega) e4 W
      have k5 := fun W => cat_run v4 pm v5 (by omega) e5 W
      have k6 := fun W => cat_run v5 [10] v6 (by simp; omega) e6 W
      have HR2 := Lib.hid (show t9 ++ (l.take (k + 1)).flatMap lnT = v6 by rw [htk, ← List.append_assoc, HR.out, hln, ← e6, ← e5, ← e4, ← e3, ← e2, ← e1]; simp)
      clear e1 e2 e3 e4 e5 e6 l1 l2 l3 l4 l5 hs1 hs2 hs3 hpm hln htk hTl
      have Y1 := Lib.hid (heap_alloc_new wr (.cells #[.string ⟨a.toArray⟩, .string ⟨cu.toArray⟩, .string ⟨m.toArray⟩] 68))
      have B5 := Lib.hid (HB.out.alloc HB.out.size (.cells #[.string ⟨a.toArray⟩, .string ⟨cu.toArray⟩, .string ⟨m.toArray⟩] 68))
      have LT5 := Lib.hid (show wr.heap.size < (wr.alloc (.cells #[.string ⟨a.toArray⟩, .string ⟨cu.toArray⟩, .string ⟨m.toArray⟩] 68)).heap.size by simp)
      go_upto_region 8 with fail
      generalize wr.alloc (.cells #[.string ⟨a.toArray⟩, .string ⟨cu.toArray⟩, .string ⟨m.toArray⟩] 68) = w5 at *
      clear q0 q1 q2 c0 c1 c2 c3 c4 c5
      have YC := Lib.hid (fun p : Bel w5 => cells3 ((p.h.block _ LT5.out).trans Y1.out))
      have hy0 := fun p : Bel w5 => (YC.out p).1.1
      have hy1 := fun p : Bel w5 => (YC.out p).1.2.1
      have hy2 := fun p : Bel w5 => (YC.out p).1.2.2
      have PRp := Lib.hid (fun p : Bel w5 => PR.out p.W)
      refine wp_region_quiet_bel (by kernel_rfl) (by kernel_rfl) ?_
      repeat (go_big_quiet_step (first
        | (go_at_call 52; with_reducible refine Calls.bel_of (PRp.out _))))
      refine wpQuiet_nil ?_
      intro wq' hw'
      obtain ⟨⟨wq, hq⟩, hw2⟩ := hw'
      have hw3 : wq' = wq := hw2
      subst hw3
      have B6 := Lib.hid (below_next B5.out hq ⟨rfl, rfl, rfl, rfl⟩)
      clear hy0 hy1 hy2 hw2 hq YC PRp k1 k2 k3 k4 k5 k6
      go_wp2_with fail
      go_roundw
      case rel => exact ⟨k + 1, v6, by omega, by go_num, rfl, HR2, B6⟩
      case measure => simp [intOf]; omega
    · have hkn : k = n := by omega
      subst hkn
      have hki : ¬ (k : Int) < (k : Int) := by omega
      have hv := Lib.hid (show PT = T by rw [HE1.out, ← HR.out, List.take_of_length_le (by rw [LL.out]; exact Nat.le_refl _)])
      have B6 := Lib.hid (below_next B0.out HB.out ⟨rfl, rfl, rfl, rfl⟩)
      clear HR
      go_wp2_with fail
      exact HP.out _ _ hv.out B6.out
end Go.Proofs.YtjcbohbpkodkoaaGreatDoor
