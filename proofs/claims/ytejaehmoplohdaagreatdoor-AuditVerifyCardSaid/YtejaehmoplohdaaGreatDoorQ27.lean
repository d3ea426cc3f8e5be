/- AuditVerify: the walk. -/
import Derived.Test.YtejaehmoplohdaaGreatDoorQ26
import Derived.Test.YtejaehmoplohdaaGreatDoorQ17
import Derived.Test.YtejaehmoplohdaaGreatDoorQ20
namespace Go.Proofs.YtejaehmoplohdaaGreatDoor
open Go.RowKit Go.Maps Num

theorem grPB_parts {ns : List Nd} (h : grPB ns = false) : ns.length ≤ 12 ∧ ∀ x ∈ ns, x.1.length ≤ 60 ∧ x.2.length ≤ 60 := by
  unfold grPB at h
  rw [Bool.or_eq_false_iff] at h
  refine ⟨by have := of_decide_eq_false h.2; omega, fun x hx => ?_⟩
  have h1 : ndG x = false := by
    cases hg : ndG x with
    | false => rfl
    | true => rw [List.any_eq_true.2 ⟨x, hx, hg⟩] at h; cases h.1
  unfold ndG at h1
  rw [Bool.or_eq_false_iff] at h1
  exact ⟨by have := of_decide_eq_false h1.1; omega, by have := of_decide_eq_false h1.2; omega⟩
set_option maxRecDepth 100000 in
set_option maxHeartbeats 16000000 in
theorem verify_row (r1 r2 a cu m : List UInt8) (i n : Int) (A : Option Addr) (k c : Nat) (ns : List Nd) (w : World) (hi : -9223372036854775808 ≤ i ∧ i ≤ 9223372036854775807) (hn : -9223372036854775808 ≤ n ∧ n ≤ 9223372036854775807) (hA : rowNd.Rds w A k c ns) (ht : Tab w) (hM : ML w) :
    Calls Tryz.prog 4 #[.agg #[.string ⟨r1.toArray⟩, .string ⟨r2.toArray⟩], .agg #[.string ⟨a.toArray⟩, .string ⟨cu.toArray⟩, .string ⟨m.toArray⟩], .agg #[.int .i64 i, .int .i64 n, .slice A k c]] w (BoolPost true w) := by
  have HP := Lib.hid (fun W (h : Below w.heap.size w W) => (show BoolPost true w (.returned (.bool true)) W from ⟨rfl, h⟩))
  have HW := Lib.hid (fun W (h : Below w.heap.size w W) => awake_any W (ht.below h) (hM.below h))
  have hB0 : Below w.heap.size w (((w.alloc (.cells #[.string ⟨r1.toArray⟩, .string ⟨r2.toArray⟩] 27)).alloc (.cells #[.string ⟨a.toArray⟩, .string ⟨cu.toArray⟩, .string ⟨m.toArray⟩] 38)).alloc (.cells #[.int .i64 i, .int .i64 n, .slice A k c] 33)) := (((Below.refl _ w).alloc (Nat.le_refl _) _).alloc (by simp) _).alloc (by simp; omega) _
  have y0' := balloc (balloc (heap_alloc_new w (.cells #[.string ⟨r1.toArray⟩, .string ⟨r2.toArray⟩] 27)) (.cells #[.string ⟨a.toArray⟩, .string ⟨cu.toArray⟩, .string ⟨m.toArray⟩] 38)) (.cells #[.int .i64 i, .int .i64 n, .slice A k c] 33)
  have y1' := balloc (heap_alloc_new (w.alloc (.cells #[.string ⟨r1.toArray⟩, .string ⟨r2.toArray⟩] 27)) (.cells #[.string ⟨a.toArray⟩, .string ⟨cu.toArray⟩, .string ⟨m.toArray⟩] 38)) (.cells #[.int .i64 i, .int .i64 n, .slice A k c] 33)
  have y2' := heap_alloc_new ((w.alloc (.cells #[.string ⟨r1.toArray⟩, .string ⟨r2.toArray⟩] 27)).alloc (.cells #[.string ⟨a.toArray⟩, .string ⟨cu.toArray⟩, .string ⟨m.toArray⟩] 38)) (.cells #[.int .i64 i, .int .i64 n, .slice A k c] 33)
  rw [show (w.alloc (.cells #[.string ⟨r1.toArray⟩, .string ⟨r2.toArray⟩] 27)).heap.size = w.heap.size + 1 by simp] at y1'
  rw [show ((w.alloc (.cells #[.string ⟨r1.toArray⟩, .string ⟨r2.toArray⟩] 27)).alloc (.cells #[.string ⟨a.toArray⟩, .string ⟨cu.toArray⟩, .string ⟨m.toArray⟩] 38)).heap.size = w.heap.size + 1 + 1 by simp] at y2'
  have hsz : (((w.alloc (.cells #[.string ⟨r1.toArray⟩, .string ⟨r2.toArray⟩] 27)).alloc (.cells #[.string ⟨a.toArray⟩, .string ⟨cu.toArray⟩, .string ⟨m.toArray⟩] 38)).alloc (.cells #[.int .i64 i, .int .i64 n, .slice A k c] 33)).heap.size = w.heap.size + 3 := by simp
  have B0 := Lib.hid hB0
  have Y0 := Lib.hid y0'
  have Y1 := Lib.hid y1'
  have Y2 := Lib.hid y2'
  have SZ := Lib.hid hsz
  have L1 := Lib.hid hA
  have GB := Lib.hid (fun (W : World) => rGreatB_any (some ⟨W.heap.size, 0, none⟩) 1 1 [(a, cu, m)] (W.alloc (.cells #[.string ⟨a.toArray⟩, .string ⟨cu.toArray⟩, .string ⟨m.toArray⟩] 38)) (Row.rds_one rowB_ok W (a, cu, m) 38))
  have GP := Lib.hid (fun W (h : rowNd.Rds W A k c ns) => greatP_any i n A k c ns W h)
  have GS := Lib.hid (fun W => great1_any r1 W)
  have VV := Lib.hid (fun (h1 : r1.length ≤ 60) (h2 : SmB (a, cu, m)) (h3 : ns.length ≤ 12 ∧ ∀ x ∈ ns, x.1.length ≤ 60 ∧ x.2.length ≤ 60) W (h : Below w.heap.size w W) => Verify_any r1 r2 a cu m i n A k c ns W (by omega) h2 (hA.below h) (fun x hx => by have := (h3.2 x hx).1; omega) (by have := hA.len; omega) hi.1 hi.2 hn.1 hn.2 (ht.below h) (hM.below h))
  have VR := Lib.hid (fun (h1 : r1.length ≤ 60) (h2 : SmB (a, cu, m)) (h3 : ns.length ≤ 12 ∧ ∀ x ∈ ns, x.1.length ≤ 60 ∧ x.2.length ≤ 60) W (h : Below w.heap.size w W) => rVerify_any r1 r2 a cu m i n A k c ns W (by omega) h2 (hA.below h) (fun x hx => by have := (h3.2 x hx).1; omega) (by have := hA.len; omega))
  obtain ⟨⟨q0, q1⟩, _⟩ := cells2n y0'
  obtain ⟨⟨c0, c1, c2⟩, _⟩ := cells3 y1'
  unfold BoolPost at HW GB GP
  unfold RetP at GS
  unfold IntPost at VV VR
  generalize BoolPost true w = Post at *
  generalize verI sha (r1, r2) (a, cu, m) i n ns = vr at *
  clear hB0 y0' y1' y2' hsz hA ht hM hi hn
  go_enter Tryz.func4, Tryz.ntmps4
  go_upto_region 1 with fail
  generalize ((w.alloc (.cells #[.string ⟨r1.toArray⟩, .string ⟨r2.toArray⟩] 27)).alloc (.cells #[.string ⟨a.toArray⟩, .string ⟨cu.toArray⟩, .string ⟨m.toArray⟩] 38)).alloc (.cells #[.int .i64 i, .int .i64 n, .slice A k c] 33) = w1 at *
  have HL := Lib.hid (show w.heap.size < w1.heap.size ∧ w.heap.size + 1 < w1.heap.size ∧ w.heap.size + 1 + 1 < w1.heap.size by have := SZ.out; omega)
  generalize w.heap.size + 1 + 1 = pb at *
  generalize w.heap.size + 1 = cb at *
  have ARM := Lib.hid (fun W (h : Below w1.heap.size w1 W) => (show Below w.heap.size w W ∧ W.heap[w.heap.size]? = some (.cells #[.string ⟨r1.toArray⟩, .string ⟨r2.toArray⟩] 27) ∧ W.heap[cb]? = some (.cells #[.string ⟨a.toArray⟩, .string ⟨cu.toArray⟩, .string ⟨m.toArray⟩] 38) ∧ W.heap[pb]? = some (.cells #[.int .i64 i, .int .i64 n, .slice A k c] 33) ∧ rowNd.Rds W A k c ns from
    ⟨below_next B0.out h ⟨rfl, rfl, rfl, rfl⟩, (h.block _ HL.out.1).trans Y0.out, (h.block _ HL.out.2.1).trans Y1.out, (h.block _ HL.out.2.2).trans Y2.out, L1.out.below (below_next B0.out h ⟨rfl, rfl, rfl, rfl⟩)⟩))
  clear B0 Y0 Y1 Y2 SZ
  cases hg1 : grLB [(a, cu, m)]
  case true =>
    rw [hg1] at GB
    clear VV VR GP GS hg1
    go_wp2_with fail
    refine (GB.out _).mono ?_
    rintro e w2 ⟨rfl, hb⟩
    have HD := Lib.hid (below_next ((Below.refl w1.heap.size w1).alloc (Nat.le_refl _) (.cells #[.string ⟨a.toArray⟩, .string ⟨cu.toArray⟩, .string ⟨m.toArray⟩] 38)) hb ⟨rfl, rfl, rfl, rfl⟩)
    obtain ⟨⟨p0, p1, p2⟩, _⟩ := cells3 (ARM.out _ HD.out).2.2.2.1
    obtain ⟨⟨s0, s1⟩, _⟩ := cells2n (ARM.out _ HD.out).2.1
    clear hb
    go_wp2_with fail
    refine (HW.out _ (ARM.out _ HD.out).1).mono ?_
    rintro e w5 ⟨rfl, hb⟩
    have HZ := Lib.hid (below_next (ARM.out _ HD.out).1 hb ⟨rfl, rfl, rfl, rfl⟩)
    clear hb
    go_wp2_with fail
    exact HP.out _ HZ.out
  rw [hg1] at GB
  cases hg2 : grPB ns
  case true =>
    rw [hg2] at GP
    clear VV VR GS hg1 hg2
    go_wp2_with fail
    refine (GB.out _).mono ?_
    rintro e w2 ⟨rfl, hb⟩
    have HD := Lib.hid (below_next ((Below.refl w1.heap.size w1).alloc (Nat.le_refl _) (.cells #[.string ⟨a.toArray⟩, .string ⟨cu.toArray⟩, .string ⟨m.toArray⟩] 38)) hb ⟨rfl, rfl, rfl, rfl⟩)
    obtain ⟨⟨p0, p1, p2⟩, _⟩ := cells3 (ARM.out _ HD.out).2.2.2.1
    obtain ⟨⟨s0, s1⟩, _⟩ := cells2n (ARM.out _ HD.out).2.1
    clear hb
    go_wp2_with fail
    refine (GP.out _ (ARM.out _ HD.out).2.2.2.2).mono ?_
    rintro e w3 ⟨rfl, hb⟩
    have HD := Lib.hid (below_next HD.out hb ⟨rfl, rfl, rfl, rfl⟩)
    obtain ⟨⟨s2, s3⟩, _⟩ := cells2n (ARM.out _ HD.out).2.1
    clear hb
    go_wp2_with fail
    refine (HW.out _ (ARM.out _ HD.out).1).mono ?_
    rintro e w5 ⟨rfl, hb⟩
    have HZ := Lib.hid (below_next (ARM.out _ HD.out).1 hb ⟨rfl, rfl, rfl, rfl⟩)
    clear hb
    go_wp2_with fail
    exact HP.out _ HZ.out
  rw [hg2] at GP
  by_cases hg3 : 60 < r1.length
  · rw [decide_eq_true hg3] at GS
    clear VV VR hg1 hg2 hg3
    go_wp2_with fail
    refine (GB.out _).mono ?_
    rintro e w2 ⟨rfl, hb⟩
    have HD := Lib.hid (below_next ((Below.refl w1.heap.size w1).alloc (Nat.le_refl _) (.cells #[.string ⟨a.toArray⟩, .string ⟨cu.toArray⟩, .string ⟨m.toArray⟩] 38)) hb ⟨rfl, rfl, rfl, rfl⟩)
    obtain ⟨⟨p0, p1, p2⟩, _⟩ := cells3 (ARM.out _ HD.out).2.2.2.1
    obtain ⟨⟨s0, s1⟩, _⟩ := cells2n (ARM.out _ HD.out).2.1
    clear hb
    go_wp2_with fail
    refine (GP.out _ (ARM.out _ HD.out).2.2.2.2).mono ?_
    rintro e w3 ⟨rfl, hb⟩
    have HD := Lib.hid (below_next HD.out hb ⟨rfl, rfl, rfl, rfl⟩)
    obtain ⟨⟨s2, s3⟩, _⟩ := cells2n (ARM.out _ HD.out).2.1
    clear hb
    go_wp2_with fail
    refine (GS.out _).mono ?_
    rintro e w4 ⟨rfl, rfl⟩
    go_wp2_with fail
    refine (HW.out _ (ARM.out _ HD.out).1).mono ?_
    rintro e w5 ⟨rfl, hb⟩
    have HZ := Lib.hid (below_next (ARM.out _ HD.out).1 hb ⟨rfl, rfl, rfl, rfl⟩)
    clear hb
    go_wp2_with fail
    exact HP.out _ HZ.out
  rw [decide_eq_false hg3] at GS
  by_cases hg4 : 60 < r2.length
  · have u4 : (60 : Int) < (r2.length : Int) := by omega
    clear VV VR hg1 hg2 hg3 hg4
    go_wp2_with fail
    refine (GB.out _).mono ?_
    rintro e w2 ⟨rfl, hb⟩
    have HD := Lib.hid (below_next ((Below.refl w1.heap.size w1).alloc (Nat.le_refl _) (.cells #[.string ⟨a.toArray⟩, .string ⟨cu.toArray⟩, .string ⟨m.toArray⟩] 38)) hb ⟨rfl, rfl, rfl, rfl⟩)
    obtain ⟨⟨p0, p1, p2⟩, _⟩ := cells3 (ARM.out _ HD.out).2.2.2.1
    obtain ⟨⟨s0, s1⟩, _⟩ := cells2n (ARM.out _ HD.out).2.1
    clear hb
    go_wp2_with fail
    refine (GP.out _ (ARM.out _ HD.out).2.2.2.2).mono ?_
    rintro e w3 ⟨rfl, hb⟩
    have HD := Lib.hid (below_next HD.out hb ⟨rfl, rfl, rfl, rfl⟩)
    obtain ⟨⟨s2, s3⟩, _⟩ := cells2n (ARM.out _ HD.out).2.1
    clear hb
    go_wp2_with fail
    refine (GS.out _).mono ?_
    rintro e w4 ⟨rfl, rfl⟩
    go_wp2_with fail
    refine (HW.out _ (ARM.out _ HD.out).1).mono ?_
    rintro e w5 ⟨rfl, hb⟩
    have HZ := Lib.hid (below_next (ARM.out _ HD.out).1 hb ⟨rfl, rfl, rfl, rfl⟩)
    clear hb
    go_wp2_with fail
    exact HP.out _ HZ.out
  have u4 : ¬ (60 : Int) < (r2.length : Int) := by omega
  have hsm : SmB (a, cu, m) := ((grLB_sh hg1).2 (a, cu, m) (by simp)).1
  have V1 := Lib.hid (VV.out (by omega) hsm (grPB_parts hg2))
  have V2 := Lib.hid (VR.out (by omega) hsm (grPB_parts hg2))
  clear VV VR hg1 hg2 hg3 hg4 hsm
  go_wp2_with fail
  refine (GB.out _).mono ?_
  rintro e w2 ⟨rfl, hb⟩
  have HD := Lib.hid (below_next ((Below.refl w1.heap.size w1).alloc (Nat.le_refl _) (.cells #[.string ⟨a.toArray⟩, .string ⟨cu.toArray⟩, .string ⟨m.toArray⟩] 38)) hb ⟨rfl, rfl, rfl, rfl⟩)
  obtain ⟨⟨p0, p1, p2⟩, _⟩ := cells3 (ARM.out _ HD.out).2.2.2.1
  obtain ⟨⟨s0, s1⟩, _⟩ := cells2n (ARM.out _ HD.out).2.1
  clear hb
  go_wp2_with fail
  refine (GP.out _ (ARM.out _ HD.out).2.2.2.2).mono ?_
  rintro e w3 ⟨rfl, hb⟩
  have HD := Lib.hid (below_next HD.out hb ⟨rfl, rfl, rfl, rfl⟩)
  obtain ⟨⟨s2, s3⟩, _⟩ := cells2n (ARM.out _ HD.out).2.1
  clear hb
  go_wp2_with fail
  refine (GS.out _).mono ?_
  rintro e w4 ⟨rfl, rfl⟩
  go_upto_region 3 with fail
  have BP := Lib.hid (fun p : Bel w3 => ARM.out p.W (below_next HD.out p.h ⟨rfl, rfl, rfl, rfl⟩))
  have VP := Lib.hid (fun p : Bel w3 => V1.out p.W (BP.out p).1)
  have RP := Lib.hid (fun p : Bel w3 => V2.out p.W (BP.out p).1)
  have WP := Lib.hid (fun p : Bel w3 => HW.out p.W (BP.out p).1)
  have hp0 := fun p : Bel w3 => (cells3 (BP.out p).2.2.2.1).1.1
  have hp1 := fun p : Bel w3 => (cells3 (BP.out p).2.2.2.1).1.2.1
  have hp2 := fun p : Bel w3 => (cells3 (BP.out p).2.2.2.1).1.2.2
  have hc0 := fun p : Bel w3 => (cells3 (BP.out p).2.2.1).1.1
  have hc1 := fun p : Bel w3 => (cells3 (BP.out p).2.2.1).1.2.1
  have hc2 := fun p : Bel w3 => (cells3 (BP.out p).2.2.1).1.2.2
  have hr0 := fun p : Bel w3 => (cells2n (BP.out p).2.1).1.1
  have hr1 := fun p : Bel w3 => (cells2n (BP.out p).2.1).1.2
  clear V1 V2 HW GB GP GS
  refine wp_region_quiet_bel (by kernel_rfl) (by kernel_rfl) ?_
  repeat (quiet_step (first
    | (go_at_call 20; with_reducible refine Calls.bel_of (VP.out _))
    | (go_at_call 21; with_reducible refine Calls.bel_of (RP.out _))
    | (go_at_call 10; with_reducible refine Calls.bel_of (WP.out _))))
  refine wpQuiet_nil ?_
  intro wq' hw'
  obtain ⟨⟨wq, hq9⟩, hw2⟩ := hw'
  have hw3 : wq' = wq := hw2
  subst hw3
  have BZ := Lib.hid (BP.out ⟨wq', hq9⟩).1
  clear hp0 hp1 hp2 hc0 hc1 hc2 hr0 hr1 hw2
  go_wp2_with fail
  exact HP.out _ BZ.out
theorem verify_int (r1 r2 a cu m : List UInt8) (i n : Int) (A : Option Addr) (k c : Nat) (ns : List Nd) (w : World) (hz : (Lit.int .i64 i).wf = true ∧ (Lit.int .i64 n).wf = true) (hA : rowNd.Rds w A k c ns) (ht : Tab w) (hM : ML w) :
    Calls Tryz.prog 4 #[.agg #[.string ⟨r1.toArray⟩, .string ⟨r2.toArray⟩], .agg #[.string ⟨a.toArray⟩, .string ⟨cu.toArray⟩, .string ⟨m.toArray⟩], .agg #[.int .i64 i, .int .i64 n, .slice A k c]] w (BoolPost true w) :=
  verify_row r1 r2 a cu m i n A k c ns w (i64_rng hz.1) (i64_rng hz.2) hA ht hM
end Go.Proofs.YtejaehmoplohdaaGreatDoor
