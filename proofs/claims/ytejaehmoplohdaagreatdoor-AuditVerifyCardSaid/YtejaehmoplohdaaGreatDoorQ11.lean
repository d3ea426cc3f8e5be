/- AuditProves: the walk. -/
import Derived.Test.YtejaehmoplohdaaGreatDoorQ10
namespace Go.Proofs.YtejaehmoplohdaaGreatDoor
open Go.RowKit Go.Maps Num

/-- the root lies in its box -/
structure RtS (w : World) (rb : Nat) (r1 r2 : List UInt8) (W : World) : Prop where
  bel : Below w.heap.size w W
  rt : W.heap[rb]? = some (.cells #[.string ⟨r1.toArray⟩, .string ⟨r2.toArray⟩] 27)
theorem RtS.below {w : World} {rb : Nat} {r1 r2 : List UInt8} {W W' : World} (h : RtS w rb r1 r2 W) (hb : Below W.heap.size W W') : RtS w rb r1 r2 W' := ⟨below_next h.bel hb ⟨rfl, rfl, rfl, rfl⟩, bkeep h.rt hb⟩
theorem RtS.alloc {w : World} {rb : Nat} {r1 r2 : List UInt8} {W : World} (h : RtS w rb r1 r2 W) (o : Obj) : RtS w rb r1 r2 (W.alloc o) := ⟨h.bel.alloc h.bel.size o, balloc h.rt o⟩
set_option maxRecDepth 100000 in
set_option maxHeartbeats 8000000 in
theorem proves_row (A : Option Addr) (n c : Nat) (l : List Ln) (w : World) (hl : rowB.Rds w A n c l) (ht : Tab w) (hM : ML w) : Calls Tryz.prog 5 #[.slice A n c] w (BoolPost true w) := by
  have HP := Lib.hid (fun W (h : Below w.heap.size w W) => (show BoolPost true w (.returned (.bool true)) W from ⟨rfl, h⟩))
  have HW := Lib.hid (fun W (h : Below w.heap.size w W) => awake_any W (ht.below h) (hM.below h))
  have HF := Lib.hid (fine_any A n c l w hl)
  unfold BoolPost at HW HF
  generalize BoolPost true w = Post at *
  cases hf : fineB l
  case false =>
    rw [hf] at HF
    clear hl ht hM hf
    go_enter Tryz.func5, Tryz.ntmps5
    go_wp2_with fail
    refine HF.out.mono ?_
    rintro e w1 ⟨rfl, hb1⟩
    have B1 := Lib.hid hb1
    clear hb1
    go_wp2_with fail
    refine (HW.out _ B1.out).mono ?_
    rintro e w2 ⟨rfl, hb2⟩
    have B2 := Lib.hid (below_next B1.out hb2 ⟨rfl, rfl, rfl, rfl⟩)
    clear hb2
    go_wp2_with fail
    exact HP.out _ B2.out
  case true =>
  rw [hf] at HF
  obtain ⟨f1, f2, f3, f4⟩ := fineB_parts hf
  have hln := hl.len
  have hn : n ≤ 16 := by omega
  rcases hrt : rootN sha l with ⟨r1, r2⟩
  have hrl := root_len l (fun x hx => (f2 x hx).2.2) (by omega)
  rw [hrt] at hrl
  have HR := Lib.hid (fun W (h : Below w.heap.size w W) => RootF hf (hl.below h) (ht.below h) (hM.below h))
  rw [hrt] at HR
  have HPv := Lib.hid (fun k (hk : k < n) W (h : Below w.heap.size w W) => ProveF hf (hl.below h) (ht.below h) (hM.below h) hk)
  have HV := Lib.hid (show ∀ k, k < n → ∀ a cu m, l.getD k ln0 = (a, cu, m) → ∀ A c W, rowNd.Rds W A (nodesN sha l k).length c (nodesN sha l k) → Below w.heap.size w W → Calls Tryz.prog 20 #[.agg #[.string ⟨r1.toArray⟩, .string ⟨r2.toArray⟩], .agg #[.string ⟨a.toArray⟩, .string ⟨cu.toArray⟩, .string ⟨m.toArray⟩], .agg #[.int .i64 (k : Int), .int .i64 (n : Int), .slice A (nodesN sha l k).length c]] W (IntPost 0 W) from fun k hk a cu m he A c W h1 hb => by
    have h2 := f2 _ (lnAt_mem l k (by omega))
    rw [he] at h2
    have hw := way_len k l.length
    have hnl := nodes_len sha l k
    have := Verify_any r1 r2 a cu m (k : Int) (n : Int) A (nodesN sha l k).length c (nodesN sha l k) W (by have := hrl.1; simp only at this; omega) h2 h1 (fun x hx => by have := (nodes_small f2 (by omega) k x hx).1; omega) (by omega) (by omega) (by omega) (by omega) (by omega) (ht.below hb) (hM.below hb)
    have hv := ver_ok (D := sha) sha_len f4 (by omega) (k := k) (by omega)
    rw [hrt, he, hln] at hv
    rw [hv] at this
    exact this)
  have HLf := Lib.hid (show n = 1 → ∀ a cu m, l.getD 0 ln0 = (a, cu, m) → ∀ W, Below w.heap.size w W → Calls Tryz.prog 16 #[.agg #[.string ⟨a.toArray⟩, .string ⟨cu.toArray⟩, .string ⟨m.toArray⟩]] W (NdC (r1, r2) 0 W) from fun h1 a cu m he W hb => by
    obtain ⟨x, hx⟩ : ∃ x, l = [x] := List.length_eq_one_iff.1 (by omega)
    subst hx
    have he2 : x = (a, cu, m) := by simpa using he
    have := LeafF (b := x) he2 (f2 x (by simp)) f4 (W := W) (ht.below hb) (hM.below hb)
    rw [root_one] at hrt
    rw [hrt] at this
    exact this)
  have L1 := Lib.hid hl
  unfold NdC ndV at HR HLf
  unfold IntPost at HV
  simp only at HR HLf
  clear hl ht hM hf hrl f1 f2 f3 f4 hrt
  go_enter Tryz.func5, Tryz.ntmps5
  go_wp2_with fail
  refine HF.out.mono ?_
  rintro e w1 ⟨rfl, hb1⟩
  have B1 := Lib.hid hb1
  clear hb1
  go_wp2_with fail
  refine (HR.out _ B1.out).mono ?_
  rintro e w2 ⟨rfl, hb2⟩
  have R0 := Lib.hid (show RtS w w2.heap.size r1 r2 (w2.alloc (.cells #[.string ⟨r1.toArray⟩, .string ⟨r2.toArray⟩] 27)) from ⟨(below_next B1.out hb2 ⟨rfl, rfl, rfl, rfl⟩).alloc (below_next B1.out hb2 ⟨rfl, rfl, rfl, rfl⟩).size _, heap_alloc_new w2 _⟩)
  clear hb2 B1 HF HR
  go_upto_region 4 with fail
  generalize w2.alloc (.cells #[.string ⟨r1.toArray⟩, .string ⟨r2.toArray⟩] 27) = w3 at *
  generalize w2.heap.size = rb at *
  go_wp2_with fail
  go_loopw [24, 5, 6, 7, 8] (fun i _ _ _ _ wr => ∃ k : Nat, k ≤ n ∧ i = .int .i64 (k : Int) ∧ Hid (RtS w rb r1 r2 wr)) (fun i _ _ _ _ _ => n - (intOf i).toNat)
  case atStart => exact ⟨0, by omega, rfl, R0⟩
  case round =>
    clear R0
    obtain ⟨k, hk, rfl, hR⟩ := hrel
    by_cases hlt : k < n
    · obtain ⟨b1, o1, rfl, hb1, _⟩ := L1.out.at_ (by omega)
      have q0 := (L1.out.below hR.out.bel).cell rowB_ok ln0 k 0 _ hlt rfl
      have q1 := (L1.out.below hR.out.bel).cell rowB_ok ln0 k 1 _ hlt rfl
      have q2 := (L1.out.below hR.out.bel).cell rowB_ok ln0 k 2 _ hlt rfl
      have hki : (k : Int) < (n : Int) := by omega
      have hk0 : (0 : Int) ≤ (k : Int) := by omega
      rcases hx : l.getD k ln0 with ⟨xa, xc, xm⟩
      rw [hx] at q0 q1 q2
      simp only [Nat.add_zero] at q0 q1 q2
      have VK := Lib.hid (HV.out k hlt xa xc xm hx)
      have PK := Lib.hid (HPv.out k hlt)
      have R1 := Lib.hid (hR.out.alloc (.cells #[.string ⟨xa.toArray⟩, .string ⟨xc.toArray⟩, .string ⟨xm.toArray⟩] 38))
      have X1 := Lib.hid (heap_alloc_new wr (.cells #[.string ⟨xa.toArray⟩, .string ⟨xc.toArray⟩, .string ⟨xm.toArray⟩] 38))
      clear hR hx
      go_upto_region 9 with fail
      generalize wr.alloc (.cells #[.string ⟨xa.toArray⟩, .string ⟨xc.toArray⟩, .string ⟨xm.toArray⟩] 38) = w4 at *
      generalize wr.heap.size = xb at *
      generalize nodesN sha l k = ns at *
      go_wp2_with fail
      refine (PK.out _ R1.out.bel).mono ?_
      rintro e w5 ⟨v, rfl, hov, hb⟩
      obtain ⟨Av, cv, rfl, hrd⟩ := hov.rds
      obtain ⟨nn, hnn⟩ : ∃ nn, ns.length = nn := ⟨_, rfl⟩
      simp only [hnn] at hrd VK ⊢
      have R2 := Lib.hid ((R1.out.below hb).alloc (.cells #[.int .i64 (k : Int), .int .i64 (n : Int), .slice Av nn cv] 33))
      have X2 := Lib.hid (balloc (bkeep X1.out hb) (.cells #[.int .i64 (k : Int), .int .i64 (n : Int), .slice Av nn cv] 33))
      have P2 := Lib.hid (heap_alloc_new w5 (.cells #[.int .i64 (k : Int), .int .i64 (n : Int), .slice Av nn cv] 33))
      have V2 := Lib.hid (hrd.below ((Below.refl _ w5).alloc (Nat.le_refl _) (.cells #[.int .i64 (k : Int), .int .i64 (n : Int), .slice Av nn cv] 33)))
      clear hb hov hrd R1 X1 PK hnn
      go_upto_region 10 with fail
      generalize w5.alloc (.cells #[.int .i64 (k : Int), .int .i64 (n : Int), .slice Av nn cv] 33) = w6 at *
      generalize w5.heap.size = pb at *
      obtain ⟨⟨p0, p1, p2⟩, _⟩ := cells3 P2.out
      obtain ⟨⟨x0, x1, x2⟩, _⟩ := cells3 X2.out
      obtain ⟨⟨r0, r1'⟩, _⟩ := cells2n R2.out.rt
      go_wp2_with fail
      refine (VK.out _ _ _ V2.out R2.out.bel).mono ?_
      rintro e w7 ⟨rfl, hb⟩
      have RR := Lib.hid (R2.out.below hb)
      clear hb VK
      go_wp2_with fail
      exact ⟨⟨k + 1, by omega, by go_num, RR⟩, by simp [intOf]; omega⟩
    · have hkn : k = n := by omega
      subst hkn
      have hki : ¬ (k : Int) < (k : Int) := by omega
      by_cases h1 : k = 1
      · subst h1
        obtain ⟨b1, o1, rfl, hb1, _⟩ := L1.out.at_ (by omega)
        have q0 := (L1.out.below hR.out.bel).cell rowB_ok ln0 0 0 _ (by omega) rfl
        have q1 := (L1.out.below hR.out.bel).cell rowB_ok ln0 0 1 _ (by omega) rfl
        have q2 := (L1.out.below hR.out.bel).cell rowB_ok ln0 0 2 _ (by omega) rfl
        rcases hx : l.getD 0 ln0 with ⟨xa, xc, xm⟩
        rw [hx] at q0 q1 q2
        simp only [Nat.add_zero, Nat.zero_mul] at q0 q1 q2
        have LK := Lib.hid (HLf.out rfl xa xc xm hx)
        have R1 := Lib.hid hR.out
        clear hR hx
        go_wp2_with fail
        refine (LK.out _ R1.out.bel).mono ?_
        rintro e w4 ⟨rfl, hb⟩
        have R2 := Lib.hid ((R1.out.below hb).alloc (.cells #[.string ⟨r1.toArray⟩, .string ⟨r2.toArray⟩] 27))
        have X2 := Lib.hid (heap_alloc_new w4 (.cells #[.string ⟨r1.toArray⟩, .string ⟨r2.toArray⟩] 27))
        clear hb
        go_upto_region 15 with fail
        generalize w4.alloc (.cells #[.string ⟨r1.toArray⟩, .string ⟨r2.toArray⟩] 27) = w6 at *
        generalize w4.heap.size = xb at *
        obtain ⟨⟨x0, x1⟩, _⟩ := cells2n X2.out
        obtain ⟨⟨r0, r1'⟩, _⟩ := cells2n R2.out.rt
        go_wp2_with fail
        refine (HW.out _ R2.out.bel).mono ?_
        rintro e w7 ⟨rfl, hb⟩
        have RR := Lib.hid (R2.out.below hb)
        clear hb
        go_wp2_with fail
        exact HP.out _ RR.out.bel
      · have hd : ((k : Int) == 1) = false := beq_eq_false_iff_ne.2 (by omega)
        have R1 := Lib.hid hR.out
        clear hR
        go_wp2_with fail
        refine (HW.out _ R1.out.bel).mono ?_
        rintro e w7 ⟨rfl, hb⟩
        have RR := Lib.hid (R1.out.below hb)
        clear hb
        go_wp2_with fail
        exact HP.out _ RR.out.bel
end Go.Proofs.YtejaehmoplohdaaGreatDoor
