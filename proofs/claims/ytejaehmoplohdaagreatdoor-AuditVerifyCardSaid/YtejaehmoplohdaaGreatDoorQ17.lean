/- Arguments that are balances, opened. -/
import Derived.Test.YtejaehmoplohdaaGreatDoorQ10
import Derived.Test.YtejaehmoplohdaaGreatDoorQ14
namespace Go.Proofs.YtejaehmoplohdaaGreatDoor
open Go.RowKit Go.Maps Go.WideShapes Go.ChangeShapes Go.ChangeAt Go.Deep Num

section
variable {H : Type} {enc : TypeId × Value → H} {W : World} {sp : Nat → Bool} {held : Bool}
set_option maxRecDepth 100000 in
theorem arg_balance {r : Reach} {b0 : Nat} {v : Value} {d : DataW H} {p : List MemPlace} (hok : Value.okWide Tryz.prog W r b0 38 v) (h : DataW.Trod enc Tryz.prog W 0 sp held 38 v d p) :
    ∃ a c m : List UInt8, v = .agg #[.string ⟨a.toArray⟩, .string ⟨c.toArray⟩, .string ⟨m.toArray⟩] := by
  obtain ⟨cs, rfl, hs⟩ := okWide_struct Tryz.underlying38 hok
  rw [cBal] at hs
  obtain ⟨fuel, hf⟩ := h
  have hf2 : DataW.trod enc Tryz.prog W 0 sp held fuel 38 cs.toList = some (d, p) := hf
  match hcs : cs.toList, (show cs.toList.length = 3 by simpa using hs) with
  | [v0, v1, v2], _ =>
    rw [hcs] at hf2
    obtain ⟨x, hx⟩ := trod_bal hf2
    have e : cs = #[v0, v1, v2] := by rw [← Array.toList_inj, hcs]
    rw [e]
    have h1 : [v0, v1, v2] = [.string ⟨x.1.toArray⟩, .string ⟨x.2.1.toArray⟩, .string ⟨x.2.2.toArray⟩] := hx.symm
    injection h1 with e0 h2
    injection h2 with e1 h3
    injection h3 with e2 _
    exact ⟨x.1, x.2.1, x.2.2, by rw [e0, e1, e2]⟩
end
end Go.Proofs.YtejaehmoplohdaaGreatDoor

/- AuditBalances: the walk. -/
namespace Go.Proofs.YtejaehmoplohdaaGreatDoor
open Go.RowKit Go.Maps Num

set_option maxRecDepth 100000 in
/-- refused where the own place's proof is told for another balance -/
theorem RefF {l : List Ln} (hf : fineB l = true) {n : Nat} (hn : l.length = n) {r1 r2 : List UInt8} (hrt : rootN sha l = (r1, r2)) {k : Nat} (hk : k < n) {a cu m a' cu' m' : List UInt8} (he : l.getD k ln0 = (a, cu, m)) (hb : okB (a', cu', m')) (hs : SmB (a', cu', m')) (hne : (a', cu', m') ≠ (a, cu, m)) {A : Option Addr} {c : Nat} {W : World} (hr : rowNd.Rds W A (nodesN sha l k).length c (nodesN sha l k)) (ht : Tab W) (hM : ML W) :
    Calls Tryz.prog 24 #[.agg #[.string ⟨r1.toArray⟩, .string ⟨r2.toArray⟩], .agg #[.string ⟨a.toArray⟩, .string ⟨cu.toArray⟩, .string ⟨m.toArray⟩], .agg #[.int .i64 (k : Int), .int .i64 (n : Int), .slice A (nodesN sha l k).length c], .agg #[.string ⟨a'.toArray⟩, .string ⟨cu'.toArray⟩, .string ⟨m'.toArray⟩], .agg #[.int .i64 (k : Int), .int .i64 (n : Int), .slice A (nodesN sha l k).length c]] W (BoolPost true W) := by
  obtain ⟨f1, f2, f3, f4⟩ := fineB_parts hf
  have hrl := (root_len l (fun x hx => (f2 x hx).2.2) (by omega)).1
  rw [hrt] at hrl
  simp only at hrl
  have hso := f2 _ (lnAt_mem l k (by omega))
  have hok := okB_at f4 (show k < l.length by omega)
  have hsm := nodes_small f2 (by omega) k
  have hnl := nodes_len sha l k
  have hw := way_len k l.length
  have := refused_any r1 r2 a cu m a' cu' m' k n k n A A (nodesN sha l k).length c (nodesN sha l k).length c (nodesN sha l k) (nodesN sha l k) W (by omega) (by rw [← he]; exact hok) (by rw [← he]; exact hso) hr (by rw [hnl, hn]) (fun x hx => ⟨by have := (hsm x hx).1; omega, (hsm x hx).2⟩) (by omega) (by omega)
    hs hr (fun x hx => by have := (hsm x hx).1; omega) (by omega) (by omega) (by omega) (fun _ => ⟨hb, by rw [hnl, hn], fun x hx => (hsm x hx).2, by omega, by omega⟩) ht hM
  have hrf := ref_true (D := sha) sha_len f4 (by omega) (k := k) (by omega) (b := (a', cu', m')) hb (i := k) (n := n) (ns := nodesN sha l k) (nodes_valid sha_len l k) (by omega) hk (.inl (by rw [he]; exact hne)) (.inl rfl)
  rw [hrt, he, hn] at hrf
  rw [hrf] at this
  exact this
theorem turn_small {a cu m : List UInt8} (h : SmB (a, cu, m)) (h2 : m.length ≤ 13) : SmB (a, cu, txt (- val m)) := by
  have h1 : (val m).natAbs < 10 ^ 13 := Nat.lt_of_lt_of_le (val_bd m) (Nat.pow_le_pow_right (by omega) h2)
  have := txt_bd (v := - val m) (k := 13) (by rw [Int.natAbs_neg]; exact h1)
  exact ⟨h.1, h.2.1, show (txt (- val m)).length ≤ 60 by omega⟩
theorem set3c {W : World} {b : Nat} {x y z : Value} {t : TypeId} (h : W.heap[b]? = some (.cells #[x, y, z] t)) (p : Value) : (W.setCell ⟨b, 2, none⟩ p).heap[b]? = some (.cells #[x, y, p] t) := by
  unfold World.setCell
  simp [Array.getElem?_modify, h]
set_option maxRecDepth 100000 in
set_option maxHeartbeats 8000000 in
theorem balances_row (A : Option Addr) (n c : Nat) (l : List Ln) (d : UInt8) (u v x : List UInt8) (w : World) (hl : rowB.Rds w A n c l) (ht : Tab w) (hM : ML w) : Calls Tryz.prog 6 #[.slice A n c, .int .u8 (d.toNat : Int), .agg #[.string ⟨u.toArray⟩, .string ⟨v.toArray⟩, .string ⟨x.toArray⟩]] w (BoolPost true w) := by
  have HP := Lib.hid (fun W (h : Below w.heap.size w W) => (show BoolPost true w (.returned (.bool true)) W from ⟨rfl, h⟩))
  have HW := Lib.hid (fun W (h : Below w.heap.size w W) => awake_any W (ht.below h) (hM.below h))
  have HF := Lib.hid (fun W (h : Below w.heap.size w W) => fine_any A n c l W (hl.below h))
  have HF1 := Lib.hid (fun W => fine_any (some ⟨W.heap.size, 0, none⟩) 1 1 [(u, v, x)] (W.alloc (.cells #[.string ⟨u.toArray⟩, .string ⟨v.toArray⟩, .string ⟨x.toArray⟩] 38)) (Row.rds_one rowB_ok W (u, v, x) 38))
  unfold BoolPost at HW HF HF1
  generalize BoolPost true w = Post at *
  have Y0 := Lib.hid (heap_alloc_new w (.cells #[.string ⟨u.toArray⟩, .string ⟨v.toArray⟩, .string ⟨x.toArray⟩] 38))
  have B0 := Lib.hid ((Below.refl _ w).alloc (Nat.le_refl _) (.cells #[.string ⟨u.toArray⟩, .string ⟨v.toArray⟩, .string ⟨x.toArray⟩] 38))
  have hln := hl.len
  cases hf : fineB l
  case false =>
    rw [hf] at HF
    clear hl ht hM hf
    go_enter Tryz.func6, Tryz.ntmps6
    go_upto_region 1 with fail
    generalize w.alloc (.cells #[.string ⟨u.toArray⟩, .string ⟨v.toArray⟩, .string ⟨x.toArray⟩] 38) = w0 at *
    go_wp2_with fail
    refine (HF.out _ B0.out).mono ?_
    rintro e w1 ⟨rfl, hb1⟩
    have B1 := Lib.hid (below_next B0.out hb1 ⟨rfl, rfl, rfl, rfl⟩)
    clear hb1
    go_wp2_with fail
    refine (HW.out _ B1.out).mono ?_
    rintro e w2 ⟨rfl, hb2⟩
    have B2 := Lib.hid (below_next B1.out hb2 ⟨rfl, rfl, rfl, rfl⟩)
    clear hb2
    go_wp2_with fail
    exact HP.out _ B2.out
  rw [hf] at HF
  by_cases hn0 : n = 0
  · subst hn0
    clear hl ht hM hf
    go_enter Tryz.func6, Tryz.ntmps6
    go_upto_region 1 with fail
    generalize w.alloc (.cells #[.string ⟨u.toArray⟩, .string ⟨v.toArray⟩, .string ⟨x.toArray⟩] 38) = w0 at *
    go_wp2_with fail
    refine (HF.out _ B0.out).mono ?_
    rintro e w1 ⟨rfl, hb1⟩
    have B1 := Lib.hid (below_next B0.out hb1 ⟨rfl, rfl, rfl, rfl⟩)
    clear hb1
    go_wp2_with fail
    refine (HW.out _ B1.out).mono ?_
    rintro e w2 ⟨rfl, hb2⟩
    have B2 := Lib.hid (below_next B1.out hb2 ⟨rfl, rfl, rfl, rfl⟩)
    clear hb2
    go_wp2_with fail
    exact HP.out _ B2.out
  have hd0 : ((n : Int) == 0) = false := beq_eq_false_iff_ne.2 (by omega)
  cases hf2 : fineB [(u, v, x)]
  case false =>
    rw [hf2] at HF1
    clear hl ht hM hf
    go_enter Tryz.func6, Tryz.ntmps6
    go_upto_region 1 with fail
    generalize w.alloc (.cells #[.string ⟨u.toArray⟩, .string ⟨v.toArray⟩, .string ⟨x.toArray⟩] 38) = w0 at *
    go_wp2_with fail
    refine (HF.out _ B0.out).mono ?_
    rintro e w1 ⟨rfl, hb1⟩
    have B1 := Lib.hid (below_next B0.out hb1 ⟨rfl, rfl, rfl, rfl⟩)
    obtain ⟨⟨z0, z1, z2⟩, _⟩ := cells3 (bkeep Y0.out hb1)
    clear hb1
    go_wp2_with fail
    refine (HF1.out _).mono ?_
    rintro e w2 ⟨rfl, hb2⟩
    have B2 := Lib.hid (below_next (B1.out.alloc B1.out.size _) hb2 ⟨rfl, rfl, rfl, rfl⟩)
    clear hb2 z0 z1 z2
    go_wp2_with fail
    refine (HW.out _ B2.out).mono ?_
    rintro e w3 ⟨rfl, hb3⟩
    have B3 := Lib.hid (below_next B2.out hb3 ⟨rfl, rfl, rfl, rfl⟩)
    clear hb3
    go_wp2_with fail
    exact HP.out _ B3.out
  rw [hf2] at HF1
  obtain ⟨f1, f2, f3, f4⟩ := fineB_parts hf
  obtain ⟨_, e2, e3, e4⟩ := fineB_parts hf2
  have hn : n ≤ 16 := by omega
  have hrl := root_len l (fun x hx => (f2 x hx).2.2) (by omega)
  have HR := Lib.hid (fun W (h : Below w.heap.size w W) => RootF hf (hl.below h) (ht.below h) (hM.below h))
  rcases hrt : rootN sha l with ⟨r1, r2⟩
  rw [hrt] at hrl HR
  have HPv := Lib.hid (fun k (hk : k < n) W (h : Below w.heap.size w W) => ProveF hf (hl.below h) (ht.below h) (hM.below h) hk)
  have HV := Lib.hid (show ∀ k, k < n → ∀ a cu m, l.getD k ln0 = (a, cu, m) → ∀ A c W, rowNd.Rds W A (nodesN sha l k).length c (nodesN sha l k) → Below w.heap.size w W → Calls Tryz.prog 20 #[.agg #[.string ⟨r1.toArray⟩, .string ⟨r2.toArray⟩], .agg #[.string ⟨a.toArray⟩, .string ⟨cu.toArray⟩, .string ⟨m.toArray⟩], .agg #[.int .i64 (k : Int), .int .i64 (n : Int), .slice A (nodesN sha l k).length c]] W (IntPost 0 W) from fun k hk a cu m he A c W h1 hb => by
    have h2 := f2 _ (lnAt_mem l k (by omega))
    rw [he] at h2
    have hw := way_len k l.length
    have hnl := nodes_len sha l k
    have := Verify_any r1 r2 a cu m (k : Int) (n : Int) A (nodesN sha l k).length c (nodesN sha l k) W (by have := hrl.1; simp only at this; omega) h2 h1 (fun x hx => by have := (nodes_small f2 (by omega) k x hx).1; omega) (by omega) (by omega) (by omega) (by omega) (by omega) (ht.below hb) (hM.below hb)
    have hv := ver_ok (D := sha) sha_len f4 (by omega) (k := k) (by omega)
    rw [hrt, he, hln] at hv
    rw [hv] at this
    exact this)
  have HRf := Lib.hid (fun k (hk : k < n) a cu m (he : l.getD k ln0 = (a, cu, m)) a' cu' m' (hb : okB (a', cu', m')) (hs : SmB (a', cu', m')) (hne : (a', cu', m') ≠ (a, cu, m)) A c W (hr : rowNd.Rds W A (nodesN sha l k).length c (nodesN sha l k)) (h : Below w.heap.size w W) => RefF hf hln hrt hk he hb hs hne hr (ht.below h) (hM.below h))
  have HX := Lib.hid (show okB (u, v, x) ∧ SmB (u, v, x) from ⟨okB_one.1 e4, e2 _ (by simp)⟩)
  have HTn := Lib.hid (show ∀ k, k < n → ∀ a cu m, l.getD k ln0 = (a, cu, m) → m.length ≤ 60 ∧ okB (a, cu, txt (- val m)) ∧ SmB (a, cu, txt (- val m)) ∧ (a, cu, txt (- val m)) ≠ (a, cu, m) from fun k hk a cu m he => by
    have h2 := f2 _ (lnAt_mem l k (by omega))
    have h3 := f3 _ (lnAt_mem l k (by omega))
    have h5 := turn_ok (okB_at f4 (show k < l.length by omega))
    rw [he] at h2 h3 h5
    exact ⟨h2.2.2, h5.1, turn_small h2 h3, h5.2⟩)
  have HNg := Lib.hid (fun (m : List UInt8) (hm : m.length ≤ 60) W (h : Below w.heap.size w W) => (show Calls Tryz.prog 23 #[.string ⟨m.toArray⟩] W (StrPost (txt (- val m)) W) from Neg_any ⟨m.toArray⟩ W (by show m.toArray.size ≤ 120; rw [List.size_toArray]; omega) (ht.below h)))
  have L1 := Lib.hid hl
  unfold NdC ndV at HR
  unfold IntPost at HV
  unfold BoolPost at HRf
  unfold StrPost at HNg
  simp only at HR
  obtain ⟨i, hi⟩ : ∃ i, d.toNat % n = i := ⟨_, rfl⟩
  have hlt2 : i < n := by rw [← hi]; exact Nat.mod_lt _ (by omega)
  have hdb : d.toNat < 256 := d.toNat_lt
  have hm2 : (d.toNat : Int) % (n : Int) = (i : Int) := by rw [← hi]; simp
  have PK := Lib.hid (HPv.out i hlt2)
  rcases hx : l.getD i ln0 with ⟨xa, xc, xm⟩
  have VK := Lib.hid (HV.out i hlt2 xa xc xm hx)
  have RK := Lib.hid (HRf.out i hlt2 xa xc xm hx)
  have TK := Lib.hid (HTn.out i hlt2 xa xc xm hx)
  have HXL := Lib.hid hx
  clear hl ht hM hf hf2 f1 f2 f3 f4 e2 e3 e4 hrt hrl hln HPv HV HRf HTn hx hi
  generalize nodesN sha l i = ns at *
  go_enter Tryz.func6, Tryz.ntmps6
  go_upto_region 1 with fail
  generalize w.alloc (.cells #[.string ⟨u.toArray⟩, .string ⟨v.toArray⟩, .string ⟨x.toArray⟩] 38) = w0 at *
  go_wp2_with fail
  refine (HF.out _ B0.out).mono ?_
  rintro e w1 ⟨rfl, hb1⟩
  have B1 := Lib.hid (below_next B0.out hb1 ⟨rfl, rfl, rfl, rfl⟩)
  have Y1 := Lib.hid (bkeep Y0.out hb1)
  obtain ⟨⟨z0, z1, z2⟩, _⟩ := cells3 Y1.out
  clear hb1 Y0 B0 HF
  go_wp2_with fail
  refine (HF1.out _).mono ?_
  rintro e w2 ⟨rfl, hb2⟩
  have B2 := Lib.hid (below_next (B1.out.alloc B1.out.size _) hb2 ⟨rfl, rfl, rfl, rfl⟩)
  have Y2 := Lib.hid (bkeep (balloc Y1.out _) hb2)
  clear hb2 z0 z1 z2 Y1 B1 HF1
  go_wp2_with fail
  refine (HR.out _ B2.out).mono ?_
  rintro e w3 ⟨rfl, hb3⟩
  have R0 := Lib.hid (show RtS w w3.heap.size r1 r2 (w3.alloc (.cells #[.string ⟨r1.toArray⟩, .string ⟨r2.toArray⟩] 27)) from ⟨(below_next B2.out hb3 ⟨rfl, rfl, rfl, rfl⟩).alloc (below_next B2.out hb3 ⟨rfl, rfl, rfl, rfl⟩).size _, heap_alloc_new w3 _⟩)
  have Y3 := Lib.hid (balloc (bkeep Y2.out hb3) (.cells #[.string ⟨r1.toArray⟩, .string ⟨r2.toArray⟩] 27))
  clear hb3 B2 Y2 HR
  go_upto_region 5 with fail
  generalize w3.alloc (.cells #[.string ⟨r1.toArray⟩, .string ⟨r2.toArray⟩] 27) = w4 at *
  generalize w3.heap.size = rb at *
  go_wp2_with fail
  refine (PK.out _ R0.out.bel).mono ?_
  rintro e w5 ⟨v5, rfl, hov, hb⟩
  obtain ⟨Av, cv, rfl, hrd⟩ := hov.rds
  obtain ⟨nn, hnn⟩ : ∃ nn, ns.length = nn := ⟨_, rfl⟩
  simp only [hnn] at hrd VK RK ⊢
  have R2 := Lib.hid ((R0.out.below hb).alloc (.cells #[.int .i64 (i : Int), .int .i64 (n : Int), .slice Av nn cv] 33))
  have P2 := Lib.hid (heap_alloc_new w5 (.cells #[.int .i64 (i : Int), .int .i64 (n : Int), .slice Av nn cv] 33))
  have Y5 := Lib.hid (balloc (bkeep Y3.out hb) (.cells #[.int .i64 (i : Int), .int .i64 (n : Int), .slice Av nn cv] 33))
  have V2 := Lib.hid (hrd.below ((Below.refl _ w5).alloc (Nat.le_refl _) (.cells #[.int .i64 (i : Int), .int .i64 (n : Int), .slice Av nn cv] 33)))
  clear hb hov hrd R0 PK hnn hm2 Y3
  go_upto_region 8 with fail
  generalize w5.alloc (.cells #[.int .i64 (i : Int), .int .i64 (n : Int), .slice Av nn cv] 33) = w6 at *
  generalize w5.heap.size = pb at *
  obtain ⟨b1, o1, hA1, hb1, _⟩ := L1.out.at_ (by omega)
  subst hA1
  have q0 := (L1.out.below R2.out.bel).cell rowB_ok ln0 i 0 _ hlt2 rfl
  have q1 := (L1.out.below R2.out.bel).cell rowB_ok ln0 i 1 _ hlt2 rfl
  have q2 := (L1.out.below R2.out.bel).cell rowB_ok ln0 i 2 _ hlt2 rfl
  rw [HXL.out] at q0 q1 q2
  simp only [Nat.add_zero] at q0 q1 q2
  have hii : (i : Int) < (n : Int) := by omega
  have hi0 : (0 : Int) ≤ (i : Int) := by omega
  have NG := Lib.hid (HNg.out xm TK.out.1)
  have T6 := Lib.hid (heap_alloc_new w6 (.cells #[.string ⟨xa.toArray⟩, .string ⟨xc.toArray⟩, .string ⟨xm.toArray⟩] 38))
  have X6 := Lib.hid ((Below.refl _ w6).alloc (Nat.le_refl _) (.cells #[.string ⟨xa.toArray⟩, .string ⟨xc.toArray⟩, .string ⟨xm.toArray⟩] 38))
  go_upto_region 9 with fail
  generalize w6.alloc (.cells #[.string ⟨xa.toArray⟩, .string ⟨xc.toArray⟩, .string ⟨xm.toArray⟩] 38) = w7 at *
  obtain ⟨tb, htb⟩ : ∃ tb, w6.heap.size = tb := ⟨_, rfl⟩
  have HTB := Lib.hid htb
  rw [htb] at T6 ⊢
  clear q0 q1 q2 HNg htb
  obtain ⟨⟨t0, t1, t2⟩, _⟩ := cells3 T6.out
  go_wp2_with fail
  refine (NG.out _ (R2.out.below X6.out).bel).mono ?_
  rintro e w8 ⟨rfl, hb⟩
  have X8 := Lib.hid (below_next X6.out hb ⟨rfl, rfl, rfl, rfl⟩)
  have T8 := Lib.hid (bkeep T6.out hb)
  obtain ⟨⟨t0', t1', t2'⟩, f0, f1, f2⟩ := cells3 T8.out
  clear hb X6 T6 NG t0 t1 t2
  go_upto_region 10 with fail
  have X9 := Lib.hid (X8.out.setCell (p := ⟨tb, 2, none⟩) (by rw [← HTB.out]; exact Nat.le_refl _) (.string ⟨(txt (- val xm)).toArray⟩))
  have T9 := Lib.hid (set3c T8.out (.string ⟨(txt (- val xm)).toArray⟩))
  have TK2 := Lib.hid TK.out.2
  clear X8 T8 t0' t1' t2' f0 f1 f2 TK HTB
  generalize txt (- val xm) = xn at *
  generalize w8.setCell ⟨tb, 2, none⟩ (.string ⟨xn.toArray⟩) = w9 at *
  have BB := Lib.hid (fun W (h : Below w9.heap.size w9 W) => (show Below w.heap.size w W ∧ rowNd.Rds W Av nn cv ns ∧ W.heap[pb]? = some (.cells #[.int .i64 (i : Int), .int .i64 (n : Int), .slice Av nn cv] 33) ∧ W.heap[w.heap.size]? = some (.cells #[.string ⟨u.toArray⟩, .string ⟨v.toArray⟩, .string ⟨x.toArray⟩] 38) ∧ W.heap[rb]? = some (.cells #[.string ⟨r1.toArray⟩, .string ⟨r2.toArray⟩] 27) ∧ W.heap[tb]? = some (.cells #[.string ⟨xa.toArray⟩, .string ⟨xc.toArray⟩, .string ⟨xn.toArray⟩] 38) from
    ⟨(R2.out.below (below_next X9.out h ⟨rfl, rfl, rfl, rfl⟩)).bel, V2.out.below (below_next X9.out h ⟨rfl, rfl, rfl, rfl⟩), bkeep P2.out (below_next X9.out h ⟨rfl, rfl, rfl, rfl⟩), bkeep Y5.out (below_next X9.out h ⟨rfl, rfl, rfl, rfl⟩), (R2.out.below (below_next X9.out h ⟨rfl, rfl, rfl, rfl⟩)).rt, bkeep T9.out h⟩))
  have QQ := Lib.hid (fun W (h : Below w9.heap.size w9 W) => (show W.cell? ⟨b1, o1 + i * 3, none⟩ = some (.string ⟨xa.toArray⟩) ∧ W.cell? ⟨b1, o1 + i * 3 + 1, none⟩ = some (.string ⟨xc.toArray⟩) ∧ W.cell? ⟨b1, o1 + i * 3 + 2, none⟩ = some (.string ⟨xm.toArray⟩) from by
    have q0 := (L1.out.below (BB.out W h).1).cell rowB_ok ln0 i 0 _ hlt2 rfl
    have q1 := (L1.out.below (BB.out W h).1).cell rowB_ok ln0 i 1 _ hlt2 rfl
    have q2 := (L1.out.below (BB.out W h).1).cell rowB_ok ln0 i 2 _ hlt2 rfl
    rw [HXL.out] at q0 q1 q2
    exact ⟨q0, q1, q2⟩))
  clear R2 P2 Y5 V2 X9 T9
  go_cut [63] (fun t wx => Hid (t = .bool (decide ((u, v, x) = (xa, xc, xm))) ∧ Below w9.heap.size w9 wx))
  case first =>
    obtain ⟨q0, q1, q2⟩ := QQ.out w9 (Below.refl _ _)
    obtain ⟨⟨y0, y1, y2⟩, _⟩ := cells3 (BB.out w9 (Below.refl _ _)).2.2.2.1
    clear BB QQ VK RK TK2 HX HXL HP HW L1
    by_cases h1 : u = xa
    · subst h1
      by_cases h2 : v = xc
      · subst h2
        by_cases h3 : x = xm
        · subst h3
          go_quiet (fail)
          go_wp2_with fail
          go_meet
          exact Lib.hid ⟨by simp, below_dr (Below.refl _ w9) nq⟩
        · have e3 : (x == xm) = false := beq_eq_false_iff_ne.2 h3
          go_quiet (fail)
          go_wp2_with fail
          go_meet
          exact Lib.hid ⟨by simp [h3], below_dr (Below.refl _ w9) nq⟩
      · have e2 : (v == xc) = false := beq_eq_false_iff_ne.2 h2
        go_quiet (fail)
        go_wp2_with fail
        go_meet
        exact Lib.hid ⟨by simp [h2], below_dr (Below.refl _ w9) nq⟩
    · have e1 : (u == xa) = false := beq_eq_false_iff_ne.2 h1
      go_quiet (fail)
      go_wp2_with fail
      go_meet
      exact Lib.hid ⟨by simp [h1], below_dr (Below.refl _ w9) nq⟩
  case rest =>
  obtain ⟨rfl, hb9⟩ := hcut.out
  have BP := Lib.hid (fun p : Bel wc => BB.out p.W (below_next hb9 p.h ⟨rfl, rfl, rfl, rfl⟩))
  have QP := Lib.hid (fun p : Bel wc => QQ.out p.W (below_next hb9 p.h ⟨rfl, rfl, rfl, rfl⟩))
  have W5 := Lib.hid (fun p : Bel wc => HW.out p.W (BP.out p).1)
  have R5 := Lib.hid (fun p : Bel wc => RK.out xa xc xn TK2.out.1 TK2.out.2.1 TK2.out.2.2 Av cv p.W (BP.out p).2.1 (BP.out p).1)
  by_cases heq : (u, v, x) = (xa, xc, xm)
  · have V5 := Lib.hid (fun p : Bel wc => VK.out Av cv p.W (BP.out p).2.1 (BP.out p).1)
    have hde : decide ((u, v, x) = (xa, xc, xm)) = true := decide_eq_true heq
    rw [hde]
    simp only [Prod.mk.injEq] at heq
    obtain ⟨rfl, rfl, rfl⟩ := heq
    have hc0 := fun p : Bel wc => (cells3 (BP.out p).2.2.2.1).1.1
    have hc1 := fun p : Bel wc => (cells3 (BP.out p).2.2.2.1).1.2.1
    have hc2 := fun p : Bel wc => (cells3 (BP.out p).2.2.2.1).1.2.2
    have hr0 := fun p : Bel wc => (cells2n (BP.out p).2.2.2.2.1).1.1
    have hr1 := fun p : Bel wc => (cells2n (BP.out p).2.2.2.2.1).1.2
    have ht0 := fun p : Bel wc => (cells3 (BP.out p).2.2.2.2.2).1.1
    have ht1 := fun p : Bel wc => (cells3 (BP.out p).2.2.2.2.2).1.2.1
    have ht2 := fun p : Bel wc => (cells3 (BP.out p).2.2.2.2.2).1.2.2
    have hp0 := fun p : Bel wc => (cells3 (BP.out p).2.2.1).1.1
    have hp1 := fun p : Bel wc => (cells3 (BP.out p).2.2.1).1.2.1
    have hp2 := fun p : Bel wc => (cells3 (BP.out p).2.2.1).1.2.2
    have hq0 := fun p : Bel wc => (QP.out p).1
    have hq1 := fun p : Bel wc => (QP.out p).2.1
    have hq2 := fun p : Bel wc => (QP.out p).2.2
    clear hcut hde BB QQ VK RK TK2 HX HW L1 HXL hb9
    go_upto_region 11 with fail
    refine wp_region_quiet_bel (by kernel_rfl) (by kernel_rfl) ?_
    repeat (quiet_step (first
      | (go_at_call 20; with_reducible refine Calls.bel_of (V5.out _))
      | (go_at_call 24; with_reducible refine Calls.bel_of (R5.out _))
      | (go_at_call 10; with_reducible refine Calls.bel_of (W5.out _))))
    refine wpQuiet_nil ?_
    intro wq' hw'
    obtain ⟨⟨wq, hq9⟩, hw2⟩ := hw'
    have hw3 : wq' = wq := hw2
    subst hw3
    have BQ : Hid (Below w.heap.size w wq') := Lib.hid (BP.out ⟨wq', hq9⟩).1
    clear hc0 hc1 hc2 hr0 hr1 ht0 ht1 ht2 hp0 hp1 hp2 hq0 hq1 hq2 hw2
    go_wp2_with fail
    exact HP.out _ BQ.out
  · have R6 := Lib.hid (fun p : Bel wc => RK.out u v x HX.out.1 HX.out.2 heq Av cv p.W (BP.out p).2.1 (BP.out p).1)
    have hde : decide ((u, v, x) = (xa, xc, xm)) = false := decide_eq_false heq
    rw [hde]
    have hc0 := fun p : Bel wc => (cells3 (BP.out p).2.2.2.1).1.1
    have hc1 := fun p : Bel wc => (cells3 (BP.out p).2.2.2.1).1.2.1
    have hc2 := fun p : Bel wc => (cells3 (BP.out p).2.2.2.1).1.2.2
    have hr0 := fun p : Bel wc => (cells2n (BP.out p).2.2.2.2.1).1.1
    have hr1 := fun p : Bel wc => (cells2n (BP.out p).2.2.2.2.1).1.2
    have ht0 := fun p : Bel wc => (cells3 (BP.out p).2.2.2.2.2).1.1
    have ht1 := fun p : Bel wc => (cells3 (BP.out p).2.2.2.2.2).1.2.1
    have ht2 := fun p : Bel wc => (cells3 (BP.out p).2.2.2.2.2).1.2.2
    have hp0 := fun p : Bel wc => (cells3 (BP.out p).2.2.1).1.1
    have hp1 := fun p : Bel wc => (cells3 (BP.out p).2.2.1).1.2.1
    have hp2 := fun p : Bel wc => (cells3 (BP.out p).2.2.1).1.2.2
    have hq0 := fun p : Bel wc => (QP.out p).1
    have hq1 := fun p : Bel wc => (QP.out p).2.1
    have hq2 := fun p : Bel wc => (QP.out p).2.2
    clear hcut hde heq BB QQ VK RK TK2 HX HW L1 HXL hb9
    go_upto_region 12 with fail
    refine wp_region_quiet_bel (by kernel_rfl) (by kernel_rfl) ?_
    repeat (quiet_step (first
      | (go_at_call 24; with_reducible refine Calls.bel_of (R5.out _))
      | (go_at_call 24; with_reducible refine Calls.bel_of (R6.out _))
      | (go_at_call 10; with_reducible refine Calls.bel_of (W5.out _))))
    refine wpQuiet_nil ?_
    intro wq' hw'
    obtain ⟨⟨wq, hq9⟩, hw2⟩ := hw'
    have hw3 : wq' = wq := hw2
    subst hw3
    have BQ : Hid (Below w.heap.size w wq') := Lib.hid (BP.out ⟨wq', hq9⟩).1
    clear hc0 hc1 hc2 hr0 hr1 ht0 ht1 ht2 hp0 hp1 hp2 hq0 hq1 hq2 hw2
    go_wp2_with fail
    exact HP.out _ BQ.out
theorem balances_int (A : Option Addr) (n c : Nat) (l : List Ln) (z : Int) (u v x : List UInt8) (w : World) (hl : rowB.Rds w A n c l) (hz : (Lit.int .u8 z).wf = true) (ht : Tab w) (hM : ML w) : Calls Tryz.prog 6 #[.slice A n c, .int .u8 z, .agg #[.string ⟨u.toArray⟩, .string ⟨v.toArray⟩, .string ⟨x.toArray⟩]] w (BoolPost true w) := by
  obtain ⟨d, rfl⟩ := u8_of hz
  exact balances_row A n c l d u v x w hl ht hM
end Go.Proofs.YtejaehmoplohdaaGreatDoor
