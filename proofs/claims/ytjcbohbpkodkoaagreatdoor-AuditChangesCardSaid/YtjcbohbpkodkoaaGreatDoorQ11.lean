/- Audit: contract of Verify. -/
import Derived.Test.YtjcbohbpkodkoaaGreatDoorQ10
import Derived.Test.YtjcbohbpkodkoaaGreatDoorQ7
import Derived.Test.YtjcbohbpkodkoaaGreatDoorQ5
import Derived.Test.YtjcbohbpkodkoaaGreatDoorQ3
import Derived.Test.YtjcbohbpkodkoaaGreatDoorQ2
import Derived.Test.YtjcbohbpkodkoaaGreatDoorQ6
import Derived.Test.YtjcbohbpkodkoaaGreatDoorQ4
import Derived.Deep.Strs
import Derived.Lib.SmallJoins
import Derived.Test.YtjcbohbpkodkoaaGreatDoorRows
import Derived.Below
import Derived.ChangeSame
import Derived.ProofKit
import Derived.OpenShut
import Derived.ShutString
import Derived.SliceStrings
import Derived.HandedShaped
import Derived.Test.YtjcbohbpkodkoaaGreatDoorCards
import Derived.Test.YtjcbohbpkodkoaaGreatDoorTie
import Derived.WalkKit
import Derived.LaidMore
import Derived.Stop.Joined
import Derived.Stop.LaidErr
import Derived.SevenTiedAt
import Derived.Lib.LaidTab
import Derived.Lay
import Derived.Test.YtjcbohbpkodkoaaGreatDoorChecked
import Derived.Lib.Hide
namespace Go.Proofs.YtjcbohbpkodkoaaGreatDoor
open Go.RowKit Go.Maps Num

theorem alloc_three3 (w : World) (a b p q r x y z : Value) (s t u : TypeId) : (((w.alloc (.cells #[a, b] s)).alloc (.cells #[p, q, r] t)).alloc (.cells #[x, y, z] u)).heap[w.heap.size]? = some (.cells #[a, b] s) ∧ (((w.alloc (.cells #[a, b] s)).alloc (.cells #[p, q, r] t)).alloc (.cells #[x, y, z] u)).heap[w.heap.size + 1]? = some (.cells #[p, q, r] t) ∧
    (((w.alloc (.cells #[a, b] s)).alloc (.cells #[p, q, r] t)).alloc (.cells #[x, y, z] u)).heap[w.heap.size + 1 + 1]? = some (.cells #[x, y, z] u) := by
  have h1 := heap_alloc_new w (.cells #[a, b] s)
  have h2 := heap_alloc_new (w.alloc (.cells #[a, b] s)) (.cells #[p, q, r] t)
  rw [World.size_alloc] at h2
  have h3 := heap_alloc_new ((w.alloc (.cells #[a, b] s)).alloc (.cells #[p, q, r] t)) (.cells #[x, y, z] u)
  rw [show ((w.alloc (.cells #[a, b] s)).alloc (.cells #[p, q, r] t)).heap.size = w.heap.size + 1 + 1 by simp] at h3
  exact ⟨(heap_alloc_old _ _ (by simp; omega)).trans ((heap_alloc_old _ _ (by simp)).trans h1), (heap_alloc_old _ _ (by simp)).trans h2, h3⟩
set_option maxRecDepth 100000 in
set_option maxHeartbeats 8000000 in
theorem Verify_any (r1 r2 a cu m : List UInt8) (i n : Int) (A : Option Addr) (k c : Nat) (ns : List Nd) (w : World) (hr : r1.length ≤ 100) (hs : SmB (a, cu, m)) (hA : rowNd.Rds w A k c ns) (hn : ∀ x ∈ ns, x.1.length ≤ 70) (hk : k ≤ 100000)
    (hi1 : -9223372036854775808 ≤ i) (hi2 : i ≤ 9223372036854775807) (hn1 : -9223372036854775808 ≤ n) (hn2 : n ≤ 9223372036854775807) (ht : Tab w) (hM : ML w) :
    Calls Tryz.prog 22 #[.agg #[.string ⟨r1.toArray⟩, .string ⟨r2.toArray⟩], .agg #[.string ⟨a.toArray⟩, .string ⟨cu.toArray⟩, .string ⟨m.toArray⟩], .agg #[.int .i64 i, .int .i64 n, .slice A k c]] w (IntPost (verI sha (r1, r2) (a, cu, m) i n ns) w) := by
  have ll := Lib.hid hA.len
  have HP := Lib.hid (show ∀ v W, verI sha (r1, r2) (a, cu, m) i n ns = v → Below w.heap.size w W → IntPost (verI sha (r1, r2) (a, cu, m) i n ns) w (.returned (.int .i64 v)) W from fun v W e h => ⟨by rw [e], h⟩)
  have HV := Lib.hid (show verI sha (r1, r2) (a, cu, m) i n ns = if (listB [(a, cu, m)] && validN (r1, r2) && ns.all validN) = false then 1 else if 1024 < n then 4 else if i < 0 ∨ n ≤ i then 2 else if (wayN i.toNat n.toNat).length ≠ ns.length then 9 else if climbN sha (leafN sha (a, cu, m)) (wayN i.toNat n.toNat).reverse ns ≠ (r1, r2) then 20 else 0 from rfl)
  have Y := alloc_three3 w (.string ⟨r1.toArray⟩) (.string ⟨r2.toArray⟩) (.string ⟨a.toArray⟩) (.string ⟨cu.toArray⟩) (.string ⟨m.toArray⟩) (.int .i64 i) (.int .i64 n) (.slice A k c) 51 48 56
  have hB0 : Below w.heap.size w (((w.alloc (.cells #[.string ⟨r1.toArray⟩, .string ⟨r2.toArray⟩] 51)).alloc (.cells #[.string ⟨a.toArray⟩, .string ⟨cu.toArray⟩, .string ⟨m.toArray⟩] 48)).alloc (.cells #[.int .i64 i, .int .i64 n, .slice A k c] 56)) := (((Below.refl _ w).alloc (Nat.le_refl _) _).alloc (by simp) _).alloc (by simp; omega) _
  have hsz : (((w.alloc (.cells #[.string ⟨r1.toArray⟩, .string ⟨r2.toArray⟩] 51)).alloc (.cells #[.string ⟨a.toArray⟩, .string ⟨cu.toArray⟩, .string ⟨m.toArray⟩] 48)).alloc (.cells #[.int .i64 i, .int .i64 n, .slice A k c] 56)).heap.size = w.heap.size + 3 := by simp
  obtain ⟨y0, y1, y2⟩ := Y
  obtain ⟨⟨c0, c1⟩, _⟩ := cells2n y0
  obtain ⟨⟨d0, d1, d2⟩, _⟩ := cells3 y1
  obtain ⟨⟨p0, p1, p2⟩, _⟩ := cells3 y2
  have HLf := Lib.hid (fun W (h : Below w.heap.size w W) => Leaf_any a cu m W hs (ht.below h) (hM.below h))
  have HVa := Lib.hid (fun W => validN_any r1 r2 W hr)
  have HCo := Lib.hid (fun W (h : Below w.heap.size w W) => conN_any A k c ns W (hA.below h) (fun p hp => by have := hn p hp; omega) hk)
  unfold NdC ndV at HLf
  unfold BoolPost at HVa HCo
  have B0 := Lib.hid hB0
  have Y0 := Lib.hid y0
  have Y2 := Lib.hid y2
  have SZ := Lib.hid hsz
  have hov : ∀ u1 u2 v1 v2 W, SmN (u1, u2) → SmN (v1, v2) → Below w.heap.size w W → Calls Tryz.prog 38 #[.agg #[.string ⟨u1.toArray⟩, .string ⟨u2.toArray⟩], .agg #[.string ⟨v1.toArray⟩, .string ⟨v2.toArray⟩]] W (NdPost (overN sha (u1, u2) (v1, v2)) W) := fun u1 u2 v1 v2 W h1 h2 h => over_any u1 u2 v1 v2 W h1 h2 (ht.below h)
  have HOv := Lib.hid hov
  have L1 := Lib.hid hA
  have HN := Lib.hid hn
  clear hB0 y0 y1 y2 hsz hr ht hM hov hA hn
  generalize IntPost (verI sha (r1, r2) (a, cu, m) i n ns) w = Post at *
  generalize verI sha (r1, r2) (a, cu, m) i n ns = R at *
  cases hb : listB [(a, cu, m)]
  case false =>
    have e0 : lisI [(a, cu, m)] = 1 := by unfold lisI; rw [hb]; rfl
    have e1 : leafC (a, cu, m) = ([], []) := by unfold leafC; rw [hb]; rfl
    have hv := Lib.hid (fun W h => HP.out 1 W (by rw [HV.out, hb]; rfl) h)
    rw [e0, e1] at HLf
    simp only at HLf
    clear e0 e1 HP HV HOv HCo HVa hb
    go_enter Tryz.func22, Tryz.ntmps22
    go_wp2_with fail
    refine (HLf.out _ B0.out).mono ?_
    rintro e w4 ⟨rfl, hb⟩
    have B4 := Lib.hid (below_next B0.out hb ⟨rfl, rfl, rfl, rfl⟩)
    have B5 := Lib.hid (B4.out.alloc B4.out.size (.cells #[.string ⟨#[]⟩, .string ⟨#[]⟩] 51))
    clear hb
    go_wp2_with fail
    exact hv.out _ B5.out
  case true =>
  have e0 : lisI [(a, cu, m)] = 0 := by unfold lisI; rw [hb]; rfl
  have e1 : leafC (a, cu, m) = leafN sha (a, cu, m) := by unfold leafC; rw [hb]; rfl
  have lf1 := (leafN sha (a, cu, m))
  rw [e0, e1] at HLf
  rcases hlf : leafN sha (a, cu, m) with ⟨n1, n2⟩
  rw [hlf] at HLf HV
  simp only at HLf
  have hl1 : n1.length ≤ 70 := by
    have h1 : n1 = absT m := by rw [show n1 = (leafN sha (a, cu, m)).1 by rw [hlf]]; rfl
    rw [h1]
    unfold absT
    have h2 := val_le60 (a := m) hs.2.2
    have := txt_bd (v := ((val m).natAbs : Int)) (k := 60) (by omega)
    omega
  have hl2 : n2.length = 32 := by rw [show n2 = (leafN sha (a, cu, m)).2 by rw [hlf]]; exact sha_len _
  clear e0 e1 lf1 hlf
  cases hva : validN (r1, r2)
  case false =>
    have hv := Lib.hid (fun W h => HP.out 1 W (by rw [HV.out, hb, hva]; rfl) h)
    rw [hva] at HVa
    clear HP HV HOv HCo hb hva
    go_enter Tryz.func22, Tryz.ntmps22
    go_wp2_with fail
    refine (HLf.out _ B0.out).mono ?_
    rintro e w4 ⟨rfl, hb⟩
    have B4 := Lib.hid (below_next B0.out hb ⟨rfl, rfl, rfl, rfl⟩)
    have B5 := Lib.hid (B4.out.alloc B4.out.size (.cells #[.string ⟨n1.toArray⟩, .string ⟨n2.toArray⟩] 51))
    have C0 := (hb.block _ (by rw [SZ.out]; omega)).trans Y0.out
    obtain ⟨⟨g0, g1⟩, _⟩ := cells2n ((heap_alloc_old w4 (.cells #[.string ⟨n1.toArray⟩, .string ⟨n2.toArray⟩] 51) (Array.getElem?_eq_some_iff.1 C0).1).trans C0)
    clear hb
    go_wp2_with fail
    refine (HVa.out _).mono ?_
    rintro e w6 ⟨rfl, hb⟩
    have B6 := Lib.hid (below_next B5.out hb ⟨rfl, rfl, rfl, rfl⟩)
    clear hb
    go_wp2_with fail
    exact hv.out _ B6.out
  case true =>
  rw [hva] at HVa
  go_enter Tryz.func22, Tryz.ntmps22
  go_wp2_with fail
  refine (HLf.out _ B0.out).mono ?_
  rintro e w4 ⟨rfl, hb4⟩
  have Y0' := (hb4.block _ (by rw [SZ.out]; omega)).trans Y0.out
  have Y2' := (hb4.block _ (by rw [SZ.out]; omega)).trans Y2.out
  have Z0 := Lib.hid ((heap_alloc_old w4 (.cells #[.string ⟨n1.toArray⟩, .string ⟨n2.toArray⟩] 51) (Array.getElem?_eq_some_iff.1 Y0').1).trans Y0')
  have Z2 := Lib.hid ((heap_alloc_old w4 (.cells #[.string ⟨n1.toArray⟩, .string ⟨n2.toArray⟩] 51) (Array.getElem?_eq_some_iff.1 Y2').1).trans Y2')
  have ZO := Lib.hid (heap_alloc_new w4 (.cells #[.string ⟨n1.toArray⟩, .string ⟨n2.toArray⟩] 51))
  have BO := Lib.hid ((Below.refl _ w4).alloc (Nat.le_refl _) (.cells #[.string ⟨n1.toArray⟩, .string ⟨n2.toArray⟩] 51))
  have B4 := Lib.hid (below_next B0.out hb4 ⟨rfl, rfl, rfl, rfl⟩)
  have B5 := Lib.hid (B4.out.alloc B4.out.size (.cells #[.string ⟨n1.toArray⟩, .string ⟨n2.toArray⟩] 51))
  have L4 := Lib.hid (show w.heap.size + 3 ≤ w4.heap.size by have := hb4.size; rw [SZ.out] at this; exact this)
  have S5 := Lib.hid (show (w4.alloc (.cells #[.string ⟨n1.toArray⟩, .string ⟨n2.toArray⟩] 51)).heap.size = w4.heap.size + 1 by simp)
  obtain ⟨⟨g0, g1⟩, _⟩ := cells2n Z0.out
  clear hb4 Y0' Y2' c0 c1 d0 d1 d2 p0 p1 p2
  go_wp2_with fail
  generalize w4.alloc (.cells #[.string ⟨n1.toArray⟩, .string ⟨n2.toArray⟩] 51) = w5 at *
  refine (HVa.out _).mono ?_
  rintro e w6 ⟨rfl, hb6⟩
  have B6 := Lib.hid (below_next B5.out hb6 ⟨rfl, rfl, rfl, rfl⟩)
  have C6 := Lib.hid hb6
  obtain ⟨⟨p0, p1, p2⟩, _⟩ := cells3 ((hb6.block _ (by rw [S5.out]; have := L4.out; omega)).trans Z2.out)
  clear hb6 g0 g1
  go_wp2_with fail
  refine (HCo.out _ B6.out).mono ?_
  rintro e w7 ⟨rfl, hb7⟩
  have B7 := Lib.hid (below_next B6.out hb7 ⟨rfl, rfl, rfl, rfl⟩)
  have C7 := Lib.hid (below_next C6.out hb7 ⟨rfl, rfl, rfl, rfl⟩)
  have P7 := Lib.hid ((C7.out.block _ (by rw [S5.out]; have := L4.out; omega)).trans Z2.out)
  have O7 := Lib.hid ((C7.out.block w4.heap.size (by rw [S5.out]; omega)).trans ZO.out)
  have R7 := Lib.hid ((C7.out.block _ (by rw [S5.out]; have := L4.out; omega)).trans Z0.out)
  clear hb7 p0 p1 p2 HLf HVa HCo B6 C6 Z0 Z2 ZO B5 BO B0 Y0 Y2 SZ
  obtain ⟨⟨p0, p1, p2⟩, _⟩ := cells3 P7.out
  have hbad : ns.any badN = !ns.all validN := by rw [List.not_all_eq_any_not]; rfl
  have HVn := Lib.hid (show ns.all validN = true → ∀ x ∈ ns, validN x = true from fun h => List.all_eq_true.1 h)
  rw [hbad]
  rw [hb, hva] at HV
  cases hall : ns.all validN
  case false =>
    have hv := Lib.hid (fun W h => HP.out 1 W (by rw [HV.out, hall]; rfl) h)
    clear HP HV HOv hall hbad
    go_wp2_with fail
    exact hv.out _ B7.out
  case true =>
  rw [hall] at HV
  by_cases hn4 : 1024 < n
  · have hv := Lib.hid (fun W h => HP.out 4 W (by rw [HV.out, if_neg (by decide), if_pos hn4]) h)
    have hd : decide (1024 < n) = true := decide_eq_true hn4
    clear HP HV HOv hall hbad
    go_wp2_with fail
    exact hv.out _ B7.out
  have hd : decide (1024 < n) = false := decide_eq_false hn4
  by_cases hi0 : i < 0
  · have hv := Lib.hid (fun W h => HP.out 2 W (by rw [HV.out, if_neg (by decide), if_neg hn4, if_pos (.inl hi0)]) h)
    clear HP HV HOv hall hbad
    go_wp2_with fail
    exact hv.out _ B7.out
  by_cases hin : n ≤ i
  · have hv := Lib.hid (fun W h => HP.out 2 W (by rw [HV.out, if_neg (by decide), if_neg hn4, if_pos (.inr hin)]) h)
    clear HP HV HOv hall hbad
    go_wp2_with fail
    exact hv.out _ B7.out
  obtain ⟨iN, rfl⟩ : ∃ iN : Nat, i = (iN : Int) := ⟨i.toNat, by omega⟩
  obtain ⟨nN, rfl⟩ : ∃ nN : Nat, n = (nN : Int) := ⟨n.toNat, by omega⟩
  have hV2 := HV.out
  rw [if_neg (by decide), if_neg hn4, if_neg (by omega), Int.toNat_natCast, Int.toNat_natCast, ← beside_len, ← beside_way, ll.out] at hV2
  have HV2 := Lib.hid hV2
  have HBs := Lib.hid (fun W => beside_any iN nN W (by omega) (by omega))
  have hbl := besideN_len iN nN
  clear HV hV2
  generalize besideN iN nN = bs at *
  have hi9 : (0 : Int) ≤ (iN : Int) := by omega
  have hin9 : (iN : Int) < (nN : Int) := by omega
  have hnN : nN ≤ 1024 := by omega
  clear hbad
  go_wp2_with fail
  refine (HBs.out _).mono ?_
  rintro e w8 ⟨vb, rfl, ho, hb8⟩
  have B8 := Lib.hid (below_next B7.out hb8 ⟨rfl, rfl, rfl, rfl⟩)
  have P8 := Lib.hid ((hb8.block _ (Array.getElem?_eq_some_iff.1 P7.out).1).trans P7.out)
  have O8 := Lib.hid ((hb8.block _ (Array.getElem?_eq_some_iff.1 O7.out).1).trans O7.out)
  have R8 := Lib.hid ((hb8.block _ (Array.getElem?_eq_some_iff.1 R7.out).1).trans R7.out)
  have LB := Lib.hid (show w4.heap.size < w7.heap.size from (Array.getElem?_eq_some_iff.1 O7.out).1)
  have HO := Lib.hid ho
  obtain ⟨Ab, cb, rfl, hrb⟩ := ho.rds
  clear hb8 ho hrb p0 p1 p2 HBs
  obtain ⟨⟨p0, p1, p2⟩, _⟩ := cells3 P8.out
  obtain ⟨mb, hmb⟩ : ∃ mb, bs.length = mb := ⟨_, rfl⟩
  rw [hmb] at HV2 HO hbl ⊢
  have HMB := Lib.hid hmb
  clear hmb
  by_cases hne : mb = k
  case neg =>
    have hv := Lib.hid (fun W h => HP.out 9 W (by rw [HV2.out, if_pos hne]) h)
    have hd9 : ((mb : Int) != (k : Int)) = true := by rw [bne_iff_ne]; omega
    clear HP HV2 HOv hall
    go_wp2_with fail
    exact hv.out _ B8.out
  subst hne
  have hV3 := HV2.out
  rw [if_neg (by simp)] at hV3
  have HV3 := Lib.hid hV3
  have HNV := Lib.hid (HVn.out hall)
  have hnn : (w4.heap.size < w7.heap.size ∧ w.heap.size ≤ w4.heap.size ∧ w.heap.size + 1 + 1 ≠ w4.heap.size ∧ w.heap.size ≠ w4.heap.size) := ⟨LB.out, by have := L4.out; omega, by have := L4.out; omega, by have := L4.out; omega⟩
  have HNN := Lib.hid hnn
  have HN2 := Lib.hid hnn.2.1
  have hnz : ((mb : Int) != (mb : Int)) = false := by simp
  obtain ⟨pb, hpb⟩ : ∃ pb, w.heap.size + 1 + 1 = pb := ⟨_, rfl⟩
  obtain ⟨ob, hob⟩ : ∃ ob, w4.heap.size = ob := ⟨_, rfl⟩
  obtain ⟨B7s, hB7⟩ : ∃ B7s, w7.heap.size = B7s := ⟨_, rfl⟩
  obtain ⟨rb, hrb⟩ : ∃ rb, w.heap.size = rb := ⟨_, rfl⟩
  have R0 := Lib.hid (show VrR w w4.heap.size w.heap.size (w.heap.size + 1 + 1) w7.heap.size bs (.slice Ab mb cb) (.slice A mb c) (.string ⟨r1.toArray⟩) (.string ⟨r2.toArray⟩) (.int .i64 (iN : Int)) (.int .i64 (nN : Int)) (climbN sha (n1, n2) ((bs.take 0).map fun x => x.2.2) (ns.take 0)) w8 from
    ⟨O8.out, B8.out, HO.out, P8.out, R8.out⟩)
  have HSM := Lib.hid (show ∀ kk, kk ≤ mb → SmN (climbN sha (n1, n2) ((bs.take kk).map fun x => x.2.2) (ns.take kk)) from fun kk hkk => climb_small _ _ _ (by rw [List.length_map, List.length_take, List.length_take, HMB.out, ll.out]) hl1 (fun x hx => HN.out x (List.mem_of_mem_take hx)) hl2 (by rw [List.length_take, ll.out]; omega))
  have HFN := Lib.hid (show climbN sha (n1, n2) ((bs.take mb).map fun x => x.2.2) (ns.take mb) = climbN sha (n1, n2) (bs.map fun x => x.2.2) ns from by rw [List.take_of_length_le (by rw [HMB.out]; exact Nat.le_refl _), List.take_of_length_le (by rw [ll.out]; exact Nat.le_refl _)])
  have BW := Lib.hid (fun W (h : Below w.heap.size w W) => L1.out.below h)
  clear hV3 HV2 HVn hall hnn O8 P8 R8 P7 O7 R7 HO B7 B8 C7 B4 LB L4 S5 L1 p0 p1 p2
  rw [hpb, hob, hB7] at HNN R0
  rw [hob] at HN2
  rw [hrb] at HNN
  rw [show VrR w ob w.heap.size pb = VrR w ob rb pb by rw [hrb]] at R0
  rw [hpb, hob, hrb]
  clear hpb hob hB7 hrb
  obtain ⟨⟨p0, p1, p2⟩, _⟩ := cells3 R0.out.pr
  go_wp2_with fail
  go_loopw [58, 10, 11] (fun i _ _ wr => ∃ kk : Nat, kk ≤ mb ∧ i = .int .i64 (kk : Int) ∧ Hid (VrR w ob rb pb B7s bs (.slice Ab mb cb) (.slice A mb c) (.string ⟨r1.toArray⟩) (.string ⟨r2.toArray⟩) (.int .i64 (iN : Int)) (.int .i64 (nN : Int)) (climbN sha (n1, n2) ((bs.take kk).map fun x => x.2.2) (ns.take kk)) wr)) (fun i _ _ _ => mb - (intOf i).toNat)
  case atStart => exact ⟨0, by omega, rfl, R0⟩
  case round =>
    clear R0 p0 p1 p2
    obtain ⟨kk, hkk, rfl, hR⟩ := hrel
    by_cases hlt : kk < mb
    · have hkl : kk < bs.length := by rw [HMB.out]; exact hlt
      have hkn : kk < ns.length := by rw [ll.out]; exact hlt
      have hct := Lib.hid (climb_take (n1, n2) bs ns kk hkl hkn)
      have hmem := getD_mem nd0 ns kk hkn
      have hsn : SmN (ns.getD kk nd0) := ⟨by have := HN.out _ hmem; omega, by have := (validN_iff.1 (HNV.out _ hmem)).2.2; omega⟩
      have hsm := HSM.out kk hkk
      obtain ⟨As, cs, e, hrd⟩ := hR.out.sl.rds
      injection e with e1 e2 e3
      subst e1 e3
      rw [HMB.out] at hrd
      clear e2
      obtain ⟨b1, o1, rfl, hb1, _⟩ := hrd.at_ (by omega)
      have q0 := hrd.cell rowP_ok (0, 0, false) kk 0 _ hlt rfl
      have q1 := hrd.cell rowP_ok (0, 0, false) kk 1 _ hlt rfl
      have q2 := hrd.cell rowP_ok (0, 0, false) kk 2 _ hlt rfl
      obtain ⟨b2, o2, rfl, _, _⟩ := (BW.out w (Below.refl _ _)).at_ (by omega)
      have hki : (kk : Int) < (mb : Int) := by omega
      have hk0 : (0 : Int) ≤ (kk : Int) := by omega
      have hk9 : kk < 100000 := by omega
      generalize bs.getD kk (0, 0, false) = x at *
      obtain ⟨xf, xt, xs⟩ := x
      simp only [Nat.add_zero] at q0 q1 q2
      have NS0 := Lib.hid (fun W (h : Below w.heap.size w W) => (BW.out W h).cell rowNd_ok nd0 kk 0 _ hlt rfl)
      have NS1 := Lib.hid (fun W (h : Below w.heap.size w W) => (BW.out W h).cell rowNd_ok nd0 kk 1 _ hlt rfl)
      rcases hy : ns.getD kk nd0 with ⟨y1, y2⟩
      rw [hy] at NS0 NS1 hsn hct
      simp only [Nat.add_zero] at NS0 NS1
      rcases hcu : climbN sha (n1, n2) ((bs.take kk).map fun x => x.2.2) (ns.take kk) with ⟨u1, u2⟩
      rw [hcu] at hR hct hsm
      have RX := Lib.hid (hR.out.below ((Below.refl _ wr).alloc (Nat.le_refl _) (.cells #[.int .i64 (xf : Int), .int .i64 (xt : Int), .bool xs] 75)))
      obtain ⟨⟨x0, x1, x2⟩, _⟩ := cells3 (heap_alloc_new wr (.cells #[.int .i64 (xf : Int), .int .i64 (xt : Int), .bool xs] 75))
      have OV1 := Lib.hid (fun W (h : Below w.heap.size w W) => HOv.out u1 u2 y1 y2 W hsm hsn h)
      have OV2 := Lib.hid (fun W (h : Below w.heap.size w W) => HOv.out y1 y2 u1 u2 W hsn hsm h)
      clear hR hmem hkl hkn hrd hy hcu hsm hsn
      cases xs
      case true =>
        have hct2 := Lib.hid (show climbN sha (n1, n2) ((bs.take (kk + 1)).map fun x => x.2.2) (ns.take (kk + 1)) = overN sha (u1, u2) (y1, y2) from hct.out)
        rcases hnd : overN sha (u1, u2) (y1, y2) with ⟨v1, v2⟩
        rw [hnd] at hct2 OV1
        unfold NdPost ndV at OV1
        simp only at OV1
        clear hnd OV2 hct
        go_wp2_with fail
        generalize wr.alloc (.cells #[.int .i64 (xf : Int), .int .i64 (xt : Int), .bool true] 75) = wx at *
        have hO : ∀ p : Bel wx, p.W.cell? ⟨ob, 0, none⟩ = some (.string ⟨u1.toArray⟩) ∧ p.W.cell? ⟨ob, 1, none⟩ = some (.string ⟨u2.toArray⟩) := fun p => (cells2n (RX.out.below p.h).box).1
        have hO0 := fun p => (hO p).1
        have hO1 := fun p => (hO p).2
        have hP2 : ∀ p : Bel wx, p.W.cell? ⟨pb, 2, none⟩ = some (.slice (some ⟨b2, o2, none⟩) mb c) := fun p => (cells3 (RX.out.below p.h).pr).1.2.2
        have hN0 : ∀ p : Bel wx, p.W.cell? ⟨b2, o2 + kk * 2, none⟩ = some (.string ⟨y1.toArray⟩) := fun p => NS0.out p.W (RX.out.below p.h).bel
        have hN1 : ∀ p : Bel wx, p.W.cell? ⟨b2, o2 + kk * 2 + 1, none⟩ = some (.string ⟨y2.toArray⟩) := fun p => NS1.out p.W (RX.out.below p.h).bel
        have OVP := Lib.hid (fun p : Bel wx => OV1.out p.W (RX.out.below p.h).bel)
        clear hO x0 x1 x2 q0 q1 q2 OV1
        refine wp_region_tail_bel 7 (by kernel_rfl) (by kernel_rfl) ?_
        simp only [List.take_succ_cons, List.take_zero, List.drop_succ_cons, List.drop_zero]
        repeat (quiet_step (first
          | (go_at_call 38; with_reducible refine Calls.bel_of (OVP.out _))))
        refine wpQuiet_nil ?_
        intro wq' hw'
        obtain ⟨⟨wq, hq⟩, hw2⟩ := hw'
        have hw3 : wq' = wq := hw2
        subst hw3
        have RQ := Lib.hid (RX.out.below hq)
        obtain ⟨⟨o0, o1'⟩, f0, f1⟩ := cells2n RQ.out.box
        have RS := Lib.hid (RQ.out.set HN2.out HNN.out.1 HNN.out.2.2.1 HNN.out.2.2.2 v1 v2)
        rw [← hct2.out] at RS
        clear hO0 hO1 hP2 hN0 hN1 hw2 hq
        go_wp2_with fail
        exact ⟨⟨kk + 1, by omega, by go_num, RS⟩, by simp [intOf]; omega⟩
      case false =>
        have hct2 := Lib.hid (show climbN sha (n1, n2) ((bs.take (kk + 1)).map fun x => x.2.2) (ns.take (kk + 1)) = overN sha (y1, y2) (u1, u2) from hct.out)
        rcases hnd : overN sha (y1, y2) (u1, u2) with ⟨v1, v2⟩
        rw [hnd] at hct2 OV2
        unfold NdPost ndV at OV2
        simp only at OV2
        clear hnd OV1 hct
        go_wp2_with fail
        generalize wr.alloc (.cells #[.int .i64 (xf : Int), .int .i64 (xt : Int), .bool false] 75) = wx at *
        have hO : ∀ p : Bel wx, p.W.cell? ⟨ob, 0, none⟩ = some (.string ⟨u1.toArray⟩) ∧ p.W.cell? ⟨ob, 1, none⟩ = some (.string ⟨u2.toArray⟩) := fun p => (cells2n (RX.out.below p.h).box).1
        have hO0 := fun p => (hO p).1
        have hO1 := fun p => (hO p).2
        have hP2 : ∀ p : Bel wx, p.W.cell? ⟨pb, 2, none⟩ = some (.slice (some ⟨b2, o2, none⟩) mb c) := fun p => (cells3 (RX.out.below p.h).pr).1.2.2
        have hN0 : ∀ p : Bel wx, p.W.cell? ⟨b2, o2 + kk * 2, none⟩ = some (.string ⟨y1.toArray⟩) := fun p => NS0.out p.W (RX.out.below p.h).bel
        have hN1 : ∀ p : Bel wx, p.W.cell? ⟨b2, o2 + kk * 2 + 1, none⟩ = some (.string ⟨y2.toArray⟩) := fun p => NS1.out p.W (RX.out.below p.h).bel
        have OVP := Lib.hid (fun p : Bel wx => OV2.out p.W (RX.out.below p.h).bel)
        clear hO x0 x1 x2 q0 q1 q2 OV2
        refine wp_region_tail_bel 7 (by kernel_rfl) (by kernel_rfl) ?_
        simp only [List.take_succ_cons, List.take_zero, List.drop_succ_cons, List.drop_zero]
        repeat (quiet_step (first
          | (go_at_call 38; with_reducible refine Calls.bel_of (OVP.out _))))
        refine wpQuiet_nil ?_
        intro wq' hw'
        obtain ⟨⟨wq, hq⟩, hw2⟩ := hw'
        have hw3 : wq' = wq := hw2
        subst hw3
        have RQ := Lib.hid (RX.out.below hq)
        obtain ⟨⟨o0, o1'⟩, f0, f1⟩ := cells2n RQ.out.box
        have RS := Lib.hid (RQ.out.set HN2.out HNN.out.1 HNN.out.2.2.1 HNN.out.2.2.2 v1 v2)
        rw [← hct2.out] at RS
        clear hO0 hO1 hP2 hN0 hN1 hw2 hq
        go_wp2_with fail
        exact ⟨⟨kk + 1, by omega, by go_num, RS⟩, by simp [intOf]; omega⟩
    · have hkm : kk = mb := by omega
      subst hkm
      have hki : ¬ (kk : Int) < (kk : Int) := by omega
      have hRo := hR.out
      rw [HFN.out] at hRo
      rcases hcu : climbN sha (n1, n2) (bs.map fun x => x.2.2) ns with ⟨u1, u2⟩
      rw [hcu] at HV3 hRo
      obtain ⟨⟨o0, o1'⟩, _⟩ := cells2n hRo.box
      obtain ⟨⟨t0, t1⟩, _⟩ := cells2n hRo.rt
      have HBL := Lib.hid hRo.bel
      clear hR hRo hcu
      by_cases hu1 : u1 = r1
      case neg =>
        have hv := Lib.hid (fun W h => HP.out 20 W (by rw [HV3.out, if_pos (fun e => hu1 (congrArg Prod.fst e))]) h)
        have e1 : (u1 == r1) = false := beq_eq_false_iff_ne.2 hu1
        clear HP HV3 HOv
        go_wp2_with fail
        exact hv.out _ HBL.out
      subst hu1
      by_cases hu2 : u2 = r2
      case neg =>
        have hv := Lib.hid (fun W h => HP.out 20 W (by rw [HV3.out, if_pos (fun e => hu2 (congrArg Prod.snd e))]) h)
        have e1 : (u2 == r2) = false := beq_eq_false_iff_ne.2 hu2
        clear HP HV3 HOv
        go_wp2_with fail
        exact hv.out _ HBL.out
      subst hu2
      have hv := Lib.hid (fun W h => HP.out 0 W (by rw [HV3.out, if_neg (by simp)]) h)
      clear HP HV3 HOv
      go_wp2_with fail
      exact hv.out _ HBL.out
end Go.Proofs.YtjcbohbpkodkoaaGreatDoor

/- Audit: contract of the reference's SameProof. -/
namespace Go.Proofs.YtjcbohbpkodkoaaGreatDoor
open Go.RowKit Go.Maps Num

theorem alloc_two33 (w : World) (a b c x y z : Value) (s t : TypeId) : ((w.alloc (.cells #[a, b, c] s)).alloc (.cells #[x, y, z] t)).heap[w.heap.size]? = some (.cells #[a, b, c] s) ∧ ((w.alloc (.cells #[a, b, c] s)).alloc (.cells #[x, y, z] t)).heap[w.heap.size + 1]? = some (.cells #[x, y, z] t) := by
  have h1 := heap_alloc_new w (.cells #[a, b, c] s)
  have h2 := heap_alloc_new (w.alloc (.cells #[a, b, c] s)) (.cells #[x, y, z] t)
  rw [World.size_alloc] at h2
  exact ⟨(heap_alloc_old _ _ (by simp)).trans h1, h2⟩
theorem take_nd (l : List Nd) (k : Nat) (h : k < l.length) : l.take (k + 1) = l.take k ++ [l.getD k nd0] := by
  rw [List.take_succ_eq_append_getElem h, List.getD_eq_getElem?_getD, List.getElem?_eq_getElem h]; rfl
set_option maxRecDepth 100000 in
set_option maxHeartbeats 8000000 in
theorem sameP_any (i1 n1 i2 n2 : Int) (A B : Option Addr) (k c p d : Nat) (l m : List Nd) (w : World) (hl : rowNd.Rds w A k c l) (hm : rowNd.Rds w B p d m) (hk : k ≤ 100000) (hp : p ≤ 100000) :
    Calls Tryz.prog 21 #[.agg #[.int .i64 i1, .int .i64 n1, .slice A k c], .agg #[.int .i64 i2, .int .i64 n2, .slice B p d]] w (BoolPost (decide (i1 = i2 ∧ n1 = n2 ∧ l = m)) w) := by
  have ll := Lib.hid hl.len
  have lm := Lib.hid hm.len
  have L1 := Lib.hid hl
  have L2 := Lib.hid hm
  obtain ⟨y0, y1⟩ := alloc_two33 w (.int .i64 i1) (.int .i64 n1) (.slice A k c) (.int .i64 i2) (.int .i64 n2) (.slice B p d) 56 56
  have hB0 : Below w.heap.size w ((w.alloc (.cells #[.int .i64 i1, .int .i64 n1, .slice A k c] 56)).alloc (.cells #[.int .i64 i2, .int .i64 n2, .slice B p d] 56)) := ((Below.refl _ w).alloc (Nat.le_refl _) _).alloc (by simp) _
  have hsz : ((w.alloc (.cells #[.int .i64 i1, .int .i64 n1, .slice A k c] 56)).alloc (.cells #[.int .i64 i2, .int .i64 n2, .slice B p d] 56)).heap.size = w.heap.size + 2 := by simp
  obtain ⟨⟨x0, x1, x2⟩, _⟩ := cells3 y0
  obtain ⟨⟨z0, z1, z2⟩, _⟩ := cells3 y1
  have HP := Lib.hid (show ∀ b W, decide (i1 = i2 ∧ n1 = n2 ∧ l = m) = b → Below w.heap.size w W → BoolPost (decide (i1 = i2 ∧ n1 = n2 ∧ l = m)) w (.returned (.bool b)) W from fun b W e h => ⟨by rw [e], h⟩)
  have B0 := Lib.hid hB0
  have SZ := Lib.hid hsz
  have Y0 := Lib.hid y0
  have Y1 := Lib.hid y1
  generalize BoolPost (decide (i1 = i2 ∧ n1 = n2 ∧ l = m)) w = Post at *
  clear hl hm hB0 hsz y0 y1
  by_cases hi : i1 = i2
  case neg =>
    have hv := Lib.hid (fun W h => HP.out false W (decide_eq_false fun e => hi e.1) h)
    have h1 : (i1 == i2) = false := beq_eq_false_iff_ne.2 hi
    have h2 : (i1 != i2) = true := by rw [bne_iff_ne]; exact hi
    clear HP
    go_enter Tryz.func21, Tryz.ntmps21
    go_wp2_with fail
    exact hv.out _ B0.out
  subst hi
  by_cases hn : n1 = n2
  case neg =>
    have hv := Lib.hid (fun W h => HP.out false W (decide_eq_false fun e => hn e.2.1) h)
    have h1 : (n1 == n2) = false := beq_eq_false_iff_ne.2 hn
    have h2 : (n1 != n2) = true := by rw [bne_iff_ne]; exact hn
    clear HP
    go_enter Tryz.func21, Tryz.ntmps21
    go_wp2_with fail
    exact hv.out _ B0.out
  subst hn
  by_cases hkp : k = p
  case neg =>
    have hv := Lib.hid (fun W h => HP.out false W (decide_eq_false fun e => hkp (by rw [← ll.out, ← lm.out, e.2.2])) h)
    have h1 : ((k : Int) == (p : Int)) = false := beq_eq_false_iff_ne.2 (by omega)
    have h2 : ((k : Int) != (p : Int)) = true := by rw [bne_iff_ne]; omega
    have h3 : (k == p) = false := beq_eq_false_iff_ne.2 hkp
    clear HP
    go_enter Tryz.func21, Tryz.ntmps21
    go_wp2_with fail
    exact hv.out _ B0.out
  subst hkp
  go_enter Tryz.func21, Tryz.ntmps21
  go_wp2_with fail
  generalize (w.alloc (.cells #[.int .i64 i1, .int .i64 n1, .slice A k c] 56)).alloc (.cells #[.int .i64 i1, .int .i64 n1, .slice B k d] 56) = w1 at *
  have R0 := Lib.hid (show l.take 0 = m.take 0 ∧ Below w1.heap.size w1 w1 from ⟨by simp, Below.refl _ _⟩)
  have HS := Lib.hid (show w.heap.size < w1.heap.size ∧ w.heap.size + 1 < w1.heap.size by have := SZ.out; omega)
  clear x0 x1 x2 z0 z1 z2
  go_loopw [5] (fun i wr => ∃ q : Nat, q ≤ k ∧ i = .int .i64 (q : Int) ∧ Hid (l.take q = m.take q ∧ Below w1.heap.size w1 wr)) (fun i _ => k - (intOf i).toNat)
  case atStart => exact ⟨0, by omega, rfl, R0⟩
  case round =>
    obtain ⟨q, hq, rfl, hR⟩ := hrel
    have HE := Lib.hid hR.out.1
    have HB := Lib.hid hR.out.2
    have HBw := Lib.hid (below_next B0.out HB.out ⟨rfl, rfl, rfl, rfl⟩)
    obtain ⟨⟨x0, x1, x2⟩, _⟩ := cells3 ((HB.out.block _ HS.out.1).trans Y0.out)
    obtain ⟨⟨z0, z1, z2⟩, _⟩ := cells3 ((HB.out.block _ HS.out.2).trans Y1.out)
    clear hR R0
    by_cases hlt : q < k
    · obtain ⟨b1, o1, rfl, hb1, _⟩ := L1.out.at_ (by omega)
      obtain ⟨b2, o2, rfl, hb2, _⟩ := L2.out.at_ (by omega)
      have r0 := (L1.out.below HBw.out).cell rowNd_ok nd0 q 0 _ hlt rfl
      have r1 := (L1.out.below HBw.out).cell rowNd_ok nd0 q 1 _ hlt rfl
      have s0 := (L2.out.below HBw.out).cell rowNd_ok nd0 q 0 _ hlt rfl
      have s1 := (L2.out.below HBw.out).cell rowNd_ok nd0 q 1 _ hlt rfl
      have hki : (q : Int) < (k : Int) := by omega
      have hk0 : (0 : Int) ≤ (q : Int) := by omega
      have t1 := Lib.hid (take_nd l q (by rw [ll.out]; exact hlt))
      have t2 := Lib.hid (take_nd m q (by rw [lm.out]; exact hlt))
      have HD := Lib.hid (show l.getD q nd0 ≠ m.getD q nd0 → l ≠ m from fun h e => h (by rw [e]))
      generalize l.getD q nd0 = x at *
      generalize m.getD q nd0 = y at *
      obtain ⟨a, cu⟩ := x
      obtain ⟨a', cu'⟩ := y
      simp only [Nat.add_zero] at r0 s0 r1 s1
      by_cases hxy : (a, cu) = (a', cu')
      · have HE2 := Lib.hid (show l.take (q + 1) = m.take (q + 1) by rw [t1.out, t2.out, HE.out, hxy])
        simp only [Prod.mk.injEq] at hxy
        obtain ⟨rfl, rfl⟩ := hxy
        clear t1 t2 HD
        go_wp2_with fail
        go_quiet (fail)
        have HB2 := Lib.hid (below_dr HB.out nq)
        go_wp2_with fail
        go_roundw
        case rel => exact ⟨q + 1, by omega, by go_num, Lib.hid ⟨HE2.out, HB2.out⟩⟩
        case measure => simp [intOf]; omega
      · have hv := Lib.hid (fun W h => HP.out false W (decide_eq_false fun e => HD.out hxy e.2.2) h)
        clear t1 t2 HD
        by_cases h0 : a = a'
        case neg =>
          have e0 : (a == a') = false := beq_eq_false_iff_ne.2 h0
          clear hxy
          go_wp2_with fail
          go_quiet (fail)
          have HB2 := Lib.hid (below_dr HBw.out nq)
          go_wp2_with fail
          exact hv.out _ HB2.out
        subst h0
        have e1 : (cu == cu') = false := beq_eq_false_iff_ne.2 (fun e => hxy (by rw [e]))
        clear hxy
        go_wp2_with fail
        go_quiet (fail)
        have HB2 := Lib.hid (below_dr HBw.out nq)
        go_wp2_with fail
        exact hv.out _ HB2.out
    · have hkn : q = k := by omega
      subst hkn
      have hki : ¬ (q : Int) < (q : Int) := by omega
      have e := HE.out
      rw [List.take_of_length_le (by rw [ll.out]; exact Nat.le_refl _), List.take_of_length_le (by rw [lm.out]; exact Nat.le_refl _)] at e
      have hv := Lib.hid (fun W h => HP.out true W (decide_eq_true (by first | exact ⟨rfl, rfl, e⟩ | exact ⟨trivial, trivial, e⟩)) h)
      clear e HE HP
      go_wp2_with fail
      exact hv.out _ HBw.out
end Go.Proofs.YtjcbohbpkodkoaaGreatDoor

/- Audit: contract of awake. -/
namespace Go.Proofs.YtjcbohbpkodkoaaGreatDoor
open Go.RowKit Go.Maps Num

def awa : Ln := ([49, 46, 99, 97, 115, 104], [85, 83, 68], [45, 53])
def awb : Ln := ([51, 46, 99, 97, 112, 105, 116, 97, 108], [85, 83, 68], [55])
def awl : List Ln := [awa, awb]
theorem awl_list : listB awl = true := by decide +kernel
theorem awl_sm : ∀ x ∈ awl, SmB x := fun x hx => by
  simp only [awl, List.mem_cons, List.not_mem_nil, or_false] at hx
  rcases hx with rfl | rfl <;> exact ⟨by decide, by decide, by decide⟩
theorem awl_root : rootN sha awl = ([49, 50], (rootN sha awl).2) := by
  have h := root_sum sha awl
  rw [show txt (absS awl) = [49, 50] by decide +kernel] at h
  exact Prod.ext h rfl
theorem awl_nodes : nodesN sha awl 0 = [leafN sha awb] := by
  unfold nodesN
  rw [show besideN 0 awl.length = [(1, 2, true)] by decide +kernel]
  rfl
theorem awa_leaf : leafN sha awa = ([53], (leafN sha awa).2) := Prod.ext (show absT [45, 53] = [53] by decide +kernel) rfl
theorem awb_leaf : leafN sha awb = ([55], (leafN sha awb).2) := Prod.ext (show absT [55] = [55] by decide +kernel) rfl
theorem awa_ok : listB [awa] = true := by decide +kernel
theorem awb_ok : listB [awb] = true := by decide +kernel
theorem awl_verify (r2 : List UInt8) (hr : (rootN sha awl).2 = r2) (b2 : List UInt8) (hb : (leafN sha awb).2 = b2) : verI sha ([49, 50], r2) awa 0 2 [([55], b2)] = 0 := by
  have h := ver_ok (D := sha) sha_len (l := awl) awl_list (by decide) (k := 0) (by decide)
  rw [awl_nodes, awl_root, awb_leaf, hr, hb] at h
  exact h
theorem cells6 {W : World} {b : Nat} {x y z p q r : Value} {t : TypeId} (h : W.heap[b]? = some (.cells #[x, y, z, p, q, r] t)) : W.cell? ⟨b, 0, none⟩ = some x ∧ W.cell? ⟨b, 1, none⟩ = some y ∧ W.cell? ⟨b, 2, none⟩ = some z ∧ W.cell? ⟨b, 3, none⟩ = some p ∧ W.cell? ⟨b, 4, none⟩ = some q ∧ W.cell? ⟨b, 5, none⟩ = some r :=
  ⟨cell_of_row _ _ _ _ _ _ h, cell_of_row _ _ _ _ _ _ h, cell_of_row _ _ _ _ _ _ h, cell_of_row _ _ _ _ _ _ h, cell_of_row _ _ _ _ _ _ h, cell_of_row _ _ _ _ _ _ h⟩
theorem rds_blk {α : Type} {R : Row α} {W : World} {b : Nat} {cs : Array Value} {E : TypeId} (l : List α) (h : W.heap[b]? = some (.cells cs E)) (hcs : cs = (R.vs l).toArray) (hm : l.length ≤ maxLen) : R.Rds W (some ⟨b, 0, none⟩) l.length l.length l :=
  ⟨rfl, Nat.le_refl _, hm, fun _ => by
    refine ⟨b, 0, rfl, (Array.getElem?_eq_some_iff.1 h).1, fun j u hu => ?_⟩
    rw [Nat.zero_add, cell_of_row _ _ _ _ _ _ h, hcs, ← hu]
    simp⟩
/-- a block of cells is still there -/
theorem bkeep {W W' : World} {b : Nat} {o : Obj} (h : W.heap[b]? = some o) (hb : Below W.heap.size W W') : W'.heap[b]? = some o := (hb.block _ (Array.getElem?_eq_some_iff.1 h).1).trans h
theorem balloc {W : World} {b : Nat} {o : Obj} (h : W.heap[b]? = some o) (o' : Obj) : (W.alloc o').heap[b]? = some o := (heap_alloc_old _ _ (Array.getElem?_eq_some_iff.1 h).1).trans h
set_option maxRecDepth 100000 in
set_option maxHeartbeats 8000000 in
theorem awake_any (w : World) (ht : Tab w) (hM : ML w) : Calls Tryz.prog 8 #[] w (BoolPost true w) := by
  have HP := Lib.hid (fun W (h : Below w.heap.size w W) => (show BoolPost true w (.returned (.bool true)) W from ⟨rfl, h⟩))
  have HT := Lib.hid (fun W (h : Below w.heap.size w W) => And.intro (ht.below h) (hM.below h))
  generalize BoolPost true w = Post at *
  obtain ⟨r2, hr2⟩ : ∃ r2, (rootN sha awl).2 = r2 := ⟨_, rfl⟩
  obtain ⟨a2, ha2⟩ : ∃ a2, (leafN sha awa).2 = a2 := ⟨_, rfl⟩
  obtain ⟨b2, hb2⟩ : ∃ b2, (leafN sha awb).2 = b2 := ⟨_, rfl⟩
  have hrl : r2.length = 32 := by rw [← hr2]; exact (validN_iff.1 (root_valid sha_len awl)).2.2
  have hr32 : ((r2.length : Int) == 32) = true := by rw [hrl]; rfl
  have HR := Lib.hid (show ∀ A c W, rowB.Rds W A 2 c awl → Below w.heap.size w W → Calls Tryz.prog 18 #[.slice A 2 c] W (NdC ([49, 50], r2) 0 W) from fun A c W h hb => by
    have := Root_any A 2 c awl W h awl_sm (by omega) (HT.out W hb).1 (HT.out W hb).2
    rw [show rootT awl = ([49, 50], r2) by unfold rootT; rw [if_pos awl_list, awl_root, hr2], show lisI awl = 0 by unfold lisI; rw [if_pos awl_list]] at this
    exact this)
  have HPv := Lib.hid (show ∀ A c W, rowB.Rds W A 2 c awl → Below w.heap.size w W → Calls Tryz.prog 19 #[.slice A 2 c, .int .i64 0] W (PrC (0, 2, [([55], b2)], 0) W) from fun A c W h hb => by
    have := Prove_any A 2 c awl 0 W h awl_sm (by omega) (by omega) (by omega) (HT.out W hb).1 (HT.out W hb).2
    rw [show prvT awl 0 = (0, 2, [([55], b2)], 0) by
      unfold prvT
      rw [if_neg (by rw [awl_list]; decide), if_neg (by decide), show (0 : Int).toNat = 0 from rfl, awl_nodes, awb_leaf, hb2]
      rfl] at this
    exact this)
  have HLa := Lib.hid (show ∀ W, Below w.heap.size w W → Calls Tryz.prog 20 #[.agg #[.string ⟨#[49, 46, 99, 97, 115, 104]⟩, .string ⟨#[85, 83, 68]⟩, .string ⟨#[45, 53]⟩]] W (NdC ([53], a2) 0 W) from fun W hb => by
    have := Leaf_any [49, 46, 99, 97, 115, 104] [85, 83, 68] [45, 53] W (awl_sm awa (by simp [awl])) (HT.out W hb).1 (HT.out W hb).2
    rw [show (([49, 46, 99, 97, 115, 104], [85, 83, 68], [45, 53]) : Ln) = awa from rfl, show leafC awa = ([53], a2) by unfold leafC; rw [if_pos awa_ok, awa_leaf, ha2], show lisI [awa] = 0 by unfold lisI; rw [if_pos awa_ok]] at this
    exact this)
  have HLb := Lib.hid (show ∀ W, Below w.heap.size w W → Calls Tryz.prog 20 #[.agg #[.string ⟨#[51, 46, 99, 97, 112, 105, 116, 97, 108]⟩, .string ⟨#[85, 83, 68]⟩, .string ⟨#[55]⟩]] W (NdC ([55], b2) 0 W) from fun W hb => by
    have := Leaf_any [51, 46, 99, 97, 112, 105, 116, 97, 108] [85, 83, 68] [55] W (awl_sm awb (by simp [awl])) (HT.out W hb).1 (HT.out W hb).2
    rw [show (([51, 46, 99, 97, 112, 105, 116, 97, 108], [85, 83, 68], [55]) : Ln) = awb from rfl, show leafC awb = ([55], b2) by unfold leafC; rw [if_pos awb_ok, awb_leaf, hb2], show lisI [awb] = 0 by unfold lisI; rw [if_pos awb_ok]] at this
    exact this)
  have HVf := Lib.hid (show ∀ A c W, rowNd.Rds W A 1 c [([55], b2)] → Below w.heap.size w W → Calls Tryz.prog 22 #[.agg #[.string ⟨#[49, 50]⟩, .string ⟨r2.toArray⟩], .agg #[.string ⟨#[49, 46, 99, 97, 115, 104]⟩, .string ⟨#[85, 83, 68]⟩, .string ⟨#[45, 53]⟩], .agg #[.int .i64 0, .int .i64 2, .slice A 1 c]] W (IntPost 0 W) from fun A c W h hb => by
    have := Verify_any [49, 50] r2 [49, 46, 99, 97, 115, 104] [85, 83, 68] [45, 53] 0 2 A 1 c [([55], b2)] W (by decide) (awl_sm awa (by simp [awl])) h (fun x hx => by rw [List.mem_singleton.1 hx]; show ([55] : List UInt8).length ≤ 70; decide) (by omega) (by omega) (by omega) (by omega) (by omega) (HT.out W hb).1 (HT.out W hb).2
    rw [show (([49, 46, 99, 97, 115, 104], [85, 83, 68], [45, 53]) : Ln) = awa from rfl, awl_verify r2 hr2 b2 hb2] at this
    exact this)
  have HSP := Lib.hid (show ∀ A c B d W, rowNd.Rds W A 1 c [([55], b2)] → rowNd.Rds W B 1 d [([55], b2)] → Calls Tryz.prog 21 #[.agg #[.int .i64 0, .int .i64 2, .slice A 1 c], .agg #[.int .i64 0, .int .i64 2, .slice B 1 d]] W (BoolPost true W) from fun A c B d W h1 h2 => by
    have := sameP_any 0 2 0 2 A B 1 c 1 d _ _ W h1 h2 (by omega) (by omega)
    rw [decide_eq_true (by simp)] at this
    exact this)
  unfold NdC ndV at HR HLa HLb
  unfold IntPost at HVf
  unfold BoolPost at HSP
  have Y := heap_alloc_new w (.cells #[.string ⟨#[49, 46, 99, 97, 115, 104]⟩, .string ⟨#[85, 83, 68]⟩, .string ⟨#[45, 53]⟩, .string ⟨#[51, 46, 99, 97, 112, 105, 116, 97, 108]⟩, .string ⟨#[85, 83, 68]⟩, .string ⟨#[55]⟩] 48)
  have B0 := Lib.hid ((Below.refl _ w).alloc (Nat.le_refl _) (.cells #[.string ⟨#[49, 46, 99, 97, 115, 104]⟩, .string ⟨#[85, 83, 68]⟩, .string ⟨#[45, 53]⟩, .string ⟨#[51, 46, 99, 97, 112, 105, 116, 97, 108]⟩, .string ⟨#[85, 83, 68]⟩, .string ⟨#[55]⟩] 48))
  have Y0 := Lib.hid Y
  clear hr2 ha2 hb2 hrl ht hM Y
  simp only at HR HLa HLb
  go_enter Tryz.func8, Tryz.ntmps8
  go_upto_region 2 with fail
  generalize w.alloc (.cells #[.string ⟨#[49, 46, 99, 97, 115, 104]⟩, .string ⟨#[85, 83, 68]⟩, .string ⟨#[45, 53]⟩, .string ⟨#[51, 46, 99, 97, 112, 105, 116, 97, 108]⟩, .string ⟨#[85, 83, 68]⟩, .string ⟨#[55]⟩] 48) = w0 at *
  generalize hlb : w.heap.size = lb at Y0 ⊢
  have RD := Lib.hid (fun W (h : Below w0.heap.size w0 W) => (show rowB.Rds W (some ⟨lb, 0, none⟩) 2 2 awl from rds_blk awl (bkeep Y0.out h) rfl (by decide)))
  go_wp2_with fail
  refine (HR.out _ _ _ (RD.out _ (Below.refl _ _)) B0.out).mono ?_
  rintro e w1 ⟨rfl, hb⟩
  have B1 := Lib.hid ((below_next B0.out hb ⟨rfl, rfl, rfl, rfl⟩).alloc (below_next B0.out hb ⟨rfl, rfl, rfl, rfl⟩).size (.cells #[.string ⟨#[49, 50]⟩, .string ⟨r2.toArray⟩] 51))
  have C1 := Lib.hid (hb.alloc hb.size (.cells #[.string ⟨#[49, 50]⟩, .string ⟨r2.toArray⟩] 51))
  have X1 := Lib.hid (heap_alloc_new w1 (.cells #[.string ⟨#[49, 50]⟩, .string ⟨r2.toArray⟩] 51))
  clear hb
  go_upto_region 3 with fail
  generalize w1.alloc (.cells #[.string ⟨#[49, 50]⟩, .string ⟨r2.toArray⟩] 51) = w2 at *
  generalize w1.heap.size = rb at *
  go_wp2_with fail
  refine (HPv.out _ _ _ (RD.out _ C1.out) B1.out).mono ?_
  rintro e w3 ⟨v, rfl, hov, hb⟩
  obtain ⟨Av, cv, ev, hrd⟩ := hov.rds
  rw [List.length_singleton] at ev hrd
  subst ev
  have B3 := Lib.hid ((below_next B1.out hb ⟨rfl, rfl, rfl, rfl⟩).alloc (below_next B1.out hb ⟨rfl, rfl, rfl, rfl⟩).size (.cells #[.int .i64 0, .int .i64 2, .slice Av 1 cv] 56))
  have C3 := Lib.hid ((below_next C1.out hb ⟨rfl, rfl, rfl, rfl⟩).alloc (below_next C1.out hb ⟨rfl, rfl, rfl, rfl⟩).size (.cells #[.int .i64 0, .int .i64 2, .slice Av 1 cv] 56))
  have X3 := Lib.hid (balloc (bkeep X1.out hb) (.cells #[.int .i64 0, .int .i64 2, .slice Av 1 cv] 56))
  have V3 := Lib.hid (hrd.below ((Below.refl _ w3).alloc (Nat.le_refl _) (.cells #[.int .i64 0, .int .i64 2, .slice Av 1 cv] 56)))
  have P3 := Lib.hid (heap_alloc_new w3 (.cells #[.int .i64 0, .int .i64 2, .slice Av 1 cv] 56))
  clear hb hov hrd X1
  go_upto_region 4 with fail
  generalize w3.alloc (.cells #[.int .i64 0, .int .i64 2, .slice Av 1 cv] 56) = w4 at *
  generalize w3.heap.size = pb at *
  obtain ⟨l0, l1, l2, l3, l4, l5⟩ := cells6 (bkeep Y0.out C3.out)
  go_wp2_with fail
  refine (HLa.out _ B3.out).mono ?_
  rintro e w5 ⟨rfl, hb⟩
  have B5 := Lib.hid ((below_next B3.out hb ⟨rfl, rfl, rfl, rfl⟩).alloc (below_next B3.out hb ⟨rfl, rfl, rfl, rfl⟩).size (.cells #[.string ⟨#[53]⟩, .string ⟨a2.toArray⟩] 51))
  have C5 := Lib.hid ((below_next C3.out hb ⟨rfl, rfl, rfl, rfl⟩).alloc (below_next C3.out hb ⟨rfl, rfl, rfl, rfl⟩).size (.cells #[.string ⟨#[53]⟩, .string ⟨a2.toArray⟩] 51))
  have X5 := Lib.hid (balloc (bkeep X3.out hb) (.cells #[.string ⟨#[53]⟩, .string ⟨a2.toArray⟩] 51))
  have P5 := Lib.hid (balloc (bkeep P3.out hb) (.cells #[.string ⟨#[53]⟩, .string ⟨a2.toArray⟩] 51))
  have V5 := Lib.hid ((V3.out.below hb).below ((Below.refl _ w5).alloc (Nat.le_refl _) (.cells #[.string ⟨#[53]⟩, .string ⟨a2.toArray⟩] 51)))
  have A5 := Lib.hid (heap_alloc_new w5 (.cells #[.string ⟨#[53]⟩, .string ⟨a2.toArray⟩] 51))
  clear hb X3 P3 V3 l0 l1 l2 l3 l4 l5
  go_upto_region 5 with fail
  generalize w5.alloc (.cells #[.string ⟨#[53]⟩, .string ⟨a2.toArray⟩] 51) = w6 at *
  generalize w5.heap.size = ab at *
  obtain ⟨l0, l1, l2, l3, l4, l5⟩ := cells6 (bkeep Y0.out C5.out)
  go_wp2_with fail
  refine (HLb.out _ B5.out).mono ?_
  rintro e w7 ⟨rfl, hb⟩
  have B7 := Lib.hid ((below_next B5.out hb ⟨rfl, rfl, rfl, rfl⟩).alloc (below_next B5.out hb ⟨rfl, rfl, rfl, rfl⟩).size (.cells #[.string ⟨#[55]⟩, .string ⟨b2.toArray⟩] 51))
  have C7 := Lib.hid ((below_next C5.out hb ⟨rfl, rfl, rfl, rfl⟩).alloc (below_next C5.out hb ⟨rfl, rfl, rfl, rfl⟩).size (.cells #[.string ⟨#[55]⟩, .string ⟨b2.toArray⟩] 51))
  have X7 := Lib.hid (balloc (bkeep X5.out hb) (.cells #[.string ⟨#[55]⟩, .string ⟨b2.toArray⟩] 51))
  have P7 := Lib.hid (balloc (bkeep P5.out hb) (.cells #[.string ⟨#[55]⟩, .string ⟨b2.toArray⟩] 51))
  have A7 := Lib.hid (balloc (bkeep A5.out hb) (.cells #[.string ⟨#[55]⟩, .string ⟨b2.toArray⟩] 51))
  have V7 := Lib.hid ((V5.out.below hb).below ((Below.refl _ w7).alloc (Nat.le_refl _) (.cells #[.string ⟨#[55]⟩, .string ⟨b2.toArray⟩] 51)))
  have D7 := Lib.hid (heap_alloc_new w7 (.cells #[.string ⟨#[55]⟩, .string ⟨b2.toArray⟩] 51))
  clear hb X5 P5 V5 A5 l0 l1 l2 l3 l4 l5
  go_upto_region 6 with fail
  generalize w7.alloc (.cells #[.string ⟨#[55]⟩, .string ⟨b2.toArray⟩] 51) = w8 at *
  generalize w7.heap.size = bb at *
  obtain ⟨⟨x0, x1⟩, _⟩ := cells2n X7.out
  obtain ⟨⟨a0, a1⟩, _⟩ := cells2n A7.out
  obtain ⟨⟨d0, d1⟩, _⟩ := cells2n D7.out
  go_upto_region 7 with fail
  obtain ⟨⟨p0, p1, p2⟩, _⟩ := cells3 P7.out
  obtain ⟨l0, l1, l2, _, _, _⟩ := cells6 (bkeep Y0.out C7.out)
  have ARM := Lib.hid (fun W (h : Below w8.heap.size w8 W) => (show Below w.heap.size w W ∧ rowNd.Rds W Av 1 cv [([55], b2)] ∧ W.heap[rb]? = some (.cells #[.string ⟨#[49, 50]⟩, .string ⟨r2.toArray⟩] 51) ∧ W.heap[bb]? = some (.cells #[.string ⟨#[55]⟩, .string ⟨b2.toArray⟩] 51) ∧ W.heap[pb]? = some (.cells #[.int .i64 0, .int .i64 2, .slice Av 1 cv] 56) ∧ W.heap[lb]? = some (.cells #[.string ⟨#[49, 46, 99, 97, 115, 104]⟩, .string ⟨#[85, 83, 68]⟩, .string ⟨#[45, 53]⟩, .string ⟨#[51, 46, 99, 97, 112, 105, 116, 97, 108]⟩, .string ⟨#[85, 83, 68]⟩, .string ⟨#[55]⟩] 48) from
    ⟨below_next B7.out h ⟨rfl, rfl, rfl, rfl⟩, V7.out.below h, bkeep X7.out h, bkeep D7.out h, bkeep P7.out h, bkeep Y0.out (below_next C7.out h ⟨rfl, rfl, rfl, rfl⟩)⟩))
  have HS2 := Lib.hid (fun W (h : Below w8.heap.size w8 W) => (show Calls Tryz.prog 21 #[.agg #[.int .i64 0, .int .i64 2, .slice Av 1 cv], .agg #[.int .i64 0, .int .i64 2, .slice (some ⟨W.heap.size, 0, none⟩) 1 1]] (W.alloc (.cells #[.string ⟨#[55]⟩, .string ⟨b2.toArray⟩] 51)) (fun e w' => e = .returned (.bool true) ∧ Below (W.alloc (.cells #[.string ⟨#[55]⟩, .string ⟨b2.toArray⟩] 51)).heap.size (W.alloc (.cells #[.string ⟨#[55]⟩, .string ⟨b2.toArray⟩] 51)) w') from
    HSP.out _ _ _ _ _ ((ARM.out W h).2.1.below ((Below.refl _ W).alloc (Nat.le_refl _) _)) (Row.rds_one rowNd_ok W ([55], b2) 51)))
  have HD := Lib.hid (Below.refl w8.heap.size w8)
  clear X7 P7 A7 V7 D7 B7 C7 a0 a1
  have HSd := Lib.hid (show Calls Tryz.prog 21 #[.agg #[.int .i64 0, .int .i64 2, .slice Av 1 cv], .agg #[.int .i64 0, .int .i64 2, .slice (some ⟨w8.heap.size, 0, none⟩) 1 1]] (w8.drew.alloc (.cells #[.string ⟨#[55]⟩, .string ⟨b2.toArray⟩] 51)) (fun e w' => e = .returned (.bool true) ∧ Below (w8.drew.alloc (.cells #[.string ⟨#[55]⟩, .string ⟨b2.toArray⟩] 51)).heap.size (w8.drew.alloc (.cells #[.string ⟨#[55]⟩, .string ⟨b2.toArray⟩] 51)) w') from HS2.out w8.drew (Below.drew HD.out))
  have BD := Lib.hid (show Below w8.heap.size w8 (w8.drew.alloc (.cells #[.string ⟨#[55]⟩, .string ⟨b2.toArray⟩] 51)) from (Below.drew HD.out).alloc (Nat.le_refl _) _)
  clear HS2
  go_region_held3 (fun w' => w'.cell? ⟨pb, 0, none⟩ = some (.int .i64 0) ∧ w'.cell? ⟨pb, 1, none⟩ = some (.int .i64 2) ∧ w'.cell? ⟨pb, 2, none⟩ = some (.slice Av 1 cv) ∧ w'.cell? ⟨bb, 0, none⟩ = some (.string ⟨#[55]⟩) ∧ w'.cell? ⟨bb, 1, none⟩ = some (.string ⟨b2.toArray⟩) ∧ w'.cell? ⟨rb, 0, none⟩ = some (.string ⟨#[49, 50]⟩) ∧ w'.cell? ⟨rb, 1, none⟩ = some (.string ⟨r2.toArray⟩) ∧
      w'.cell? ⟨lb, 0, none⟩ = some (.string ⟨#[49, 46, 99, 97, 115, 104]⟩) ∧ w'.cell? ⟨lb, 1, none⟩ = some (.string ⟨#[85, 83, 68]⟩) ∧ w'.cell? ⟨lb, 2, none⟩ = some (.string ⟨#[45, 53]⟩))
    (first | exact ⟨g0, g1, g2, g3, g4, g5, g6, g7, g8, g9⟩ | exact ⟨p0, p1, p2, d0, d1, x0, x1, l0, l1, l2⟩ | exact ⟨keepC p0, keepC p1, keepC p2, keepC d0, keepC d1, keepC x0, keepC x1, keepC l0, keepC l1, keepC l2⟩ | go_keep)
    (first
      | (go_at_call 21; refine HSd.out.mono ?_
         rintro e w' ⟨rfl, hb⟩; have HD := Lib.hid (below_next BD.out hb ⟨rfl, rfl, rfl, rfl⟩); have HQ := ARM.out _ HD.out; obtain ⟨⟨g5, g6⟩, _⟩ := cells2n HQ.2.2.1; obtain ⟨⟨g3, g4⟩, _⟩ := cells2n HQ.2.2.2.1; obtain ⟨⟨g0, g1, g2⟩, _⟩ := cells3 HQ.2.2.2.2.1; obtain ⟨g7, g8, g9, _⟩ := cells6 HQ.2.2.2.2.2; clear hb HQ)
      | (go_at_call 22; with_reducible refine (HVf.out _ _ _ (ARM.out _ HD.out).2.1 (ARM.out _ HD.out).1).mono ?_
         rintro e w' ⟨rfl, hb⟩; have HD := Lib.hid (below_next HD.out hb ⟨rfl, rfl, rfl, rfl⟩); have HQ := ARM.out _ HD.out; obtain ⟨⟨g5, g6⟩, _⟩ := cells2n HQ.2.2.1; obtain ⟨⟨g3, g4⟩, _⟩ := cells2n HQ.2.2.2.1; obtain ⟨⟨g0, g1, g2⟩, _⟩ := cells3 HQ.2.2.2.2.1; obtain ⟨g7, g8, g9, _⟩ := cells6 HQ.2.2.2.2.2; clear hb HQ))
  all_goals
    go_wp2_with fail
    exact HP.out _ (ARM.out _ HD.out).1
end Go.Proofs.YtjcbohbpkodkoaaGreatDoor

/- What entries of any size read as. -/
namespace Go.Proofs.YtjcbohbpkodkoaaGreatDoor
open Go.RowKit Go.Maps Num

/-- what an entry of any size reads as -/
def RdG (w : World) (p : RE) : Prop := p.1.1 = p.2.1 ∧ p.1.2.1 = p.2.2.1 ∧ rowL.Rds w (rawA p.1) (rawN p.1) (rawC p.1) p.2.2.2
theorem RdG.below {w w' : World} {p : RE} (h : RdG w p) (hb : Below w.heap.size w w') : RdG w' p := ⟨h.1, h.2.1, h.2.2.below hb⟩
def grB (p : RE) : Bool := g1B p.2.2.1 p.2.2.2
theorem re_mem (l : List RE) (k : Nat) (h : k < l.length) : l.getD k re0 ∈ l := by
  rw [List.getD_eq_getElem?_getD, List.getElem?_eq_getElem h]
  exact List.getElem_mem h
theorem take_re (l : List RE) (k : Nat) (h : k < l.length) : l.take (k + 1) = l.take k ++ [l.getD k re0] := by
  rw [List.take_succ_eq_append_getElem h, List.getD_eq_getElem?_getD, List.getElem?_eq_getElem h]; rfl
/-- a fitting entry reads as an entry of the bounded sizes -/
theorem RdG.fit {w : World} {p : RE} (h : RdG w p) (hf : Fit p.2.2.1 p.2.2.2) : RdE w p :=
  ⟨h.1, h.2.1, Lns.of_rds h.2.2 (by have := h.2.2.len; have := hf.len; omega) fun x hx => by have := hf.ln x hx; exact ⟨by omega, by omega, by omega⟩⟩
end Go.Proofs.YtjcbohbpkodkoaaGreatDoor

/- Posted entries: how they lie, and what they read as. -/
namespace Go.Proofs.YtjcbohbpkodkoaaGreatDoor
open Go.RowKit Go.Maps Num

/-- a posted entry as it reads: its day, what was known, by what, and the entry -/
abbrev Po := (Int × Int × List UInt8) × En
/-- as it lies, and as it reads -/
abbrev PE := (Int × Int × List UInt8) × RE
def poOf (p : PE) : Po := (p.1, p.2.2)
def encPo (p : PE) : List Value := .int .i64 p.1.1 :: .int .i64 p.1.2.1 :: .string ⟨p.1.2.2.toArray⟩ :: encE p.2
abbrev rowPo : Row PE := ⟨22, 42, .agg #[.int .i64 0, .int .i64 0, .string ⟨#[]⟩, .int .i64 0, .string ⟨#[]⟩, .slice none 0 0], 6, 80, encPo⟩
theorem rowPo_ok : rowPo.Ok where
  hS := Tryz.underlying22
  info := by kernel_rfl
  zc := rfl
  k0 := by decide
  b1 := by decide
  hk _ := rfl
  h1 x v hv := by
    simp only [encPo, encE, List.mem_cons, List.not_mem_nil, or_false] at hv
    rcases hv with rfl | rfl | rfl | rfl | rfl | rfl <;> rfl
def pe0 : PE := ((0, 0, []), re0)
instance : Inhabited PE := ⟨pe0⟩
/-- the cells of a posted entry -/
def poC (d k : Int) (b : List UInt8) (d2 : Int) (cz : List UInt8) (A : Option Addr) (n c : Nat) : Array Value := #[.int .i64 d, .int .i64 k, .string ⟨b.toArray⟩, .int .i64 d2, .string ⟨cz.toArray⟩, .slice A n c]
theorem rdsP_cells {w : World} {b o n c : Nat} {ps : List PE} (h : rowPo.Rds w (some ⟨b, o, none⟩) n c ps) (k : Nat) (hk : k < n) :
    w.cell? ⟨b, o + k * 6, none⟩ = some (.int .i64 (ps.getD k pe0).1.1) ∧ w.cell? ⟨b, o + k * 6 + 1, none⟩ = some (.int .i64 (ps.getD k pe0).1.2.1) ∧ w.cell? ⟨b, o + k * 6 + 2, none⟩ = some (.string ⟨(ps.getD k pe0).1.2.2.toArray⟩) ∧
    w.cell? ⟨b, o + k * 6 + 3, none⟩ = some (.int .i64 (ps.getD k pe0).2.1.1) ∧ w.cell? ⟨b, o + k * 6 + 4, none⟩ = some (.string ⟨(ps.getD k pe0).2.1.2.1.toArray⟩) ∧ w.cell? ⟨b, o + k * 6 + 5, none⟩ = some (.slice (rawA (ps.getD k pe0).2.1) (rawN (ps.getD k pe0).2.1) (rawC (ps.getD k pe0).2.1)) :=
  ⟨h.cell rowPo_ok pe0 k 0 _ hk rfl, h.cell rowPo_ok pe0 k 1 _ hk rfl, h.cell rowPo_ok pe0 k 2 _ hk rfl, h.cell rowPo_ok pe0 k 3 _ hk rfl, h.cell rowPo_ok pe0 k 4 _ hk rfl, h.cell rowPo_ok pe0 k 5 _ hk rfl⟩
theorem cellsP {W : World} {b : Nat} {x0 x1 x2 x3 x4 x5 : Value} {t : TypeId} (h : W.heap[b]? = some (.cells #[x0, x1, x2, x3, x4, x5] t)) :
    W.cell? ⟨b, 0, none⟩ = some x0 ∧ W.cell? ⟨b, 1, none⟩ = some x1 ∧ W.cell? ⟨b, 2, none⟩ = some x2 ∧ W.cell? ⟨b, 3, none⟩ = some x3 ∧ W.cell? ⟨b, 4, none⟩ = some x4 ∧ W.cell? ⟨b, 5, none⟩ = some x5 :=
  ⟨cell_of_row _ _ _ _ _ _ h, cell_of_row _ _ _ _ _ _ h, cell_of_row _ _ _ _ _ _ h, cell_of_row _ _ _ _ _ _ h, cell_of_row _ _ _ _ _ _ h, cell_of_row _ _ _ _ _ _ h⟩
theorem pe_mem (l : List PE) (k : Nat) (h : k < l.length) : l.getD k pe0 ∈ l := by
  rw [List.getD_eq_getElem?_getD, List.getElem?_eq_getElem h]
  exact List.getElem_mem h
theorem take_pe (l : List PE) (k : Nat) (h : k < l.length) : l.take (k + 1) = l.take k ++ [l.getD k pe0] := by
  rw [List.take_succ_eq_append_getElem h, List.getD_eq_getElem?_getD, List.getElem?_eq_getElem h]; rfl
/-- larger than the statements examine -/
def grP (p : PE) : Bool := g1B p.2.2.2.1 p.2.2.2.2 || decide (60 < p.1.2.2.length)
def greatP (ps : List PE) : Bool := ps.any grP || decide (16 < ps.length)
theorem greatP_parts {ps : List PE} (h : greatP ps = false) : ps.length ≤ 16 ∧ ∀ p ∈ ps, Fit p.2.2.2.1 p.2.2.2.2 ∧ p.1.2.2.length ≤ 60 := by
  unfold greatP at h
  rw [Bool.or_eq_false_iff] at h
  refine ⟨Nat.not_lt.1 (of_decide_eq_false h.2), fun p hp => ?_⟩
  have := List.any_eq_false.1 h.1 p hp
  have h2 : grP p = false := by simpa using this
  unfold grP at h2
  rw [Bool.or_eq_false_iff] at h2
  exact ⟨g1_fit h2.1, Nat.not_lt.1 (of_decide_eq_false h2.2)⟩
end Go.Proofs.YtjcbohbpkodkoaaGreatDoor

/- Arguments that are entries, or slices of entries, opened. -/
namespace Go.Proofs.YtjcbohbpkodkoaaGreatDoor
open Go.RowKit Go.Maps Go.WideShapes Go.ChangeShapes Go.ChangeAt Go.Deep Num

theorem c9 : Tryz.prog.cellsOf 9 = 1 := by kernel_rfl
theorem c30 : Tryz.prog.cellsOf 38 = 1 := by kernel_rfl
theorem c29 : Tryz.prog.cellsOf 37 = 1 := by kernel_rfl
theorem c40 : Tryz.prog.cellsOf 46 = 1 := by kernel_rfl
theorem c45 : Tryz.prog.cellsOf 68 = 3 := by kernel_rfl
theorem c32 : Tryz.prog.cellsOf 40 = 3 := by kernel_rfl
theorem Row.Rds.mk_cells {α : Type} {R : Row α} (ok : R.Ok) (x0 : α) {W : World} {b o n c : Nat} {l : List α} (hl : l.length = n) (hc : n ≤ c) (ht : c ≤ maxLen) (hb : 0 < n → b < W.heap.size)
    (hx : ∀ k j, k < n → j < R.k → W.cell? ⟨b, o + k * R.k + j, none⟩ = (R.enc (l.getD k x0))[j]?) : R.Rds W (some ⟨b, o, none⟩) n c l :=
  ⟨hl, hc, ht, fun h0 => ⟨b, o, rfl, hb h0, fun j u hu => by
    have hj := (List.getElem?_eq_some_iff.1 hu).1
    rw [Row.vs_len ok, hl] at hj
    have k0 := ok.k0
    have hj2 : j / R.k < n := Nat.div_lt_of_lt_mul (by rwa [Nat.mul_comm] at hj)
    have h3 : j % R.k < R.k := Nat.mod_lt _ k0
    have e1 := Row.vs_at ok x0 l (j / R.k) (j % R.k) (by rw [hl]; exact hj2) h3
    have e2 : j / R.k * R.k + j % R.k = j := by rw [Nat.mul_comm]; exact Nat.div_add_mod j R.k
    rw [e2, hu] at e1
    have e3 := hx (j / R.k) (j % R.k) hj2 h3
    rw [Nat.add_assoc, e2] at e3
    rw [e3, e1]⟩⟩
section
variable {H : Type} {enc : TypeId × Value → H} {W : World} {sp : Nat → Bool} {held : Bool}
/-- a slice whose elements have three cells each -/
theorem trod_rows {α : Type} [Inhabited α] {R : Row α} (ok : R.Ok) (h3 : R.k = 3) (x0 : α) (Pq : α → Prop) {t e : TypeId} (ht : Tryz.prog.underlying t = some (.slice e)) (ce : Tryz.prog.cellsOf e = 3)
    (hel : ∀ (fuel : Nat) (v0 v1 v2 : Value) (y : DataW H × List MemPlace), DataW.trod enc Tryz.prog W 0 sp held fuel e [v0, v1, v2] = some y → ∃ x : α, R.enc x = [v0, v1, v2] ∧ Pq x)
    {fuel : Nat} {v : Value} {x : DataW H × List MemPlace} (h : DataW.trod enc Tryz.prog W 0 sp held fuel t [v] = some x) :
    ∃ A n c l, v = .slice A n c ∧ R.Rds W A n c l ∧ ∀ q ∈ l, Pq q := by
  rcases open_slice ht h with ⟨hcs, _⟩ | ⟨a, len, cap, m, k, D, Pl, hcs, _, hl, hm, hmm, _, hx⟩
  · simp only [List.cons.injEq, and_true] at hcs
    exact ⟨none, 0, 0, [], hcs, ⟨rfl, Nat.le_refl _, by unfold maxLen; omega, fun h => absurd h (Nat.lt_irrefl 0)⟩, fun q hq => (List.not_mem_nil hq).elim⟩
  · simp only [List.cons.injEq, and_true] at hcs
    have hlm : len ≤ m := by rw [hmm]; split <;> omega
    have key : ∀ i, i < len → ∃ x : α, (∀ j, j < 3 → W.cell? (a.add (i * 3 + j)) = (R.enc x)[j]?) ∧ Pq x := fun i hi => by
      obtain ⟨cs', h1, h2⟩ := hx i (by omega)
      rw [ce] at h1
      obtain ⟨_, hlen, hcell⟩ := World.cells?_some h1
      match cs', hlen with
      | [v0, v1, v2], _ =>
        obtain ⟨x, e1, hP⟩ := hel _ _ _ _ _ h2
        refine ⟨x, fun j hj => ?_, hP⟩
        have e0 := hcell j hj
        rw [add_add] at e0
        rw [e0, e1]
    obtain ⟨q, hq⟩ := choose_lt key
    refine ⟨some a, len, cap, (List.range len).map q, hcs, ?_, fun z hz => ?_⟩
    · obtain ⟨b, off, spot⟩ := a
      have hcell0 : 0 < len → ∃ u, W.cell? ((⟨b, off, spot⟩ : Addr).add 0) = some u := fun h0 => by
        have := (hq 0 h0).1 0 (by omega)
        rw [Nat.zero_mul, Nat.zero_add] at this
        have h4 : 0 < (R.enc (q 0)).length := by rw [ok.hk, h3]; omega
        rw [List.getElem?_eq_getElem h4] at this
        exact ⟨_, this⟩
      by_cases h0 : 0 < len
      · obtain ⟨u, hu⟩ := hcell0 h0
        have hspot : spot = none := by simpa [Addr.add] using World.cell?_spot hu
        subst hspot
        refine Row.Rds.mk_cells ok x0 (by simp) hl hm (fun _ => block_lt_of_cell hu) fun i j hi hj => ?_
        rw [h3] at hj ⊢
        have := (hq i hi).1 j hj
        rw [add_plain] at this
        rw [List.getD_eq_getElem?_getD, List.getElem?_map, List.getElem?_range hi, Nat.add_assoc]
        exact this
      · exact ⟨by simp, hl, hm, fun h => absurd h h0⟩
    · obtain ⟨i, hi, rfl⟩ := List.mem_map.1 hz
      exact (hq i (List.mem_range.1 hi)).2
theorem trod_lines {fuel : Nat} {v : Value} {x : DataW H × List MemPlace} (h : DataW.trod enc Tryz.prog W 0 sp held fuel 38 [v] = some x) :
    ∃ A n c l, v = .slice A n c ∧ rowL.Rds W A n c l := by
  obtain ⟨A, n, c, l, h1, h2, _⟩ := trod_rows rowL_ok rfl ln0 (fun _ => True) Tryz.underlying38 c45 (fun fuel v0 v1 v2 y hy => by
    obtain ⟨y0, y1, y2, k', _, _, t0, t1, t2⟩ := trod_struct3 Tryz.underlying68 hy
    obtain ⟨s0, e0, _⟩ := DataW.trod_string Tryz.underlying9 t0
    obtain ⟨s1, e1, _⟩ := DataW.trod_string Tryz.underlying9 t1
    obtain ⟨s2, e2, _⟩ := DataW.trod_string Tryz.underlying46 t2
    simp [c9, c40] at e0 e1 e2
    subst e0 e1 e2
    exact ⟨(s0.data.toList, s1.data.toList, s2.data.toList), rfl, trivial⟩) h
  exact ⟨A, n, c, l, h1, h2⟩
/-- the three cells of an entry -/
theorem trod_en {f0 f1 f2 : Nat} {v0 v1 v2 : Value} {y0 y1 y2 : DataW H × List MemPlace} (t0 : DataW.trod enc Tryz.prog W 0 sp held f0 37 [v0] = some y0) (t1 : DataW.trod enc Tryz.prog W 0 sp held f1 9 [v1] = some y1) (t2 : DataW.trod enc Tryz.prog W 0 sp held f2 38 [v2] = some y2) :
    ∃ d cz A n c l, v0 = .int .i64 d ∧ v1 = .string ⟨(cz : List UInt8).toArray⟩ ∧ v2 = .slice A n c ∧ rowL.Rds W A n c l ∧ cz.length ≤ maxLen := by
  obtain ⟨d, e0, _⟩ := DataW.trod_int Tryz.underlying37 t0
  obtain ⟨s, e1, _, hs⟩ := DataW.trod_string Tryz.underlying9 t1
  obtain ⟨A, n, c, l, e2, hl⟩ := trod_lines t2
  simp only [List.cons.injEq, and_true] at e0 e1
  exact ⟨d, s.data.toList, A, n, c, l, e0, e1, e2, hl, by show s.data.toList.length ≤ _; rw [Array.length_toList]; exact hs⟩
theorem trod_ens {fuel : Nat} {v : Value} {x : DataW H × List MemPlace} (h : DataW.trod enc Tryz.prog W 0 sp held fuel 81 [v] = some x) :
    ∃ A n c ps, v = .slice A n c ∧ rowE.Rds W A n c ps ∧ ∀ p ∈ ps, RdG W p ∧ p.2.2.1.length ≤ maxLen :=
  trod_rows (α := RE) rowE_ok rfl re0 (fun p => RdG W p ∧ p.2.2.1.length ≤ maxLen) Tryz.underlying81 c32 (fun fuel v0 v1 v2 y hy => by
    obtain ⟨y0, y1, y2, k', _, _, t0, t1, t2⟩ := trod_struct3 Tryz.underlying40 hy
    simp [c9, c29, c30] at t0 t1 t2
    obtain ⟨d, cz, A, n, c, l, rfl, rfl, rfl, hl, hz⟩ := trod_en t0 t1 t2
    exact ⟨((d, cz, A, n, c), (d, cz, l)), rfl, ⟨rfl, rfl, hl⟩, hz⟩) h

set_option maxRecDepth 100000 in
theorem arg_entry {r : Reach} {b0 : Nat} {v : Value} {d : DataW H} {p : List MemPlace} (hok : Value.okWide Tryz.prog W r b0 40 v) (h : DataW.Trod enc Tryz.prog W 0 sp held 40 v d p) :
    ∃ d cz A n c l, v = .agg (enV d cz A n c) ∧ rowL.Rds W A n c l := by
  obtain ⟨v0, v1, v2, y0, y1, y2, n, rfl, _, _, t0, t1, t2⟩ := Joins.open_agg3 Tryz.underlying40 (by kernel_rfl) c32 hok h
  obtain ⟨d, cz, A, n, c, l, rfl, rfl, rfl, hl, _⟩ := trod_en t0 t1 t2
  exact ⟨d, cz, A, n, c, l, rfl, hl⟩
set_option maxRecDepth 100000 in
theorem arg_entries {r : Reach} {b0 : Nat} {v : Value} {d : DataW H} {p : List MemPlace} (hok : Value.okWide Tryz.prog W r b0 81 v) (h : DataW.Trod enc Tryz.prog W 0 sp held 81 v d p) :
    ∃ A n c ps, v = .slice A n c ∧ rowE.Rds W A n c ps ∧ ∀ p ∈ ps, RdG W p ∧ p.2.2.1.length ≤ maxLen := by
  obtain ⟨a0, len, cap, rfl⟩ := okWide_slice Tryz.underlying81 hok
  obtain ⟨fuel, hf⟩ := h
  exact trod_ens hf
end
end Go.Proofs.YtjcbohbpkodkoaaGreatDoor

/- Rows of strings. -/
namespace Go.Proofs.YtjcbohbpkodkoaaGreatDoor
open Go.RowKit Go.Maps Num

abbrev rowS : Row (List UInt8) := ⟨23, 9, .string ⟨#[]⟩, 1, 16, fun s => [.string ⟨s.toArray⟩]⟩
theorem rowS_ok : rowS.Ok where
  hS := Tryz.underlying23
  info := by kernel_rfl
  zc := rfl
  k0 := by decide
  b1 := by decide
  hk _ := rfl
  h1 x v hv := by
    simp only [List.mem_cons, List.not_mem_nil, or_false] at hv
    subst hv; rfl
theorem rdsS {w : World} {b o n c : Nat} {l : List (List UInt8)} (h : rowS.Rds w (some ⟨b, o, none⟩) n c l) (k : Nat) (hk : k < n) : w.cell? ⟨b, o + k, none⟩ = some (.string ⟨(l.getD k []).toArray⟩) := by
  have h2 := h.cell rowS_ok [] k 0 _ hk rfl
  rwa [show rowS.k = 1 from rfl, Nat.mul_one, Nat.add_zero] at h2
theorem str_mem (l : List (List UInt8)) (k : Nat) (h : k < l.length) : l.getD k [] ∈ l := by
  rw [List.getD_eq_getElem?_getD, List.getElem?_eq_getElem h]
  exact List.getElem_mem h
theorem take_str (l : List (List UInt8)) (k : Nat) (h : k < l.length) : l.take (k + 1) = l.take k ++ [l.getD k []] := by
  rw [List.take_succ_eq_append_getElem h, List.getD_eq_getElem?_getD, List.getElem?_eq_getElem h]; rfl
end Go.Proofs.YtjcbohbpkodkoaaGreatDoor

/- Arguments that are slices of posted entries, or of strings, opened. -/
namespace Go.Proofs.YtjcbohbpkodkoaaGreatDoor
open Go.RowKit Go.Maps Go.WideShapes Go.ChangeShapes Go.ChangeAt Go.Deep Num

theorem cInt3 : Tryz.prog.cellsOf 3 = 1 := by kernel_rfl
theorem cPo : Tryz.prog.cellsOf 42 = 6 := by kernel_rfl
section
variable {H : Type} {enc : TypeId × Value → H} {W : World} {sp : Nat → Bool} {held : Bool}
/-- a slice whose elements have K cells each -/
theorem trod_rowsQ {α : Type} [Inhabited α] {R : Row α} (ok : R.Ok) (x0 : α) (Pq : α → Prop) {t e : TypeId} (ht : Tryz.prog.underlying t = some (.slice e)) (ce : Tryz.prog.cellsOf e = R.k)
    (hel : ∀ (fuel : Nat) (vs : List Value) (y : DataW H × List MemPlace), vs.length = R.k → DataW.trod enc Tryz.prog W 0 sp held fuel e vs = some y → ∃ x : α, R.enc x = vs ∧ Pq x)
    {fuel : Nat} {v : Value} {x : DataW H × List MemPlace} (h : DataW.trod enc Tryz.prog W 0 sp held fuel t [v] = some x) :
    ∃ A n c l, v = .slice A n c ∧ R.Rds W A n c l ∧ ∀ q ∈ l, Pq q := by
  have k0 := ok.k0
  rcases open_slice ht h with ⟨hcs, _⟩ | ⟨a, len, cap, m, k, D, Pl, hcs, _, hl, hm, hmm, _, hx⟩
  · simp only [List.cons.injEq, and_true] at hcs
    exact ⟨none, 0, 0, [], hcs, ⟨rfl, Nat.le_refl _, by unfold maxLen; omega, fun h => absurd h (Nat.lt_irrefl 0)⟩, fun q hq => (List.not_mem_nil hq).elim⟩
  · simp only [List.cons.injEq, and_true] at hcs
    have hlm : len ≤ m := by rw [hmm]; split <;> omega
    have key : ∀ i, i < len → ∃ x : α, (∀ j, j < R.k → W.cell? (a.add (i * R.k + j)) = (R.enc x)[j]?) ∧ Pq x := fun i hi => by
      obtain ⟨cs', h1, h2⟩ := hx i (by omega)
      rw [ce] at h1
      obtain ⟨_, hlen, hcell⟩ := World.cells?_some h1
      obtain ⟨x, e1, hP⟩ := hel _ _ _ hlen h2
      refine ⟨x, fun j hj => ?_, hP⟩
      have e0 := hcell j hj
      rw [add_add] at e0
      rw [e0, e1]
    obtain ⟨q, hq⟩ := choose_lt key
    refine ⟨some a, len, cap, (List.range len).map q, hcs, ?_, fun z hz => ?_⟩
    · obtain ⟨b, off, spot⟩ := a
      have hcell0 : 0 < len → ∃ u, W.cell? ((⟨b, off, spot⟩ : Addr).add 0) = some u := fun h0 => by
        have := (hq 0 h0).1 0 k0
        rw [Nat.zero_mul, Nat.zero_add] at this
        have h4 : 0 < (R.enc (q 0)).length := by rw [ok.hk]; exact k0
        rw [List.getElem?_eq_getElem h4] at this
        exact ⟨_, this⟩
      by_cases h0 : 0 < len
      · obtain ⟨u, hu⟩ := hcell0 h0
        have hspot : spot = none := by simpa [Addr.add] using World.cell?_spot hu
        subst hspot
        refine Row.Rds.mk_cells ok x0 (by simp) hl hm (fun _ => block_lt_of_cell hu) fun i j hi hj => ?_
        have := (hq i hi).1 j hj
        rw [add_plain] at this
        rw [List.getD_eq_getElem?_getD, List.getElem?_map, List.getElem?_range hi, Nat.add_assoc]
        exact this
      · exact ⟨by simp, hl, hm, fun h => absurd h h0⟩
    · obtain ⟨i, hi, rfl⟩ := List.mem_map.1 hz
      exact (hq i (List.mem_range.1 hi)).2
theorem wf64 {k : Int} (h : (Lit.int .i64 k : Lit).wf = true) : -9223372036854775808 ≤ k ∧ k ≤ 9223372036854775807 := by
  simp only [Lit.wf, Bool.and_eq_true, decide_eq_true_eq] at h
  have h1 : IntKind.min .i64 = -9223372036854775808 := by decide
  have h2 : IntKind.max .i64 = 9223372036854775807 := by decide
  omega
/-- what is known of a posted entry that is handed in -/
def WfP (W : World) (p : PE) : Prop := RdG W p.2 ∧ p.2.2.2.1.length ≤ maxLen ∧ -9223372036854775808 ≤ p.1.2.1 ∧ p.1.2.1 ≤ 9223372036854775807
set_option maxRecDepth 100000 in
theorem arg_posted {r : Reach} {b0 : Nat} {v : Value} {d : DataW H} {p : List MemPlace} (hok : Value.okWide Tryz.prog W r b0 22 v) (h : DataW.Trod enc Tryz.prog W 0 sp held 22 v d p) :
    ∃ A n c ps, v = .slice A n c ∧ rowPo.Rds W A n c ps ∧ ∀ p ∈ ps, WfP W p := by
  obtain ⟨a0, len, cap, rfl⟩ := okWide_slice Tryz.underlying22 hok
  obtain ⟨fuel, hf⟩ := h
  exact trod_rowsQ rowPo_ok pe0 (WfP W) Tryz.underlying22 cPo (fun fuel vs y hl hy => by
    match vs, hl with
    | [v0, v1, v2, v3, v4, v5], _ =>
      obtain ⟨y0, y1, y2, y3, k', _, _, t0, t1, t2, t3⟩ := Joins.trod_struct4 Tryz.underlying42 hy
      simp [c9, cInt3, c29, c32] at t0 t1 t2 t3
      obtain ⟨d, e0, _⟩ := DataW.trod_int Tryz.underlying37 t0
      obtain ⟨k, e1, _, w1⟩ := DataW.trod_int Tryz.underlying3 t1
      obtain ⟨s, e2, _⟩ := DataW.trod_string Tryz.underlying9 t2
      obtain ⟨z0, z1, z2, k2, _, _, q0, q1, q2⟩ := trod_struct3 Tryz.underlying40 t3
      simp [c9, c29, c30] at q0 q1 q2
      obtain ⟨d', cz, A, n, c, l, rfl, rfl, rfl, hl, hz⟩ := trod_en q0 q1 q2
      simp only [List.cons.injEq, and_true] at e0 e1 e2
      subst e0 e1 e2
      obtain ⟨w2, w3⟩ := wf64 w1
      exact ⟨((d, k, s.data.toList), ((d', cz, A, n, c), (d', cz, l))), rfl, ⟨rfl, rfl, hl⟩, hz, w2, w3⟩) hf
set_option maxRecDepth 100000 in
theorem arg_strings {r : Reach} {b0 : Nat} {v : Value} {d : DataW H} {p : List MemPlace} (hok : Value.okWide Tryz.prog W r b0 23 v) (h : DataW.Trod enc Tryz.prog W 0 sp held 23 v d p) :
    ∃ A n c l, v = .slice A n c ∧ rowS.Rds W A n c l := by
  obtain ⟨a0, len, cap, rfl⟩ := okWide_slice Tryz.underlying23 hok
  obtain ⟨fuel, hf⟩ := h
  obtain ⟨A, n, c, l, h1, h2, _⟩ := trod_rowsQ rowS_ok [] (fun _ => True) Tryz.underlying23 c9 (fun fuel vs y hl hy => by
    match vs, hl with
    | [v0], _ =>
      obtain ⟨s, e0, _⟩ := DataW.trod_string Tryz.underlying9 hy
      simp only [List.cons.injEq, and_true] at e0
      subst e0
      exact ⟨s.data.toList, rfl, trivial⟩) hf
  exact ⟨A, n, c, l, h1, h2⟩
end
end Go.Proofs.YtjcbohbpkodkoaaGreatDoor

/- The row's last step for a law: true, the arguments as they were, of the world Below is known. Arguments that are slices of strings. -/
namespace Go.Proofs.YtjcbohbpkodkoaaGreatDoor
open Go.RowKit Go.WideShapes Go.ChangeShapes Go.ChangeAt
section
variable {H : Type} {enc : TypeId × Value → H} {P : Program}
theorem post_of_below {f : Func} {s : ChangeSpec} {apart fresh handsOn again : Bool} {W W' : World} {args : Array Value} {v : Value} {ds gs : List (DataW H)} {before pa pv : List MemPlace}
    (hW : DataW.Whole enc P f.params.toList s.vars apart W args.toList ds gs before)
    (hres : ∀ (b : Nat) (sp : Nat → Bool) (hd : Bool), DataW.TrodAll enc P W' b sp hd f.resultTypes.toList (v.resultList f.resultTypes.size) (s.fn H (ds ++ gs)).results [])
    (hargs : ∀ sp : Nat → Bool, (∀ p ∈ before, sp p.block = true) → DataW.TrodAll enc P W' 0 sp true f.params.toList args.toList (s.fn H (ds ++ gs)).args pa)
    (hvars : ∀ sp : Nat → Bool, (∀ p ∈ before, sp p.block = true) → DataW.TrodVars enc P W' sp s.vars (s.fn H (ds ++ gs)).vars pv)
    (hps : before = pa ++ pv) (hb : Below W.heap.size W W')
    (hok : ∀ (j : Nat) (t : TypeId) (r : Value), f.resultTypes[j]? = some t → (v.resultList f.resultTypes.size)[j]? = some r → Value.okWide P W' .any 0 t r) :
    s.post enc P f apart fresh handsOn again W args v W' := by
  have hlt : ∀ p ∈ before, p.block < W.heap.size := fun p hp => hW.lt p hp
  have hold : ∀ p ∈ before, (fun b => decide (b < W.heap.size)) p.block = true := fun p hp => by simpa using hlt p hp
  refine ⟨ds, gs, before, [], pa, pv, hW, hres _ _ _, hargs _ hold, hvars _ hold, World.keptBut_mono (fun p hp => ⟨hp, ?_⟩) (hb.frame (· ∈ before)), fun _ => ?_⟩
  · rw [hps, List.mem_append] at hp
    exact Or.inr hp
  · obtain ⟨_, _, _, _, _, hz, hn⟩ := hW
    refine ⟨hok, _, _, ([] ++ pa) ++ pv, ⟨[] ++ pa, pv, trodAll_append (hargs _ (fun _ _ => rfl)) (hres _ _ _), hvars _ (fun _ _ => rfl), rfl, ?_, ?_⟩, ?_⟩
    · intro b off hp
      have hin : MemPlace.cell b off ∈ before := by rw [hps]; simpa using hp
      rw [hb.frozen (hlt _ hin)]
      exact hz b off hin
    · intro ha
      have := hn ha
      rw [hps] at this
      simpa using this
    · intro p hp _
      rw [hps]
      simpa using hp
theorem trodAll_stays (hl : laidOutB P = true) {W W' : World} (hb : Below W.heap.size W W') {sp : Nat → Bool} : ∀ {ts : List TypeId} {vs : List Value} {ds : List (DataW H)} {ps : List MemPlace},
    (∀ t ∈ ts, P.readableRec t = true ∧ t < P.types.size) → DataW.TrodAll enc P W 0 (fun _ => true) true ts vs ds ps → (∀ x ∈ ps, x.block < W.heap.size) → (∀ x ∈ ps, sp x.block = true) → DataW.TrodAll enc P W' 0 sp true ts vs ds ps
  | [], vs, ds, ps, _, h, _, _ => by
    obtain ⟨rfl, rfl, rfl⟩ := trodAll_nil h
    exact trodAll_mk0
  | t :: ts, vs, ds, ps, hr, h, hlt, hsp => by
    obtain ⟨v, vs', d, ds', p, q, rfl, rfl, rfl, h0, r0⟩ := trodAll_cons h
    obtain ⟨h1, h2⟩ := hr t (by simp)
    refine trodAll_cons_mk (WideElems.Trod_stays hl h1 h2 h0 (fun x hx => hb.same (hlt x (by simp [hx]))) (fun x hx => hsp x (by simp [hx]))) (trodAll_stays hl hb (fun t' ht' => hr t' (by simp [ht'])) r0 (fun x hx => hlt x (by simp [hx])) (fun x hx => hsp x (by simp [hx])))
theorem post_true {f : Func} {s : ChangeSpec} {apart fresh handsOn again : Bool} {W W' : World} {args : Array Value} {ds gs : List (DataW H)} {before : List MemPlace} {tb : TypeId}
    (hW : DataW.Whole enc P f.params.toList s.vars apart W args.toList ds gs before) (hv : s.vars = []) (hl : laidOutB P = true) (hr : (f.params.toList.all fun t => P.readableRec t && decide (t < P.types.size)) = true)
    (hrt : f.resultTypes = #[tb]) (htb : P.underlying tb = some .bool) (hfn : (s.fn H (ds ++ gs)).results = [.lit (.bool true)] ∧ (s.fn H (ds ++ gs)).args = ds ∧ (s.fn H (ds ++ gs)).vars = [])
    (hb : Below W.heap.size W W') : s.post enc P f apart fresh handsOn again W args (.bool true) W' := by
  have hW' := hW
  have hlt : ∀ p ∈ before, p.block < W.heap.size := fun p hp => hW.lt p hp
  obtain ⟨p, q, hA, hV, rfl, hfz, hnd⟩ := hW
  rw [hv] at hV
  obtain ⟨rfl, rfl⟩ := trodVars_none hV
  have hr' : ∀ t ∈ f.params.toList, P.readableRec t = true ∧ t < P.types.size := fun t ht => by
    have := List.all_eq_true.1 hr t ht
    simpa using this
  refine post_of_below (pa := p) (pv := []) hW' ?_ ?_ ?_ rfl hb ?_
  · intro b sp hd
    rw [hfn.1, hrt]
    exact trodAll_cons_mk (shut_bool htb _) trodAll_mk0
  · intro sp hsp
    rw [hfn.2.1]
    exact trodAll_stays hl hb hr' hA (fun x hx => hlt x (by simp [hx])) (fun x hx => hsp x (by simp [hx]))
  · intro sp _
    rw [hfn.2.2, hv]
    rfl
  · exact ok_one hrt rfl (okWide_bool_mk htb _)
end
end Go.Proofs.YtjcbohbpkodkoaaGreatDoor

/- What every row of this seat needs: the world's shape. -/
namespace Go.Proofs.YtjcbohbpkodkoaaGreatDoor
open Go.RowKit Go.WideShapes Go.ChangeShapes Go.ChangeAt
theorem laid : laidOutB Tryz.prog = true := by kernel_rfl
theorem own : ownKnob Tryz.prog.godebug = none := by kernel_rfl
theorem ml_of {w : World} (h : w.ShapedOpen Tryz.prog) : ML w :=
  Go.Proofs.cell_of_shapedOpen_int (zero := #[.int .i64 0]) (t := 3) h (of_decide_eq_true (by kernel_rfl)) (by kernel_rfl) rfl (by kernel_rfl) (by kernel_rfl) Tryz.underlying3
end Go.Proofs.YtjcbohbpkodkoaaGreatDoor

/- The frame of the cards of this seat. -/
namespace Go.Proofs.YtjcbohbpkodkoaaGreatDoor
open Go.ChangeShapes Go.WideShapes Go.ChangeAt Go.RowKit
section
variable {H : Type} {enc : TypeId × Value → H}
/-- a row that lists variables, whose contract needs the shape of those that it does not list -/
theorem handed_both {a : Assume} {C : Checked} {os : Os} {f : FuncId} {fn : Func} {s : ChangeSpec} {conds : List PathCond} {apart fresh handsOn again : Bool} {X : World → Array Value → Prop}
    (hX : ∀ (w w' : World) (args : Array Value), w.heap = w'.heap → X w args → X w' args)
    (own : ownKnob C.prog.godebug = none) (started : os.Started) (noInit : C.prog.inits.idxOf? f = none) (hfn : C.prog.funcs[f]? = some fn)
    (witness : ∃ (w : World) (tape : Tape) (i : Input), w.os = os ∧ (w.forCall tape i).Shaped C.prog ∧ i.vars = [] ∧ Input.okWide C.prog (w.forCall tape i) .any w.heap.size f i ∧
      ((s.pre enc C.prog fn conds apart (w.forCall tape i).memory i.args ∧ X (w.forCall tape i).memory i.args) ∧ sizedMet enc C.prog fn (OpenSpec.ofChange s) apart (w.forCall tape i).memory i.args) ∧ a.holds C.prog (lone (Frame.enter C.prog f i.args .normal) [] (w.forCall tape i)))
    (contract : ∀ (W : World) (base : Nat) (args : Array Value) (ds gs : List (DataW H)) (before : List MemPlace),
      (∀ (j : Nat) t v, fn.params[j]? = some t → args[j]? = some v → Value.okWide C.prog W .any base t v) →
      DataW.Whole enc C.prog fn.params.toList s.vars apart W args.toList ds gs before → X W args → W.ShapedOpen C.prog →
      Calls C.prog f args W fun e W' => ∃ v, e = .returned v ∧ s.post enc C.prog fn apart fresh handsOn again W args v W') :
    ReturnsInHanded a C os f .any (fun w args => (s.pre enc C.prog fn conds apart w args ∧ X w args) ∧ sizedMet enc C.prog fn (OpenSpec.ofChange s) apart w args) (s.post enc C.prog fn apart fresh handsOn again) := by
  refine returnsInHanded_of_calls own started noInit witness ?_
  intro w tape i _ hsh _ hok hpre _
  obtain ⟨_, _, _, fn', hfn', _, _, _, _, hval⟩ := hok
  have e : fn' = fn := Option.some.inj (hfn'.symm.trans hfn)
  subst e
  obtain ⟨⟨⟨ds, gs, before, hw, _⟩, hx⟩, _⟩ := hpre
  refine (contract (w.forCall tape i) w.heap.size i.args ds gs before hval (DataW.Whole.of_heap (w' := w.forCall tape i) (by rfl) hw) (hX _ _ _ (by rfl) hx) hsh).mono fun e W' ⟨v, he, hp⟩ => ?_
  subst he
  exact ChangeSpec.post_blind hp
end
theorem gPowType : (Tryz.prog.globals[1]?).map (·.type) = some 220 := by kernel_rfl
theorem cells235 : Tryz.prog.cellsOf 220 = 20 := by kernel_rfl
theorem cells127 : Tryz.prog.cellsOf 130 = 1 := by kernel_rfl
theorem powData : (Rows.laid_internal_strconv_uint64pow10 : DataW Unit) = Lib.tabData .u64 Lib.pow10Tab := by kernel_rfl
/-- the table of the powers of ten, from the row's list -/
theorem tab_of {W : World} (h : laidMetH Tryz.prog Rows.auditTrailsRow.laid W) : Tab W := by
  rw [MakeChecks.laidMetH_plain _ _ _ (by kernel_rfl)] at h
  have h1 : laidMet Tryz.prog (("math/bits.deBruijn32tab", Rows.laid_math_bits_deBruijn32tab) :: ("math/bits.deBruijn64tab", Rows.laid_math_bits_deBruijn64tab) :: ("internal/strconv.uint64pow10", Rows.laid_internal_strconv_uint64pow10) :: Rows.auditTrailsRow.laid.drop 3) W := h
  have h2 := h1.tail.tail
  rw [powData] at h2
  exact Lib.tabIs_of_head gPow gPowType Tryz.underlying220 Tryz.underlying130 cells127 cells235 h2
end Go.Proofs.YtjcbohbpkodkoaaGreatDoor

/- Contract of the reference's entry Check. -/
namespace Go.Proofs.YtjcbohbpkodkoaaGreatDoor
open Go.RowKit Go.Maps Num

set_option maxRecDepth 100000 in
set_option maxHeartbeats 4000000 in
theorem rchkE_any (d : Int) (cz : List UInt8) (A : Option Addr) (n c : Nat) (l : List Ln) (w : World) (hl : Lns w A n c l) (hcz : cz.length ≤ maxLen) (hs : ∀ x ∈ l, x.2.2.length ≤ 13) :
    Calls Tryz.prog 55 #[.agg (enV d cz A n c)] w (IntPost (chkE d cz l) w) := by
  have hn := hl.small
  have ll := Lib.hid hl.len
  have hB0 : Below w.heap.size w (w.alloc (.cells #[.int .i64 d, .string ⟨cz.toArray⟩, .slice A n c] 40)) := (Below.refl _ w).alloc (Nat.le_refl _) _
  have hx : (w.alloc (.cells #[.int .i64 d, .string ⟨cz.toArray⟩, .slice A n c] 40)).cell? ⟨w.heap.size, 2, none⟩ = some (.slice A n c) := by go_simp
  have c0 := fun W => rhead_any d cz A n c W hcz
  have hE := Lib.hid (show chkE d cz l = if headI d cz ≠ 0 then headI d cz else if l.length = 0 then 11 else if 64 < l.length then 4 else if chkLs none l ≠ 0 then chkLs none l else if balB l then 0 else 14 from rfl)
  have HP := Lib.hid (fun W r (h : chkE d cz l = r) (hb : Below w.heap.size w W) => (show IntPost (chkE d cz l) w (.returned (.int .i64 r)) W from ⟨by rw [h], hb⟩))
  generalize IntPost (chkE d cz l) w = Post at *
  generalize chkE d cz l = r at *
  generalize headI d cz = hd at *
  have H0 := Lib.hid hB0
  have L1 := Lib.hid hl
  have HSS := Lib.hid hs
  have l0 := Lib.hid (block_lt_of_cell hx)
  have hx0 := Lib.hid hx
  clear hl hs
  unfold enV
  go_enter Tryz.func55, Tryz.ntmps55
  go_wp2_with fail
  refine (c0 _).mono ?_
  rintro e w1 ⟨rfl, hb1⟩
  have hx1 := (hb1.cell l0.out).trans hx
  have HB1 := Lib.hid (below_next H0.out hb1 ⟨rfl, rfl, rfl, rfl⟩)
  clear hb1 hx
  by_cases hz : hd = 0
  case neg =>
    have hzb : (hd == 0) = false := beq_eq_false_iff_ne.2 hz
    have hzb' : (hd != 0) = true := by rw [bne_iff_ne]; exact hz
    have hv := Lib.hid (show r = hd by rw [hE.out, if_pos hz])
    go_wp2_with fail
    exact HP.out _ _ hv.out HB1.out
  subst hz
  by_cases h0 : n = 0
  · have hv := Lib.hid (show r = 11 by rw [hE.out, if_neg (by omega), if_pos (by rw [ll.out]; exact h0)])
    subst h0
    go_wp2_with fail
    exact HP.out _ _ hv.out HB1.out
  have h0i : ((n : Int) == 0) = false := beq_eq_false_iff_ne.2 (by omega)
  have h0j : (n == 0) = false := beq_eq_false_iff_ne.2 (by omega)
  by_cases h64 : 64 < n
  · have hv := Lib.hid (show r = 4 by rw [hE.out, if_neg (by omega), if_neg (by rw [ll.out]; exact h0), if_pos (by rw [ll.out]; exact h64)])
    have h64i : (64 : Int) < (n : Int) := by omega
    go_wp2_with fail
    exact HP.out _ _ hv.out HB1.out
  have hv := Lib.hid (show r = if chkLs none l ≠ 0 then chkLs none l else if balB l then 0 else 14 by rw [hE.out, if_neg (by omega), if_neg (by rw [ll.out]; exact h0), if_neg (by rw [ll.out]; exact h64)])
  have h64i : ¬ (64 : Int) < (n : Int) := by omega
  go_wp2_with fail
  have l1 := Lib.hid (block_lt_of_cell hx1)
  have hx1h := Lib.hid hx1
  have hh := Lib.hid (fun W (h : Below w1.heap.size w1 W) => below_next HB1.out h ⟨rfl, rfl, rfl, rfl⟩)
  have R0 := Lib.hid (show ChkR w1 l 0 w1 from ⟨by rw [List.drop_zero]; rfl, Below.refl _ _⟩)
  go_loopw [4, 5] (fun i _ wr => ∃ k : Nat, k ≤ n ∧ i = .int .i64 (k : Int) ∧ Hid (ChkR w1 l k wr)) (fun i _ _ => n - (intOf i).toNat)
  case atStart => exact ⟨0, by omega, rfl, R0⟩
  case round =>
    obtain ⟨k, hk, rfl, hR⟩ := hrel
    have hch := Lib.hid hR.out.1
    have HC := Lib.hid hR.out.2
    have HB := Lib.hid (hh.out _ hR.out.2)
    have xb := (HC.out.cell l1.out).trans hx1h.out
    clear hR R0
    by_cases hlt : k < n
    · obtain ⟨b1, o1, rfl, hb1, hc1⟩ := L1.out.at_ (by omega)
      obtain ⟨q0, q1, q2⟩ := hc1 k hlt
      have r0 := (HB.out.cell (p := ⟨b1, o1 + k * 3, none⟩) hb1).trans q0
      have r1 := (HB.out.cell (p := ⟨b1, o1 + k * 3 + 1, none⟩) hb1).trans q1
      have r2 := (HB.out.cell (p := ⟨b1, o1 + k * 3 + 2, none⟩) hb1).trans q2
      have hsx := Lib.hid (L1.out.sml _ (lnAt_mem l k (by rw [ll.out]; exact hlt)))
      have hki : (k : Int) < (n : Int) := by omega
      have hdr := drop_ln l k (by rw [ll.out]; exact hlt)
      have hch2 := hch.out
      rw [hdr, chkLs_cons] at hch2
      have hpk : prevAt l (k + 1) = some (key (l.getD k ln0)) := rfl
      have HQ := Lib.hid (And.intro q0 (And.intro q1 q2))
      clear q0 q1 q2 hdr
      generalize hxe : l.getD k ln0 = x at *
      obtain ⟨a, cu, m⟩ := x
      have cl := Lib.hid (fun W => rfld_any a cu m W hsx.out)
      simp only at r0 r1 r2 HQ
      generalize hli : lineI (a, cu, m) = li at *
      go_wp2_with fail
      refine (cl.out _).mono ?_
      rintro e w2 ⟨rfl, hb⟩
      have HB3 := Lib.hid (below_next HB.out hb ⟨rfl, rfl, rfl, rfl⟩)
      have HC3 := Lib.hid (below_next HC.out hb ⟨rfl, rfl, rfl, rfl⟩)
      clear r0 r1 r2 xb
      have d0 := (HB3.out.cell (p := ⟨b1, o1 + k * 3, none⟩) hb1).trans HQ.out.1
      have d1 := (HB3.out.cell (p := ⟨b1, o1 + k * 3 + 1, none⟩) hb1).trans HQ.out.2.1
      have d2 := (HB3.out.cell (p := ⟨b1, o1 + k * 3 + 2, none⟩) hb1).trans HQ.out.2.2
      have xb := (HC3.out.cell l1.out).trans hx1h.out
      clear hb
      by_cases hz : li = 0
      case neg =>
        have hzb : (li == 0) = false := beq_eq_false_iff_ne.2 hz
        have hzb' : (li != 0) = true := by rw [bne_iff_ne]; exact hz
        have hv1 := Lib.hid (show r = li by rw [hv.out, hch2, if_pos hz, if_pos hz])
        go_wp2_with fail
        exact HP.out _ _ hv1.out HB3.out
      subst hz
      rw [if_neg (by omega)] at hch2
      rcases m with _ | ⟨m0, mr⟩
      · rw [if_pos rfl] at hch2
        have hv1 := Lib.hid (show r = 2 by rw [hv.out, hch2, if_pos (by omega)])
        go_wp2_with fail
        exact HP.out _ _ hv1.out HB3.out
      rw [if_neg (by simp)] at hch2
      go_upto_region 16 with fail
      by_cases hk0 : k = 0
      · have hf : ordB (prevAt l k) (key (a, cu, m0 :: mr)) = false := by rw [hk0]; rfl
        rw [hf, if_neg (by decide)] at hch2
        have hk0i : ¬ (0 : Int) < (k : Int) := by omega
        have hk0n : ¬ 0 < k := by omega
        clear hk0
        go_quiet (fail)
        have HC4 := Lib.hid (below_dr HC3.out nq)
        have RR := Lib.hid (show ChkR w1 l (k + 1) (w2.drewN nq) from ⟨by rw [hpk]; exact hch2, HC4.out⟩)
        clear hch2 hpk
        go_wp2_with fail
        go_roundw
        case rel => exact ⟨k + 1, by omega, by go_num, RR⟩
        case measure => simp [intOf]; omega
      · obtain ⟨j, hj⟩ : ∃ j, k = j + 1 := ⟨k - 1, by omega⟩
        have hHj := Lib.hid hj
        obtain ⟨q0, q1, q2⟩ := hc1 j (by omega)
        have p0 := (HB3.out.cell (p := ⟨b1, o1 + j * 3, none⟩) hb1).trans q0
        have p1 := (HB3.out.cell (p := ⟨b1, o1 + j * 3 + 1, none⟩) hb1).trans q1
        have p2 := (HB3.out.cell (p := ⟨b1, o1 + j * 3 + 2, none⟩) hb1).trans q2
        have hpv : prevAt l k = some (key (l.getD j ln0)) := by rw [hj]; rfl
        rw [hpv] at hch2
        have hw : IntKind.i64.wrap ((k : Int) - 1) = (j : Int) := (IntWalk.i64_in _ (by omega)).trans (by omega)
        have hji : (j : Int) < (n : Int) := by omega
        have hk0i : (0 : Int) < (k : Int) := by omega
        have hk0n : 0 < k := by omega
        clear q0 q1 q2 hpv hj hk0 hc1
        generalize l.getD j ln0 = y at *
        obtain ⟨ya, yc, ym⟩ := y
        simp only at p0 p1 p2
        have HS := Lib.hid (And.intro xb (And.intro p0 (And.intro p1 (And.intro p2 (And.intro d0 (And.intro d1 d2))))))
        have lb := block_lt_of_cell xb
        have ly := block_lt_of_cell p0
        have HD := Lib.hid (Below.refl w2.heap.size w2)
        generalize hcv : cmpKy (ya, yc) (a, cu) = cv at *
        have KC := Lib.hid (fun W => rcl_any ya yc ym a cu (m0 :: mr) W)
        rw [hcv] at KC
        go_region_held3 (fun w' => w'.cell? ⟨w.heap.size, 2, none⟩ = some (.slice (some ⟨b1, o1, none⟩) n c) ∧ w'.cell? ⟨b1, o1 + j * 3, none⟩ = some (.string ⟨ya.toArray⟩) ∧ w'.cell? ⟨b1, o1 + j * 3 + 1, none⟩ = some (.string ⟨yc.toArray⟩) ∧ w'.cell? ⟨b1, o1 + j * 3 + 2, none⟩ = some (.string ⟨ym.toArray⟩) ∧ w'.cell? ⟨b1, o1 + k * 3, none⟩ = some (.string ⟨a.toArray⟩) ∧ w'.cell? ⟨b1, o1 + k * 3 + 1, none⟩ = some (.string ⟨cu.toArray⟩) ∧ w'.cell? ⟨b1, o1 + k * 3 + 2, none⟩ = some (.string ⟨(m0 :: mr).toArray⟩))
          (first | exact ⟨f0, f1, f2, f3, f4, f5, f6⟩ | exact ⟨xb, p0, p1, p2, d0, d1, d2⟩ | go_keep)
          (first
            | (go_at_call 92; refine (KC.out _).mono ?_; rintro e w' ⟨rfl, hb⟩; have HD := Lib.hid (below_next HD.out hb ⟨rfl, rfl, rfl, rfl⟩); have f0 := (HD.out.cell lb).trans HS.out.1; have f1 := (HD.out.cell ly).trans HS.out.2.1; have f2 := (HD.out.cell (p := ⟨b1, o1 + j * 3 + 1, none⟩) ly).trans HS.out.2.2.1; have f3 := (HD.out.cell (p := ⟨b1, o1 + j * 3 + 2, none⟩) ly).trans HS.out.2.2.2.1; have f4 := (HD.out.cell (p := ⟨b1, o1 + k * 3, none⟩) ly).trans HS.out.2.2.2.2.1; have f5 := (HD.out.cell (p := ⟨b1, o1 + k * 3 + 1, none⟩) ly).trans HS.out.2.2.2.2.2.1; have f6 := (HD.out.cell (p := ⟨b1, o1 + k * 3 + 2, none⟩) ly).trans HS.out.2.2.2.2.2.2; clear hb))
        have hf : ordB (some (key (ya, yc, ym))) (key (a, cu, m0 :: mr)) = decide (0 ≤ cv) := by
          show decide (0 ≤ cmpKy (ya, yc) (a, cu)) = _
          rw [hcv]
        rw [hf] at hch2
        by_cases hc0 : 0 ≤ cv
        · rw [decide_eq_true hc0, if_pos rfl] at hch2
          have hv1 := Lib.hid (show r = 8 by rw [hv.out, hch2, if_pos (by omega)])
          have HB4 := Lib.hid (HB3.out.trans (HD.out.mono HB3.out.size))
          go_wp2_with fail
          exact HP.out _ _ hv1.out HB4.out
        · rw [decide_eq_false hc0, if_neg (by decide)] at hch2
          have HC4 := Lib.hid (HC3.out.trans (HD.out.mono HC3.out.size))
          have RR := Lib.hid (show ChkR w1 l (k + 1) w' from ⟨by rw [hpk]; exact hch2, HC4.out⟩)
          clear hch2 hpk
          go_wp2_with fail
          go_roundw
          case rel => exact ⟨k + 1, by omega, by go_num, RR⟩
          case measure => simp [intOf]; omega
    · have hkn : k = n := by omega
      subst hkn
      have h0l : chkLs none l = 0 := by rw [hch.out, List.drop_of_length_le (by rw [ll.out]; exact Nat.le_refl _)]; rfl
      have hv2 := Lib.hid (show r = if balB l then 0 else 14 by rw [hv.out, h0l, if_neg (by decide)])
      have hki : ¬ (k : Int) < (k : Int) := by omega
      have cb := Lib.hid (rbal_any A k c l wr (L1.out.below HB.out) HSS.out)
      clear h0l hv hch
      generalize balB l = bb at *
      go_wp2_with fail
      refine cb.out.mono ?_
      rintro e w2 ⟨rfl, hb⟩
      have HB5 := Lib.hid (below_next HB.out hb ⟨rfl, rfl, rfl, rfl⟩)
      clear hb
      cases bb
      · have hv3 := Lib.hid (show r = 14 by rw [hv2.out]; rfl)
        go_wp2_with fail
        exact HP.out _ _ hv3.out HB5.out
      · have hv3 := Lib.hid (show r = 0 by rw [hv2.out]; rfl)
        go_wp2_with fail
        exact HP.out _ _ hv3.out HB5.out
end Go.Proofs.YtjcbohbpkodkoaaGreatDoor

/- The calendar in plain integers. -/
namespace Go.Proofs.YtjcbohbpkodkoaaGreatDoor.Dat

def lp (y : Int) : Int := if y % 4 = 0 ∧ (y % 100 ≠ 0 ∨ y % 400 = 0) then 1 else 0
def leapB (y : Int) : Bool := decide (lp y = 1)
def len (y m : Int) : Int := if m = 2 then 28 + lp y else if m = 4 ∨ m = 6 ∨ m = 9 ∨ m = 11 then 30 else 31
def beg (y : Int) : Int := 365 * (y - 1900) + ((y - 1) / 4 - (y - 1) / 100 + (y - 1) / 400) - 460
def cum (y m : Int) : Int := if m ≤ 1 then 0 else if m = 2 then 31 else lp y + (if m = 3 then 59 else if m = 4 then 90 else if m = 5 then 120 else if m = 6 then 151 else if m = 7 then 181 else if m = 8 then 212 else if m = 9 then 243 else if m = 10 then 273 else if m = 11 then 304 else if m = 12 then 334 else 365)
def num (y m d : Int) : Int := -25567 + beg y + cum y m + d - 1
structure Valid (y m d : Int) : Prop where
  y0 : 1900 ≤ y
  y1 : y ≤ 2199
  m0 : 1 ≤ m
  m1 : m ≤ 12
  d0 : 1 ≤ d
  d1 : d ≤ len y m
def vdB (y m d : Int) : Bool := decide (1900 ≤ y ∧ y ≤ 2199 ∧ 1 ≤ m ∧ m ≤ 12 ∧ 1 ≤ d ∧ d ≤ len y m)
theorem vdB_iff (y m d : Int) : vdB y m d = true ↔ Valid y m d := by
  unfold vdB
  rw [decide_eq_true_iff]
  exact ⟨fun ⟨a, b, c, d, e, f⟩ => ⟨a, b, c, d, e, f⟩, fun ⟨a, b, c, d, e, f⟩ => ⟨a, b, c, d, e, f⟩⟩
theorem lp_01 (y : Int) : 0 ≤ lp y ∧ lp y ≤ 1 := by unfold lp; split <;> omega
theorem len_lo (y m : Int) : 28 ≤ len y m ∧ len y m ≤ 31 := by
  have := lp_01 y
  unfold len; split
  · omega
  · split <;> omega
theorem beg_succ (y : Int) : beg (y + 1) = beg y + 365 + lp y := by
  unfold beg lp; split <;> omega
theorem month_cases (m : Int) (h0 : 1 ≤ m) (h1 : m ≤ 12) : m = 1 ∨ m = 2 ∨ m = 3 ∨ m = 4 ∨ m = 5 ∨ m = 6 ∨ m = 7 ∨ m = 8 ∨ m = 9 ∨ m = 10 ∨ m = 11 ∨ m = 12 := by omega
theorem cum_succ (y m : Int) (h0 : 1 ≤ m) (h1 : m ≤ 12) : cum y (m + 1) = cum y m + len y m := by
  rcases month_cases m h0 h1 with h | h | h | h | h | h | h | h | h | h | h | h <;> subst h <;> simp [cum, len] <;> omega
theorem cum_one (y : Int) : cum y 1 = 0 := by simp [cum]
theorem cum_end (y : Int) : cum y 13 = 365 + lp y := by simp [cum]; omega
theorem cum_mono (y m : Int) (h0 : 1 ≤ m) (k : Nat) (h1 : m + k ≤ 13) : cum y m ≤ cum y (m + k) := by
  induction k with
  | zero => simp
  | succ k ih =>
    have h := cum_succ y (m + k) (by omega) (by omega)
    have hl := len_lo y (m + k)
    have := ih (by omega)
    rw [show m + ((k + 1 : Nat) : Int) = m + k + 1 by omega, h]
    omega
theorem cum_le (y m n : Int) (h0 : 1 ≤ m) (h : m ≤ n) (h1 : n ≤ 13) : cum y m ≤ cum y n := by
  have := cum_mono y m h0 (n - m).toNat (by omega)
  rwa [show m + ((n - m).toNat : Int) = n by omega] at this
theorem beg_mono (a b : Int) (h : a ≤ b) : beg a ≤ beg b := by unfold beg; omega
theorem beg_first : beg 1900 = 0 := by decide
theorem beg_last : beg 2200 = 109573 := by decide
theorem num_succ_le (y m y' m' : Int) (h0 : 1 ≤ m) (h1 : m ≤ 12) (g0 : 1 ≤ m') (g1 : m' ≤ 12) (h : 12 * y + m < 12 * y' + m') : beg y + cum y m + len y m ≤ beg y' + cum y' m' := by
  rw [show beg y + cum y m + len y m = beg y + (cum y m + len y m) by omega, ← cum_succ y m h0 h1]
  rcases Int.lt_trichotomy y y' with hy | hy | hy
  · have a := cum_le y (m + 1) 13 (by omega) (by omega) (by omega)
    have b := cum_le y' 1 m' (by omega) (by omega) (by omega)
    have c := beg_mono (y + 1) y' (by omega)
    rw [cum_end] at a
    rw [cum_one] at b
    rw [beg_succ] at c
    omega
  · subst hy
    have := cum_le y (m + 1) m' (by omega) (by omega) (by omega)
    omega
  · omega
theorem num_lt {y m d y' m' d' : Int} (h : Valid y m d) (g : Valid y' m' d') (hl : 12 * y + m < 12 * y' + m') : num y m d < num y' m' d' := by
  have := num_succ_le y m y' m' h.m0 h.m1 g.m0 g.m1 hl
  have a := h.d1
  have b := g.d0
  unfold num; omega
theorem num_inj {y m d y' m' d' : Int} (h : Valid y m d) (g : Valid y' m' d') (e : num y m d = num y' m' d') : y = y' ∧ m = m' ∧ d = d' := by
  have a := h.m0; have b := h.m1; have c := g.m0; have f := g.m1
  rcases Int.lt_trichotomy (12 * y + m) (12 * y' + m') with hy | hy | hy
  · have := num_lt h g hy; omega
  · have e1 : y = y' := by omega
    have e2 : m = m' := by omega
    subst e1 e2
    exact ⟨rfl, rfl, by unfold num at e; omega⟩
  · have := num_lt g h hy; omega
theorem num_range {y m d : Int} (h : Valid y m d) : -25567 ≤ num y m d ∧ num y m d ≤ 84005 := by
  have a := beg_mono 1900 y h.y0
  have b := beg_mono (y + 1) 2200 (by have := h.y1; omega)
  have c := cum_le y 1 m (by omega) h.m0 (by have := h.m1; omega)
  have d := cum_le y (m + 1) 13 (by have := h.m0; omega) (by have := h.m1; omega) (by omega)
  rw [cum_succ y m h.m0 h.m1, cum_end] at d
  rw [beg_succ, beg_last] at b
  rw [beg_first] at a
  rw [cum_one] at c
  have e := h.d0; have f := h.d1
  unfold num; omega
/-- the date of a day -/
noncomputable def dateOf (n : Int) : Int × Int × Int := Classical.epsilon fun t => Valid t.1 t.2.1 t.2.2 ∧ num t.1 t.2.1 t.2.2 = n
noncomputable def yOf (n : Int) : Int := (dateOf n).1
noncomputable def mOf (n : Int) : Int := (dateOf n).2.1
noncomputable def dOf (n : Int) : Int := (dateOf n).2.2
theorem dateOf_eq {y m d n : Int} (h : Valid y m d) (e : num y m d = n) : yOf n = y ∧ mOf n = m ∧ dOf n = d := by
  have := Classical.epsilon_spec (p := fun t : Int × Int × Int => Valid t.1 t.2.1 t.2.2 ∧ num t.1 t.2.1 t.2.2 = n) ⟨(y, m, d), h, e⟩
  exact num_inj this.1 h (this.2.trans e.symm)
theorem year_exists (n : Int) (h0 : 0 ≤ n) (k : Nat) (h : n < beg (1900 + (k : Int))) : ∃ y : Int, 1900 ≤ y ∧ y < 1900 + (k : Int) ∧ beg y ≤ n ∧ n < beg (y + 1) := by
  induction k with
  | zero => have := beg_first; simp at h; omega
  | succ k ih =>
    by_cases hk : n < beg (1900 + k)
    · obtain ⟨y, a, b, c, d⟩ := ih hk
      exact ⟨y, a, by omega, c, d⟩
    · refine ⟨1900 + k, by omega, by omega, by omega, ?_⟩
      rw [show (1900 : Int) + ((k + 1 : Nat) : Int) = 1900 + k + 1 by omega] at h
      exact h
theorem month_exists (y r : Int) (h0 : 0 ≤ r) (k : Nat) (hk : k ≤ 12) (h : r < cum y (1 + (k : Int))) : ∃ m : Int, 1 ≤ m ∧ m < 1 + (k : Int) ∧ cum y m ≤ r ∧ r < cum y (m + 1) := by
  induction k with
  | zero => have := cum_one y; simp at h; omega
  | succ k ih =>
    by_cases hc : r < cum y (1 + k)
    · obtain ⟨m, a, b, c, d⟩ := ih (by omega) hc
      exact ⟨m, a, by omega, c, d⟩
    · refine ⟨1 + k, by omega, by omega, by omega, ?_⟩
      rw [show (1 : Int) + ((k + 1 : Nat) : Int) = 1 + k + 1 by omega] at h
      exact h
theorem date_exists (n : Int) (h0 : -25567 ≤ n) (h1 : n ≤ 84005) : ∃ y m d, Valid y m d ∧ num y m d = n := by
  obtain ⟨y, a, b, c, d⟩ := year_exists (n + 25567) (by omega) 300 (by show _ < beg 2200; rw [beg_last]; omega)
  rw [beg_succ] at d
  obtain ⟨m, e, f, g, i⟩ := month_exists y (n + 25567 - beg y) (by omega) 12 (by omega) (by show _ < cum y 13; rw [cum_end]; omega)
  rw [cum_succ y m (by omega) (by omega)] at i
  exact ⟨y, m, n + 25567 - beg y - cum y m + 1, ⟨a, by omega, e, by omega, by omega, by omega⟩, by unfold num; omega⟩
theorem date_valid (n : Int) (h0 : -25567 ≤ n) (h1 : n ≤ 84005) : Valid (yOf n) (mOf n) (dOf n) ∧ num (yOf n) (mOf n) (dOf n) = n := by
  obtain ⟨y, m, d, h, e⟩ := date_exists n h0 h1
  obtain ⟨a, b, c⟩ := dateOf_eq h e
  rw [a, b, c]
  exact ⟨h, e⟩
def okDay (d : Int) : Bool := decide (-25567 ≤ d ∧ d ≤ 84005)
theorem okDay_iff (d : Int) : okDay d = true ↔ -25567 ≤ d ∧ d ≤ 84005 := by unfold okDay; exact decide_eq_true_iff
/-- Of -/
def ofN (y m d : Int) : Int := if vdB y m d then num y m d else 0
def ofE (y m d : Int) : Int := if vdB y m d then 0 else 13
theorem of_yes {y m d : Int} (h : Valid y m d) : ofN y m d = num y m d ∧ ofE y m d = 0 := by
  have := (vdB_iff y m d).2 h
  simp [ofN, ofE, this]
/-- the month that lies k months behind the beginning of the years -/
noncomputable def monB (d n : Int) : Int := 12 * yOf d + mOf d - 1 + n
/-- AddMonths: the day and the error -/
noncomputable def addE (d n : Int) : Int := if okDay d then (if -4800 ≤ n ∧ n ≤ 4800 then (if 22800 ≤ monB d n ∧ monB d n < 26400 then 0 else 13) else 2) else 13
noncomputable def addD (d n : Int) : Int := num (monB d n / 12) (monB d n % 12 + 1) (min (dOf d) (len (monB d n / 12) (monB d n % 12 + 1)))
noncomputable def addN (d n : Int) : Int := if addE d n = 0 then addD d n else 0
theorem shift_valid (k d : Int) (h0 : 22800 ≤ k) (h1 : k < 26400) (hd : 1 ≤ d) : Valid (k / 12) (k % 12 + 1) (min d (len (k / 12) (k % 12 + 1))) := by
  have := len_lo (k / 12) (k % 12 + 1)
  exact ⟨by omega, by omega, by omega, by omega, by omega, by omega⟩
end Go.Proofs.YtjcbohbpkodkoaaGreatDoor.Dat

/- Contracts of the small functions of date and of its reference. -/
namespace Go.Proofs.YtjcbohbpkodkoaaGreatDoor.Dat
open Go.RowKit

theorem tmod_zero (y n : Int) : y.tmod n = 0 ↔ y % n = 0 := by rw [← Int.dvd_iff_tmod_eq_zero, Int.dvd_iff_emod_eq_zero]
theorem ret_bool {a b : Bool} (h : a = b) : Ending.returned (.bool a) = .returned (.bool b) := by rw [h]
theorem ret_int {k : IntKind} {a b : Int} (h : a = b) : Ending.returned (.int k a) = .returned (.int k b) := by rw [h]
theorem leapB_true {y : Int} (h4 : y.tmod 4 = 0) (h : y.tmod 100 ≠ 0 ∨ y.tmod 400 = 0) : true = leapB y := by
  rw [tmod_zero] at h4
  simp only [ne_eq, tmod_zero] at h
  simp [leapB, lp, h4, h]
theorem leapB_false {y : Int} (h : y.tmod 4 ≠ 0 ∨ (y.tmod 100 = 0 ∧ y.tmod 400 ≠ 0)) : false = leapB y := by
  simp only [ne_eq, tmod_zero] at h
  have h2 : ¬ lp y = 1 := by
    unfold lp
    rw [if_neg (by omega)]
    decide
  simp [leapB, h2]
theorem leap_any (y : Int) (w : World) : Calls Tryz.prog 148 #[.int .i64 y] w fun e w' => e = .returned (.bool (leapB y)) ∧ w = w' := by
  by_cases h4 : y.tmod 4 = 0
  · have a1 : (y.tmod 4 == 0) = true := by simp [h4]
    by_cases h100 : y.tmod 100 = 0
    · have a2 : (y.tmod 100 != 0) = false := by simp [h100]
      by_cases h400 : y.tmod 400 = 0
      · have a3 : (y.tmod 400 == 0) = true := by simp [h400]
        have HB := Lib.hid (leapB_true h4 (.inr h400))
        clear h4 h100 h400
        go_enter Tryz.func148, Tryz.ntmps148
        go_wp2
        go_ret
        exact ⟨ret_bool HB.out, rfl⟩
      · have a3 : (y.tmod 400 == 0) = false := by simp [h400]
        have HB := Lib.hid (leapB_false (.inr ⟨h100, h400⟩))
        clear h4 h100 h400
        go_enter Tryz.func148, Tryz.ntmps148
        go_wp2
        go_ret
        exact ⟨ret_bool HB.out, rfl⟩
    · have a2 : (y.tmod 100 != 0) = true := by simp [h100]
      have HB := Lib.hid (leapB_true h4 (.inl h100))
      clear h4 h100
      go_enter Tryz.func148, Tryz.ntmps148
      go_wp2
      go_ret
      exact ⟨ret_bool HB.out, rfl⟩
  · have a1 : (y.tmod 4 == 0) = false := by simp [h4]
    have HB := Lib.hid (leapB_false (.inl h4))
    have a3 : (y.tmod 400 == 0) = false := by
      have h5 : ¬ y.tmod 400 = 0 := by rw [tmod_zero] at h4 ⊢; omega
      simp [h5]
    clear h4
    go_enter Tryz.func148, Tryz.ntmps148
    go_wp2
    go_ret
    exact ⟨ret_bool HB.out, rfl⟩
theorem rleap_any (y : Int) (w : World) : Calls Tryz.prog 119 #[.int .i64 y] w fun e w' => e = .returned (.bool (leapB y)) ∧ w = w' := by
  by_cases h4 : y.tmod 4 = 0
  · have a1 : (y.tmod 4 == 0) = true := by simp [h4]
    by_cases h100 : y.tmod 100 = 0
    · have a2 : (y.tmod 100 != 0) = false := by simp [h100]
      by_cases h400 : y.tmod 400 = 0
      · have a3 : (y.tmod 400 == 0) = true := by simp [h400]
        have HB := Lib.hid (leapB_true h4 (.inr h400))
        clear h4 h100 h400
        go_enter Tryz.func119, Tryz.ntmps119
        go_wp2
        go_ret
        exact ⟨ret_bool HB.out, rfl⟩
      · have a3 : (y.tmod 400 == 0) = false := by simp [h400]
        have HB := Lib.hid (leapB_false (.inr ⟨h100, h400⟩))
        clear h4 h100 h400
        go_enter Tryz.func119, Tryz.ntmps119
        go_wp2
        go_ret
        exact ⟨ret_bool HB.out, rfl⟩
    · have a2 : (y.tmod 100 != 0) = true := by simp [h100]
      have HB := Lib.hid (leapB_true h4 (.inl h100))
      clear h4 h100
      go_enter Tryz.func119, Tryz.ntmps119
      go_wp2
      go_ret
      exact ⟨ret_bool HB.out, rfl⟩
  · have a1 : (y.tmod 4 == 0) = false := by simp [h4]
    have HB := Lib.hid (leapB_false (.inl h4))
    clear h4
    go_enter Tryz.func119, Tryz.ntmps119
    go_wp2
    go_ret
    exact ⟨ret_bool HB.out, rfl⟩
theorem lp_of_leap {y : Int} (h : leapB y = true) : lp y = 1 := by simpa [leapB] using h
theorem lp_of_not {y : Int} (h : leapB y = false) : lp y = 0 := by
  have := lp_01 y
  have h' : ¬ lp y = 1 := by simpa [leapB] using h
  omega
theorem valid_yes (d : Int) (w : World) (h : okDay d = true) : Calls Tryz.prog 110 #[.int .i64 d] w fun e w' => e = .returned (.bool true) ∧ w = w' := by
  obtain ⟨h1, h2⟩ := (okDay_iff d).1 h
  clear h
  go_enter Tryz.func110, Tryz.ntmps110
  go_wp2
  go_ret
  exact ⟨rfl, rfl⟩
theorem okDay_no {d : Int} (h : okDay d = false) : d < -25567 ∨ 84005 < d := by
  have : ¬ (okDay d = true) := by simp [h]
  rw [okDay_iff] at this
  omega
theorem valid_no (d : Int) (w : World) (h : okDay d = false) : Calls Tryz.prog 110 #[.int .i64 d] w fun e w' => e = .returned (.bool false) ∧ w = w' := by
  have h := okDay_no h
  by_cases h1 : d < -25567
  · clear h
    go_enter Tryz.func110, Tryz.ntmps110
    go_wp2
    go_ret
    exact ⟨rfl, rfl⟩
  · have h2 : decide (d ≤ 84005) = false := by simp; omega
    have h3 : -25567 ≤ d := by omega
    clear h h1
    go_enter Tryz.func110, Tryz.ntmps110
    go_wp2
    go_ret
    exact ⟨rfl, rfl⟩
theorem check_yes (d : Int) (w : World) (h : okDay d = true) : Calls Tryz.prog 56 #[.int .i64 d] w fun e w' => e = .returned (.int .i64 0) ∧ w = w' := by
  obtain ⟨h1, h2⟩ := (okDay_iff d).1 h
  clear h
  go_enter Tryz.func56, Tryz.ntmps56
  go_wp2
  go_ret
  exact ⟨rfl, rfl⟩
theorem check_no (d : Int) (w : World) (h : okDay d = false) : Calls Tryz.prog 56 #[.int .i64 d] w fun e w' => e = .returned (.int .i64 13) ∧ w = w' := by
  have h := okDay_no h
  by_cases h1 : d < -25567
  · clear h
    go_enter Tryz.func56, Tryz.ntmps56
    go_wp2
    go_ret
    exact ⟨rfl, rfl⟩
  · have h2 : 84005 < d := by omega
    have h3 : -25567 ≤ d := by omega
    clear h h1
    go_enter Tryz.func56, Tryz.ntmps56
    go_wp2
    go_ret
    exact ⟨rfl, rfl⟩
theorem begin_any (y : Int) (w : World) (h0 : 1900 ≤ y) (h1 : y ≤ 2200) : Calls Tryz.prog 111 #[.int .i64 y] w fun e w' => e = .returned (.int .i64 (beg y)) ∧ w = w' := by
  go_enter Tryz.func111, Tryz.ntmps111
  go_wp2
  go_ret
  exact ⟨rfl, rfl⟩
set_option maxHeartbeats 1000000 in
theorem length_any (y m : Int) (w : World) (h0 : 1 ≤ m) (h1 : m ≤ 12) : Calls Tryz.prog 112 #[.int .i64 y, .int .i64 m] w fun e w' => e = .returned (.int .i64 (len y m)) ∧ Below w.heap.size w w' := by
  rcases month_cases m h0 h1 with h | h | h | h | h | h | h | h | h | h | h | h <;> subst h <;> clear h0 h1
  · go_enter Tryz.func112, Tryz.ntmps112
    go_wp2
    go_ret
    exact ⟨rfl, (Below.refl _ _).alloc (Nat.le_refl _) _⟩
  · cases hb : leapB y
    · have HL := Lib.hid (lp_of_not hb)
      go_enter Tryz.func112, Tryz.ntmps112
      go_wp2_with (go_at_call 148; refine (leap_any _ _).mono ?_; rintro e w' ⟨rfl, rfl⟩)
      go_ret
      exact ⟨ret_int (by simp [len, HL.out]), (Below.refl _ _).alloc (Nat.le_refl _) _⟩
    · have HL := Lib.hid (lp_of_leap hb)
      go_enter Tryz.func112, Tryz.ntmps112
      go_wp2_with (go_at_call 148; refine (leap_any _ _).mono ?_; rintro e w' ⟨rfl, rfl⟩)
      go_ret
      exact ⟨ret_int (by simp [len, HL.out]), (Below.refl _ _).alloc (Nat.le_refl _) _⟩
  all_goals
    go_enter Tryz.func112, Tryz.ntmps112
    go_wp2
    go_ret
    exact ⟨rfl, (Below.refl _ _).alloc (Nat.le_refl _) _⟩
theorem rlength_any (y m : Int) (w : World) (h0 : 1 ≤ m) (h1 : m ≤ 12) : Calls Tryz.prog 120 #[.int .i64 y, .int .i64 m] w fun e w' => e = .returned (.int .i64 (len y m)) ∧ w = w' := by
  rcases month_cases m h0 h1 with h | h | h | h | h | h | h | h | h | h | h | h <;> subst h <;> clear h0 h1
  · go_enter Tryz.func120, Tryz.ntmps120
    go_wp2
    go_ret
    exact ⟨rfl, rfl⟩
  · cases hb : leapB y
    · have HL := Lib.hid (lp_of_not hb)
      go_enter Tryz.func120, Tryz.ntmps120
      go_wp2_with (go_at_call 119; refine (rleap_any _ _).mono ?_; rintro e w' ⟨rfl, rfl⟩)
      go_ret
      exact ⟨ret_int (by simp [len, HL.out]), rfl⟩
    · have HL := Lib.hid (lp_of_leap hb)
      go_enter Tryz.func120, Tryz.ntmps120
      go_wp2_with (go_at_call 119; refine (rleap_any _ _).mono ?_; rintro e w' ⟨rfl, rfl⟩)
      go_ret
      exact ⟨ret_int (by simp [len, HL.out]), rfl⟩
  all_goals
    go_enter Tryz.func120, Tryz.ntmps120
    go_wp2
    go_ret
    exact ⟨rfl, rfl⟩
end Go.Proofs.YtjcbohbpkodkoaaGreatDoor.Dat
