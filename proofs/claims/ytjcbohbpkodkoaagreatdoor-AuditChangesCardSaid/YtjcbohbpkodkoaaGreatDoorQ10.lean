/- Audit: contracts of root, Root, Leaf. -/
import Derived.Test.YtjcbohbpkodkoaaGreatDoorQ9
import Derived.Test.YtjcbohbpkodkoaaGreatDoorQ5
import Derived.Test.YtjcbohbpkodkoaaGreatDoorQ8
import Derived.Test.YtjcbohbpkodkoaaGreatDoorQ7
import Derived.Laws.EntriesVeiled
import Derived.Shelf.SlicesQ.Reverse
import Derived.StillTail
import Derived.Deep.Quiet
import Derived.Deep.QuietTactic
import Derived.BigQuiet
namespace Go.Proofs.YtjcbohbpkodkoaaGreatDoor
open Go.RowKit Go.Maps Num

/-- balances that can stand in a tree -/
def TrB (l : List Ln) : Prop := ∀ x ∈ l, SmB x ∧ can x.2.2 = x.2.2
theorem TrB.of {l : List Ln} (h : listB l = true) (hs : ∀ x ∈ l, SmB x) : TrB l := fun x hx => ⟨hs x hx, okB_can (okB_of h hx)⟩
theorem TrB.take {l : List Ln} (h : TrB l) (k : Nat) : TrB (l.take k) := fun x hx => h x (List.mem_of_mem_take hx)
theorem TrB.drop {l : List Ln} (h : TrB l) (k : Nat) : TrB (l.drop k) := fun x hx => h x (List.mem_of_mem_drop hx)
theorem TrB.root {l : List Ln} (h : TrB l) (hn : l.length ≤ 1000) : SmN (rootN sha l) := by
  have := root_len l (fun x hx => (h x hx).1.2.2) hn
  exact ⟨by omega, by omega⟩
theorem root_nl : rootN sha [] = ([], sha []) := rfl
set_option maxRecDepth 100000 in
set_option maxHeartbeats 8000000 in
theorem root1_any (bv : Nat) (m : Nat) : ∀ (A : Option Addr) (n c : Nat) (l : List Ln) (w : World), n ≤ m → n ≤ 1000 → rowB.Rds w A n c l → TrB l → Tab w → w.cell? ⟨bv, 0, none⟩ = some (.func (.func 59) #[] #[.pointer (some ⟨bv, 0, none⟩)]) →
    Calls Tryz.prog 59 #[.slice A n c, .pointer (some ⟨bv, 0, none⟩)] w (NdPost (rootN sha l) w) := by
  induction m with
  | zero =>
    intro A n c l w hm hn hl htb ht hbv
    obtain rfl : n = 0 := by omega
    obtain rfl : l = [] := List.length_eq_zero_iff.1 hl.len
    have HP := Lib.hid (show ∀ W, Below w.heap.size w W → NdPost (rootN sha []) w (.returned (.agg #[.string ⟨#[]⟩, .string ⟨(sha []).toArray⟩])) W from fun W h => ⟨rfl, h⟩)
    have HS := Lib.hid (fun W => Sha.sum_any ⟨#[]⟩ W (by decide))
    rw [show (⟨#[]⟩ : ByteArray).data.toList = ([] : List UInt8) from rfl] at HS
    have Y := Lib.hid (heap_alloc_new w (.cells #[.string ⟨#[]⟩, .string ⟨#[]⟩] 51))
    have B0 := Lib.hid ((Below.refl _ w).alloc (Nat.le_refl _) (.cells #[.string ⟨#[]⟩, .string ⟨#[]⟩] 51))
    have hlt : w.heap.size < (w.alloc (.cells #[.string ⟨#[]⟩, .string ⟨#[]⟩] 51)).heap.size := by simp
    have HL := Lib.hid hlt
    generalize hD : Sha.sha [] = D at *
    rw [show sha [] = D from hD] at HP
    clear hD hl htb ht hlt hbv
    go_enter Tryz.func59, Tryz.ntmps59
    go_wp2_with fail
    refine (HS.out _).mono ?_
    rintro e w2 ⟨rfl, hb⟩
    have B2 := Lib.hid (below_next B0.out hb ⟨rfl, rfl, rfl, rfl⟩)
    have y2 := (hb.block _ HL.out).trans Y.out
    obtain ⟨⟨z0, z1⟩, f0, f1⟩ := cells2n y2
    obtain ⟨⟨q0, q1⟩, _⟩ := cells2n (set2n y2 (.string ⟨#[]⟩) (.string ⟨D.toArray⟩))
    clear hb y2
    go_wp2_with fail
    exact bodyPost_ret (v := .agg #[.string ⟨#[]⟩, .string ⟨D.toArray⟩]) (by simp [results, Tryz.results59, go_sem, q0, q1]) rfl (HP.out _ (below_set2n B2.out (Nat.le_refl _) _ _))
  | succ m ih =>
    intro A n c l w hm hn hl htb ht hbv
    rcases Nat.lt_or_ge n 2 with h2 | h2
    · rcases Nat.eq_zero_or_pos n with h0 | h0
      · exact ih A n c l w (by omega) hn hl htb ht hbv
      · obtain rfl : n = 1 := by omega
        obtain ⟨x, rfl⟩ : ∃ x, l = [x] := List.length_eq_one_iff.1 hl.len
        obtain ⟨b1, o1, rfl, hb1, _⟩ := hl.at_ (by omega)
        have q0 := hl.cell rowB_ok ln0 0 0 _ (by omega) rfl
        have q1 := hl.cell rowB_ok ln0 0 1 _ (by omega) rfl
        have q2 := hl.cell rowB_ok ln0 0 2 _ (by omega) rfl
        obtain ⟨xa, xc, xm⟩ := x
        simp only [List.getD_cons_zero, Nat.zero_mul, Nat.add_zero] at q0 q1 q2
        have hx := htb (xa, xc, xm) (by simp)
        obtain ⟨⟨s1, s2, s3⟩, hcn⟩ := hx
        simp only at s1 s2 s3 hcn
        have HP := Lib.hid (show ∀ W, Below w.heap.size w W → NdPost (rootN sha [(xa, xc, xm)]) w (.returned (ndV (leafN sha (xa, xc, xm)))) W from fun W h => ⟨rfl, h⟩)
        have HLf := Lib.hid (fun W (h : Below w.heap.size w W) => leaf_any xa xc xm W hcn (by omega) (by omega) (by omega) (ht.below h))
        have Y := Lib.hid (heap_alloc_new w (.cells #[.string ⟨#[]⟩, .string ⟨#[]⟩] 51))
        have B0 := Lib.hid ((Below.refl _ w).alloc (Nat.le_refl _) (.cells #[.string ⟨#[]⟩, .string ⟨#[]⟩] 51))
        have HL := Lib.hid (show w.heap.size < (w.alloc (.cells #[.string ⟨#[]⟩, .string ⟨#[]⟩] 51)).heap.size by simp)
        have p0 := (B0.out.cell (p := ⟨b1, o1, none⟩) hb1).trans q0
        have p1 := (B0.out.cell (p := ⟨b1, o1 + 1, none⟩) hb1).trans q1
        have p2 := (B0.out.cell (p := ⟨b1, o1 + 2, none⟩) hb1).trans q2
        unfold NdPost ndV at HLf
        unfold ndV at HP
        generalize leafN sha (xa, xc, xm) = nd at *
        obtain ⟨n1, n2⟩ := nd
        simp only at HP HLf
        clear hl htb ht hbv q0 q1 q2 s1 s2 s3 hcn
        go_enter Tryz.func59, Tryz.ntmps59
        go_wp2_with fail
        refine (HLf.out _ B0.out).mono ?_
        rintro e w2 ⟨rfl, hb⟩
        have B2 := Lib.hid (below_next B0.out hb ⟨rfl, rfl, rfl, rfl⟩)
        have y2 := (hb.block _ HL.out).trans Y.out
        obtain ⟨⟨z0, z1⟩, f0, f1⟩ := cells2n y2
        obtain ⟨⟨q0, q1⟩, _⟩ := cells2n (set2n y2 (.string ⟨n1.toArray⟩) (.string ⟨n2.toArray⟩))
        clear hb y2 p0 p1 p2
        go_wp2_with fail
        exact bodyPost_ret (v := .agg #[.string ⟨n1.toArray⟩, .string ⟨n2.toArray⟩]) (by simp [results, Tryz.results59, go_sem, q0, q1]) rfl (HP.out _ (below_set2n B2.out (Nat.le_refl _) _ _))
    · obtain ⟨b, o, rfl, hb, _⟩ := hl.at_ (by omega)
      have hlen := hl.len
      have d0 : ((n : Int) == 0) = false := beq_eq_false_iff_ne.2 (by omega)
      have d1 : ((n : Int) == 1) = false := beq_eq_false_iff_ne.2 (by omega)
      have hk1 := cutN_pos n h2
      have hk2 := cutN_lt n h2
      have hcap := hl.cap
      have HC := Lib.hid (fun W => half_any n W (by omega))
      have hrt := root_two sha l (by omega)
      rw [hlen] at hrt
      obtain ⟨k, hk⟩ : ∃ k, k = cutN n := ⟨_, rfl⟩
      rw [← hk] at hk1 hk2 HC hrt
      have b1 : (k : Int) ≤ (c : Int) := by omega
      have b2 : (k : Int) ≤ (n : Int) := by omega
      have hne : c ≠ k := by omega
      have R1 := Lib.hid (hl.take rowB_ok k (by omega))
      have R2 := Lib.hid (hl.drop rowB_ok k (by omega))
      have L1 : (l.take k).length ≤ 1000 := by rw [List.length_take]; omega
      have L2 : (l.drop k).length ≤ 1000 := by rw [List.length_drop]; omega
      have S1 := (htb.take k).root L1
      have S2 := (htb.drop k).root L2
      have Y := Lib.hid (heap_alloc_new w (.cells #[.string ⟨#[]⟩, .string ⟨#[]⟩] 51))
      have B0 := Lib.hid ((Below.refl _ w).alloc (Nat.le_refl _) (.cells #[.string ⟨#[]⟩, .string ⟨#[]⟩] 51))
      have HL := Lib.hid (show w.heap.size < (w.alloc (.cells #[.string ⟨#[]⟩, .string ⟨#[]⟩] 51)).heap.size by simp)
      have hbl := block_lt_of_cell hbv
      have BV := Lib.hid (fun W (h : Below w.heap.size w W) => (h.cell (p := ⟨bv, 0, none⟩) hbl).trans hbv)
      have I1 := Lib.hid (fun W (h : Below w.heap.size w W) => ih (some ⟨b, o, none⟩) k c (l.take k) W (by omega) (by omega) (R1.out.below h) (htb.take k) (ht.below h) (BV.out W h))
      have I2 := Lib.hid (fun W (h : Below w.heap.size w W) => ih (some ⟨b, o + k * 3, none⟩) (n - k) (c - k) (l.drop k) W (by omega) (by omega) (R2.out.below h) (htb.drop k) (ht.below h) (BV.out W h))
      have HP := Lib.hid (show ∀ W, Below w.heap.size w W → NdPost (rootN sha l) w (.returned (ndV (overN sha (rootN sha (l.take k)) (rootN sha (l.drop k))))) W from fun W h => ⟨by rw [hrt], h⟩)
      have x0 := BV.out _ B0.out
      unfold NdPost ndV at I1 I2
      rcases hq1 : rootN sha (l.take k) with ⟨u1, u2⟩
      rcases hq2 : rootN sha (l.drop k) with ⟨v1, v2⟩
      rw [hq1] at I1 HP S1
      rw [hq2] at I2 HP S2
      have HO := Lib.hid (fun W (h : Below w.heap.size w W) => over_any u1 u2 v1 v2 W S1 S2 (ht.below h))
      unfold NdPost ndV at HO
      unfold ndV at HP
      generalize overN sha (u1, u2) (v1, v2) = nd at *
      obtain ⟨n1, n2⟩ := nd
      simp only at HP HO I1 I2
      have BB := Lib.hid (show ∀ W, Below (w.alloc (.cells #[.string ⟨#[]⟩, .string ⟨#[]⟩] 51)).heap.size (w.alloc (.cells #[.string ⟨#[]⟩, .string ⟨#[]⟩] 51)) W → Below w.heap.size w W ∧ W.heap[w.heap.size]? = some (.cells #[.string ⟨#[]⟩, .string ⟨#[]⟩] 51) from fun W h => ⟨below_next B0.out h ⟨rfl, rfl, rfl, rfl⟩, (h.block _ HL.out).trans Y.out⟩)
      have NE := Lib.hid (show bv ≠ w.heap.size from fun e => by simp only at hbl; omega)
      clear hl htb ht hbv hbl hrt hq1 hq2 S1 S2 L1 L2 R1 R2 ih hlen hcap hk Y HL
      go_enter Tryz.func59, Tryz.ntmps59
      go_wp2_with fail
      refine (HC.out _).mono ?_
      rintro e w1 ⟨rfl, rfl⟩
      go_upto_region 7 with fail
      generalize w.alloc (.cells #[.string ⟨#[]⟩, .string ⟨#[]⟩] 51) = w1 at *
      have HD := Lib.hid (Below.refl w1.heap.size w1)
      go_region_held3 (fun w' => w'.cell? ⟨bv, 0, none⟩ = some (.func (.func 59) #[] #[.pointer (some ⟨bv, 0, none⟩)]))
        (first | exact g0 | exact x0 | exact (cell_set2n NE.out _ _).trans g0 | go_keep)
        (first
          | (go_at_call 59; (first | with_reducible refine (I1.out _ (BB.out _ ?_).1).mono ?_ | with_reducible refine (I2.out _ (BB.out _ ?_).1).mono ?_); · (first | exact HD.out | exact Below.drew HD.out)
             rintro e w' ⟨rfl, hb⟩; have HD := Lib.hid (below_next HD.out hb ⟨rfl, rfl, rfl, rfl⟩); have HQ := BB.out _ HD.out; have g0 := BV.out _ HQ.1; obtain ⟨⟨h0, h1⟩, h2, h3⟩ := cells2n HQ.2; clear hb HQ)
          | (go_at_call 38; with_reducible refine (HO.out _ (BB.out _ HD.out).1).mono ?_
             rintro e w' ⟨rfl, hb⟩; have HD := Lib.hid (below_next HD.out hb ⟨rfl, rfl, rfl, rfl⟩); have HQ := BB.out _ HD.out; have g0 := BV.out _ HQ.1; obtain ⟨⟨h0, h1⟩, h2, h3⟩ := cells2n HQ.2; clear hb HQ))
      all_goals
        go_wp2_with fail
        have HQ := BB.out _ HD.out
        obtain ⟨⟨q0, q1⟩, _⟩ := cells2n (set2n HQ.2 (.string ⟨n1.toArray⟩) (.string ⟨n2.toArray⟩))
        exact bodyPost_ret (v := .agg #[.string ⟨n1.toArray⟩, .string ⟨n2.toArray⟩]) (by simp [results, Tryz.results59, go_sem, q0, q1]) rfl (HP.out _ (below_set2n HQ.1 (Nat.le_refl _) _ _))
end Go.Proofs.YtjcbohbpkodkoaaGreatDoor

/- Audit: contracts of root, Root, Leaf. -/
namespace Go.Proofs.YtjcbohbpkodkoaaGreatDoor
open Go.RowKit Go.Maps Num

set_option maxRecDepth 100000 in
set_option maxHeartbeats 4000000 in
theorem root_any (A : Option Addr) (n c : Nat) (l : List Ln) (w : World) (hn : n ≤ 1000) (hl : rowB.Rds w A n c l) (htb : TrB l) (ht : Tab w) : Calls Tryz.prog 32 #[.slice A n c] w (NdPost (rootN sha l) w) := by
  have y2 : ((w.alloc (.cells #[.string ⟨#[]⟩, .string ⟨#[]⟩] 51)).alloc (.cells #[.func (.func 59) #[] #[.pointer (some ⟨w.heap.size + 1, 0, none⟩)]] 71)).heap[w.heap.size]? = some (.cells #[.string ⟨#[]⟩, .string ⟨#[]⟩] 51) := by
    rw [heap_alloc_old _ _ (by simp)]; exact heap_alloc_new w _
  have c2 : ((w.alloc (.cells #[.string ⟨#[]⟩, .string ⟨#[]⟩] 51)).alloc (.cells #[.func (.func 59) #[] #[.pointer (some ⟨w.heap.size + 1, 0, none⟩)]] 71)).cell? ⟨w.heap.size + 1, 0, none⟩ = some (.func (.func 59) #[] #[.pointer (some ⟨w.heap.size + 1, 0, none⟩)]) := by
    have := Boxed.new (w.alloc (.cells #[.string ⟨#[]⟩, .string ⟨#[]⟩] 51)) 71 (.func (.func 59) #[] #[.pointer (some ⟨w.heap.size + 1, 0, none⟩)])
    rw [World.size_alloc] at this
    exact this.cell
  have hB1 : Below w.heap.size w ((w.alloc (.cells #[.string ⟨#[]⟩, .string ⟨#[]⟩] 51)).alloc (.cells #[.func (.func 59) #[] #[.pointer (some ⟨w.heap.size + 1, 0, none⟩)]] 71)) := ((Below.refl _ w).alloc (Nat.le_refl _) _).alloc (by simp) _
  have HP := Lib.hid (show ∀ n1 n2 W, (n1, n2) = rootN sha l → Below w.heap.size w W → NdPost (rootN sha l) w (.returned (.agg #[.string ⟨n1.toArray⟩, .string ⟨n2.toArray⟩])) W from fun n1 n2 W e h => ⟨by rw [← e]; rfl, h⟩)
  have HR := Lib.hid (root1_any (w.heap.size + 1) n A n c l _ (Nat.le_refl _) hn (hl.below hB1) htb (ht.below hB1) c2)
  have hsz : w.heap.size < ((w.alloc (.cells #[.string ⟨#[]⟩, .string ⟨#[]⟩] 51)).alloc (.cells #[.func (.func 59) #[] #[.pointer (some ⟨w.heap.size + 1, 0, none⟩)]] 71)).heap.size := by simp; omega
  have HL := Lib.hid hsz
  have Y2 := Lib.hid y2
  have B1 := Lib.hid hB1
  unfold NdPost ndV at HR
  rcases hrt : rootN sha l with ⟨n1, n2⟩
  rw [hrt] at HP HR
  simp only at HR
  have HP2 := Lib.hid (fun W h => HP.out n1 n2 W rfl h)
  clear HP hrt hB1 y2 hsz hl htb ht c2
  generalize NdPost (n1, n2) w = Post at *
  go_enter Tryz.func32, Tryz.ntmps32
  go_wp2_with fail
  refine HR.out.mono ?_
  rintro e w2 ⟨rfl, hb⟩
  have B2 := Lib.hid (below_next B1.out hb ⟨rfl, rfl, rfl, rfl⟩)
  have yy := (hb.block _ HL.out).trans Y2.out
  obtain ⟨⟨z0, z1⟩, p0, p1⟩ := cells2n yy
  obtain ⟨⟨q0, q1⟩, _⟩ := cells2n (set2n yy (.string ⟨n1.toArray⟩) (.string ⟨n2.toArray⟩))
  clear hb yy
  go_wp2_with fail
  exact bodyPost_ret (v := .agg #[.string ⟨n1.toArray⟩, .string ⟨n2.toArray⟩]) (by simp [results, Tryz.results32, go_sem, q0, q1]) rfl (HP2.out _ (below_set2n B2.out (Nat.le_refl _) _ _))
/-- what Root answers -/
def rootT (l : List Ln) : Nd := if listB l = true then rootN sha l else ([], [])
set_option maxRecDepth 100000 in
set_option maxHeartbeats 4000000 in
theorem Root_any (A : Option Addr) (n c : Nat) (l : List Ln) (w : World) (hl : rowB.Rds w A n c l) (hs : ∀ x ∈ l, SmB x) (hn : n ≤ 1000) (ht : Tab w) (hM : ML w) :
    Calls Tryz.prog 18 #[.slice A n c] w (NdC (rootT l) (lisI l) w) := by
  have HK := Lib.hid (fun W (h : Below w.heap.size w W) => check_any A n c l W (hl.below h) hs hn (ht.below h) (hM.below h))
  have Y := Lib.hid (heap_alloc_new w (.cells #[.string ⟨#[]⟩, .string ⟨#[]⟩] 51))
  have B0 := Lib.hid ((Below.refl _ w).alloc (Nat.le_refl _) (.cells #[.string ⟨#[]⟩, .string ⟨#[]⟩] 51))
  have HL := Lib.hid (show w.heap.size < (w.alloc (.cells #[.string ⟨#[]⟩, .string ⟨#[]⟩] 51)).heap.size by simp)
  unfold IntPost at HK
  cases hb : listB l
  · have e0 : lisI l = 1 := by unfold lisI; rw [hb]; rfl
    have e1 : rootT l = ([], []) := by unfold rootT; rw [hb]; rfl
    have HP := Lib.hid (show ∀ W, Below w.heap.size w W → NdC (rootT l) (lisI l) w (.returned (.tuple #[.agg #[.string ⟨#[]⟩, .string ⟨#[]⟩], .int .i64 1])) W from fun W h => ⟨by rw [e0, e1]; rfl, h⟩)
    rw [e0] at HK HP
    rw [e0]
    clear hb e0 e1 hl hs ht hM
    generalize NdC (rootT l) 1 w = Post at *
    go_enter Tryz.func18, Tryz.ntmps18
    go_wp2_with fail
    refine (HK.out _ B0.out).mono ?_
    rintro e w2 ⟨rfl, hb⟩
    have B2 := Lib.hid (below_next B0.out hb ⟨rfl, rfl, rfl, rfl⟩)
    have yy := (hb.block _ HL.out).trans Y.out
    obtain ⟨⟨z0, z1⟩, p0, p1⟩ := cells2n yy
    obtain ⟨⟨q0, q1⟩, _⟩ := cells2n (set2n yy (.string ⟨#[]⟩) (.string ⟨#[]⟩))
    clear hb yy
    go_wp2_with fail
    exact bodyPost_ret (v := .tuple #[.agg #[.string ⟨#[]⟩, .string ⟨#[]⟩], .int .i64 1]) (by simp [results, Tryz.results18, go_sem, q0, q1]) rfl (HP.out _ (below_set2n B2.out (Nat.le_refl _) _ _))
  · have e0 : lisI l = 0 := by unfold lisI; rw [hb]; rfl
    have e1 : rootT l = rootN sha l := by unfold rootT; rw [hb]; rfl
    have HP := Lib.hid (show ∀ n1 n2 W, rootN sha l = (n1, n2) → Below w.heap.size w W → NdC (rootT l) (lisI l) w (.returned (.tuple #[.agg #[.string ⟨n1.toArray⟩, .string ⟨n2.toArray⟩], .int .i64 0])) W from fun n1 n2 W e h => ⟨by rw [e0, e1, e]; rfl, h⟩)
    have HR := Lib.hid (fun W (h : Below w.heap.size w W) => root_any A n c l W hn (hl.below h) (TrB.of hb hs) (ht.below h))
    rw [e0] at HK HP
    rw [e0]
    unfold NdPost ndV at HR
    rcases hrt : rootN sha l with ⟨n1, n2⟩
    rw [hrt] at HR
    have HP2 := Lib.hid (fun W h => HP.out n1 n2 W hrt h)
    simp only at HR
    clear hb e0 e1 hl hs ht hM hrt HP
    generalize NdC (rootT l) 0 w = Post at *
    go_enter Tryz.func18, Tryz.ntmps18
    go_wp2_with fail
    refine (HK.out _ B0.out).mono ?_
    rintro e w2 ⟨rfl, hb⟩
    have B2 := Lib.hid (below_next B0.out hb ⟨rfl, rfl, rfl, rfl⟩)
    have Y2 := Lib.hid ((hb.block _ HL.out).trans Y.out)
    have L2 := Lib.hid (Nat.lt_of_lt_of_le HL.out hb.size)
    clear hb
    go_wp2_with fail
    refine (HR.out _ B2.out).mono ?_
    rintro e w3 ⟨rfl, hb⟩
    have B3 := Lib.hid (below_next B2.out hb ⟨rfl, rfl, rfl, rfl⟩)
    have yy := (hb.block _ L2.out).trans Y2.out
    obtain ⟨⟨z0, z1⟩, p0, p1⟩ := cells2n yy
    obtain ⟨⟨q0, q1⟩, _⟩ := cells2n (set2n yy (.string ⟨n1.toArray⟩) (.string ⟨n2.toArray⟩))
    clear hb yy
    go_wp2_with fail
    exact bodyPost_ret (v := .tuple #[.agg #[.string ⟨n1.toArray⟩, .string ⟨n2.toArray⟩], .int .i64 0]) (by simp [results, Tryz.results18, go_sem, q0, q1]) rfl (HP2.out _ (below_set2n B3.out (Nat.le_refl _) _ _))
/-- what Leaf answers -/
def leafC (b : Ln) : Nd := if listB [b] = true then leafN sha b else ([], [])
set_option maxRecDepth 100000 in
set_option maxHeartbeats 4000000 in
theorem Leaf_any (a cu m : List UInt8) (w : World) (hs : SmB (a, cu, m)) (ht : Tab w) (hM : ML w) :
    Calls Tryz.prog 20 #[.agg #[.string ⟨a.toArray⟩, .string ⟨cu.toArray⟩, .string ⟨m.toArray⟩]] w (NdC (leafC (a, cu, m)) (lisI [(a, cu, m)]) w) := by
  have y0 : ((w.alloc (.cells #[.string ⟨a.toArray⟩, .string ⟨cu.toArray⟩, .string ⟨m.toArray⟩] 48)).alloc (.cells #[.string ⟨#[]⟩, .string ⟨#[]⟩] 51)).heap[w.heap.size]? = some (.cells #[.string ⟨a.toArray⟩, .string ⟨cu.toArray⟩, .string ⟨m.toArray⟩] 48) := by
    rw [heap_alloc_old _ _ (by simp)]; exact heap_alloc_new w _
  have y1 : ((w.alloc (.cells #[.string ⟨a.toArray⟩, .string ⟨cu.toArray⟩, .string ⟨m.toArray⟩] 48)).alloc (.cells #[.string ⟨#[]⟩, .string ⟨#[]⟩] 51)).heap[w.heap.size + 1]? = some (.cells #[.string ⟨#[]⟩, .string ⟨#[]⟩] 51) := by
    have := heap_alloc_new (w.alloc (.cells #[.string ⟨a.toArray⟩, .string ⟨cu.toArray⟩, .string ⟨m.toArray⟩] 48)) (.cells #[.string ⟨#[]⟩, .string ⟨#[]⟩] 51)
    rwa [World.size_alloc] at this
  have hB0 : Below w.heap.size w ((w.alloc (.cells #[.string ⟨a.toArray⟩, .string ⟨cu.toArray⟩, .string ⟨m.toArray⟩] 48)).alloc (.cells #[.string ⟨#[]⟩, .string ⟨#[]⟩] 51)) := ((Below.refl _ w).alloc (Nat.le_refl _) _).alloc (by simp) _
  have hsz : ((w.alloc (.cells #[.string ⟨a.toArray⟩, .string ⟨cu.toArray⟩, .string ⟨m.toArray⟩] 48)).alloc (.cells #[.string ⟨#[]⟩, .string ⟨#[]⟩] 51)).heap.size = w.heap.size + 1 + 1 := by simp
  obtain ⟨⟨x0, x1, x2⟩, _⟩ := cells3 y0
  generalize hwA : (w.alloc (.cells #[.string ⟨a.toArray⟩, .string ⟨cu.toArray⟩, .string ⟨m.toArray⟩] 48)).alloc (.cells #[.string ⟨#[]⟩, .string ⟨#[]⟩] 51) = wA at *
  have hB1 : Below w.heap.size w (wA.alloc (.cells #[.string ⟨a.toArray⟩, .string ⟨cu.toArray⟩, .string ⟨m.toArray⟩] 48)) := hB0.alloc hB0.size _
  have hrd : rowB.Rds (wA.alloc (.cells #[.string ⟨a.toArray⟩, .string ⟨cu.toArray⟩, .string ⟨m.toArray⟩] 48)) (some ⟨w.heap.size + 1 + 1, 0, none⟩) 1 1 [(a, cu, m)] := by
    have := Row.rds_one rowB_ok wA (a, cu, m) 48
    rw [hsz] at this
    exact this
  have HK := Lib.hid (check_any (some ⟨w.heap.size + 1 + 1, 0, none⟩) 1 1 [(a, cu, m)] _ hrd (fun x hx => by rw [List.mem_singleton.1 hx]; exact hs) (by omega) (ht.below hB1) (hM.below hB1))
  have B1 := Lib.hid hB1
  have HLS := Lib.hid (show ∀ W, Below (wA.alloc (.cells #[.string ⟨a.toArray⟩, .string ⟨cu.toArray⟩, .string ⟨m.toArray⟩] 48)).heap.size (wA.alloc (.cells #[.string ⟨a.toArray⟩, .string ⟨cu.toArray⟩, .string ⟨m.toArray⟩] 48)) W → W.heap[w.heap.size]? = some (.cells #[.string ⟨a.toArray⟩, .string ⟨cu.toArray⟩, .string ⟨m.toArray⟩] 48) ∧ W.heap[w.heap.size + 1]? = some (.cells #[.string ⟨#[]⟩, .string ⟨#[]⟩] 51) from fun W h => by
    rw [h.block _ (by simp; omega), h.block _ (by simp; omega), heap_alloc_old _ _ (by omega), heap_alloc_old _ _ (by omega)]
    exact ⟨y0, y1⟩)
  unfold IntPost at HK
  subst hwA
  cases hb : listB [(a, cu, m)]
  · have e0 : lisI [(a, cu, m)] = 1 := by unfold lisI; rw [hb]; rfl
    have e1 : leafC (a, cu, m) = ([], []) := by unfold leafC; rw [hb]; rfl
    have HP := Lib.hid (show ∀ W, Below w.heap.size w W → NdC (leafC (a, cu, m)) (lisI [(a, cu, m)]) w (.returned (.tuple #[.agg #[.string ⟨#[]⟩, .string ⟨#[]⟩], .int .i64 1])) W from fun W h => ⟨by rw [e0, e1]; rfl, h⟩)
    rw [e0] at HK HP
    rw [e0]
    clear hb e0 e1 hs ht hM hrd hB1 hB0 hsz y0 y1
    generalize NdC (leafC (a, cu, m)) 1 w = Post at *
    go_enter Tryz.func20, Tryz.ntmps20
    go_wp2_with fail
    refine HK.out.mono ?_
    rintro e w2 ⟨rfl, hb⟩
    have B2 := Lib.hid (below_next B1.out hb ⟨rfl, rfl, rfl, rfl⟩)
    have yy := (HLS.out _ hb).2
    obtain ⟨⟨z0, z1⟩, p0, p1⟩ := cells2n yy
    obtain ⟨⟨q0, q1⟩, _⟩ := cells2n (set2n yy (.string ⟨#[]⟩) (.string ⟨#[]⟩))
    clear hb yy
    go_wp2_with fail
    exact bodyPost_ret (v := .tuple #[.agg #[.string ⟨#[]⟩, .string ⟨#[]⟩], .int .i64 1]) (by simp [results, Tryz.results20, go_sem, q0, q1]) rfl (HP.out _ (below_set2n B2.out (by omega) _ _))
  · have e0 : lisI [(a, cu, m)] = 0 := by unfold lisI; rw [hb]; rfl
    have e1 : leafC (a, cu, m) = leafN sha (a, cu, m) := by unfold leafC; rw [hb]; rfl
    have HP := Lib.hid (show ∀ n1 n2 W, leafN sha (a, cu, m) = (n1, n2) → Below w.heap.size w W → NdC (leafC (a, cu, m)) (lisI [(a, cu, m)]) w (.returned (.tuple #[.agg #[.string ⟨n1.toArray⟩, .string ⟨n2.toArray⟩], .int .i64 0])) W from fun n1 n2 W e h => ⟨by rw [e0, e1, e]; rfl, h⟩)
    have hcn := okB_can (okB_one.1 hb)
    have HR := Lib.hid (fun W (h : Below w.heap.size w W) => leaf_any a cu m W hcn (by have := hs.1; simp only at this; omega) (by have := hs.2.1; simp only at this; omega) (by have := hs.2.2; simp only at this; omega) (ht.below h))
    rw [e0] at HK HP
    rw [e0]
    unfold NdPost ndV at HR
    rcases hrt : leafN sha (a, cu, m) with ⟨n1, n2⟩
    rw [hrt] at HR
    have HP2 := Lib.hid (fun W h => HP.out n1 n2 W hrt h)
    simp only at HR
    clear hb e0 e1 hs ht hM hrd hB1 hB0 hsz y0 y1 hrt HP hcn
    generalize NdC (leafC (a, cu, m)) 0 w = Post at *
    go_enter Tryz.func20, Tryz.ntmps20
    go_wp2_with fail
    refine HK.out.mono ?_
    rintro e w2 ⟨rfl, hb⟩
    have B2 := Lib.hid (below_next B1.out hb ⟨rfl, rfl, rfl, rfl⟩)
    obtain ⟨hq0, hq1⟩ := HLS.out _ hb
    obtain ⟨⟨g0, g1, g2⟩, _⟩ := cells3 hq0
    have Y2 := Lib.hid hq1
    have L2 := Lib.hid (show w.heap.size + 1 < w2.heap.size from (Array.getElem?_eq_some_iff.1 hq1).1)
    clear hb hq0 hq1
    go_wp2_with fail
    refine (HR.out _ B2.out).mono ?_
    rintro e w3 ⟨rfl, hb⟩
    have B3 := Lib.hid (below_next B2.out hb ⟨rfl, rfl, rfl, rfl⟩)
    have yy := (hb.block _ L2.out).trans Y2.out
    obtain ⟨⟨z0, z1⟩, p0, p1⟩ := cells2n yy
    obtain ⟨⟨q0, q1⟩, _⟩ := cells2n (set2n yy (.string ⟨n1.toArray⟩) (.string ⟨n2.toArray⟩))
    clear hb yy
    go_wp2_with fail
    exact bodyPost_ret (v := .tuple #[.agg #[.string ⟨n1.toArray⟩, .string ⟨n2.toArray⟩], .int .i64 0]) (by simp [results, Tryz.results20, go_sem, q0, q1]) rfl (HP2.out _ (below_set2n B3.out (by omega) _ _))
end Go.Proofs.YtjcbohbpkodkoaaGreatDoor

/- Audit: contracts of parts, its iterator, slices.AppendSeq, Collect at parts. -/
namespace Go.Proofs.YtjcbohbpkodkoaaGreatDoor
open Go.RowKit Go.Maps Go.Shelf Num
attribute [local go_sem] Oper.semAt_some

abbrev Pt := Nat × Nat × Bool
def encP (x : Pt) : List Value := [.int .i64 (x.1 : Int), .int .i64 (x.2.1 : Int), .bool x.2.2]
/-- rows of parts -/
abbrev rowP : Row Pt := ⟨72, 75, .agg #[.int .i64 0, .int .i64 0, .bool false], 3, 24, encP⟩
theorem rowP_ok : rowP.Ok where
  hS := Tryz.underlying72
  info := by kernel_rfl
  zc := rfl
  k0 := by decide
  b1 := by decide
  hk _ := rfl
  h1 x v hv := by
    simp only [encP, List.mem_cons, List.not_mem_nil, or_false] at hv
    rcases hv with rfl | rfl | rfl <;> rfl
/-- the lower blocks are kept -/
def KpB (B : Nat) (W W' : World) : Prop := ∀ k, k < B → W'.heap[k]? = W.heap[k]?
theorem KpB.trans {B : Nat} {A C D : World} (h : KpB B A C) (k : KpB B C D) : KpB B A D := fun i hi => (k i hi).trans (h i hi)
theorem KpB.boxed {B b t : Nat} {v : Value} {W W' : World} (h : KpB B W W') (hb : b < B) (hx : Boxed W b t v) : Boxed W' b t v := (h b hb).trans hx
theorem partsN_len (i n : Nat) : (partsN i n).length ≤ n := by
  have key : ∀ f a b, b - a ≤ f → (partsF f i a b).length ≤ b - a := by
    intro f
    induction f with
    | zero => intro a b h; rw [partsF]; simp
    | succ f ih =>
      intro a b h
      rw [partsF]
      split
      · simp
      have h2 : 2 ≤ b - a := by omega
      have h3 := cutN_pos _ h2
      have h4 := cutN_lt _ h2
      split
      · have := ih a (a + cutN (b - a)) (by omega)
        rw [List.length_cons]; omega
      · have := ih (a + cutN (b - a)) b (by omega)
        rw [List.length_cons]; omega
  have := key n 0 n (by omega)
  unfold partsN
  omega
set_option maxRecDepth 100000 in
set_option maxHeartbeats 4000000 in
theorem parts_in (d : Nat) (hd : 1 ≤ d) (l bi bn i n B0 : Nat) (hbi : bi < B0) (hn : n ≤ 100000) (_hi : i ≤ 100000) (J Jx : List Pt → World → Prop)
    (hY : ∀ pre x W, J pre W → pre.length < n → YieldAt Fence.wide (d - 1) Tryz.prog l #[.agg (encP x).toArray] W fun e W' =>
      (e = .returned (.bool true) ∧ J (pre ++ [x]) W' ∧ KpB B0 W W') ∨ (e = .returned (.bool false) ∧ Jx (pre ++ [x]) W'))
    (W : World) (hJ : AbidesFrom W.heap.size J) (hBi : Boxed W bi 3 (.int .i64 (i : Int))) (hBn : Boxed W bn 3 (.int .i64 (n : Int))) (h0 : J [] W) :
    CallsIn Fence.wide d Tryz.prog 99 #[.func (.yield l) #[] #[], .pointer (some ⟨bn, 0, none⟩), .pointer (some ⟨bi, 0, none⟩)] W fun e W' => (∃ v, e = .returned v) ∧ ((∃ ss : List Pt, ss = partsN i n ∧ J ss W') ∨ (∃ pre : List Pt, True ∧ Jx pre W')) := by
  have c1 := hBn.cell
  have HI := Lib.hid hBi
  have HN := Lib.hid (partsN_len i n)
  have hJd : ∀ k, J [] (W.drewN k) := fun k => hJ [] W _ none h0 ⟨rfl, rfl, rfl, Nat.le_refl _, fun _ _ _ => rfl⟩ (fun r e => by cases e)
  have HJ := Lib.hid hJd
  clear hBi hBn h0 hJd hJ
  refine callsIn_of_wp Tryz.func99 rfl trivial ?_ rfl
  simp only [Tryz.ntmps99, List.size_toArray, List.length_cons, List.length_nil, Nat.reduceAdd, Nat.reduceSub, Array.replicate_succ, Array.replicate_zero, List.push_toArray, List.append_toArray, List.nil_append, List.cons_append]
  gi_wp2
  gi_quiet (fail)
  gi_wp2
  have R0 := Lib.hid (show partsF n i 0 n = partsN i n from rfl)
  gi_loopw [4, 5] (fun u v wr => ∃ (f a b : Nat) (pre : List Pt), u = .int .i64 (a : Int) ∧ v = .int .i64 (b : Int) ∧ a ≤ b ∧ b ≤ n ∧ b - a ≤ f ∧ Hid (pre ++ partsF f i a b = partsN i n) ∧ J pre wr ∧ Hid (Boxed wr bi 3 (.int .i64 (i : Int))))
    (fun u v _ => (intOf v - intOf u).toNat)
  case atStart => exact ⟨n, 0, n, [], rfl, rfl, by omega, by omega, by omega, Lib.hid (by rw [List.nil_append]; exact R0.out), HJ.out _, Lib.hid HI.out⟩
  case round =>
    clear R0 HI HJ
    obtain ⟨f, a, b, pre, rfl, rfl, hab, hbn, hf, hp, hj, hx⟩ := hrel
    obtain ⟨z, hz⟩ : ∃ z : Nat, z = b - a := ⟨_, rfl⟩
    have w1 : IntKind.i64.wrap ((b : Int) - (a : Int)) = (z : Int) := by rw [IntWalk.i64_in _ (by omega)]; omega
    by_cases hlt : 2 ≤ b - a
    · have h3 := cutN_pos _ hlt
      have h4 := cutN_lt _ hlt
      have hz1 : (1 : Int) < (z : Int) := by omega
      obtain ⟨f, rfl⟩ : ∃ f', f = f' + 1 := ⟨f - 1, by omega⟩
      have hp2 := hp.out
      rw [partsF, if_neg (by omega)] at hp2
      have HC := Lib.hid (half_any z · (by omega))
      rw [hz] at HC
      obtain ⟨k, hk⟩ : ∃ k, k = cutN (b - a) := ⟨_, rfl⟩
      rw [← hk] at HC h3 h4 hp2
      rw [← hz] at HC
      unfold RetP at HC
      obtain ⟨m, hm⟩ : ∃ m, m = a + k := ⟨_, rfl⟩
      have w2 : IntKind.i64.wrap ((a : Int) + (k : Int)) = (m : Int) := by rw [IntWalk.i64_in _ (by omega)]; omega
      rw [← hm] at hp2
      have ham : a < m := by omega
      have hmb : m < b := by omega
      clear hm hk hz h3 h4
      have c2 := hx.out.cell
      by_cases him : i < m
      · rw [if_pos him] at hp2
        have hi2 : (i : Int) < (m : Int) := by omega
        have hlen : pre.length < n := by
          have := congrArg List.length hp2
          rw [List.length_append, List.length_cons] at this
          have := HN.out
          omega
        obtain ⟨fn, tmps, assign, body, hy, hR⟩ := hY pre (m, b, true) wr hj hlen
        have HP := Lib.hid (show (pre ++ [(m, b, true)]) ++ partsF f i a m = partsN i n by rw [List.append_assoc]; exact hp2)
        clear hp hp2 hj
        simp only [encP] at *
        gi_wp2
        refine ⟨trivial, ?_⟩
        refine (callsIn_wide.2 (HC.out _)).mono ?_
        rintro e W2 ⟨rfl, rfl⟩
        gi_wp2
        refine hR.mono ?_
        rintro e W3 (⟨rfl, hJ3, hk3⟩ | ⟨rfl, hJx3⟩)
        · gi_wp2
          go_roundw
          case rel => exact ⟨f, a, m, pre ++ [(m, b, true)], rfl, rfl, by omega, by omega, by omega, HP, hJ3, Lib.hid (hk3.boxed hbi hx.out)⟩
          case measure => simp [intOf]; omega
        · gi_wp2
          refine bodyPost_ret (results_none rfl _ _ _) rfl ?_
          exact ⟨⟨_, rfl⟩, .inr ⟨_, trivial, hJx3⟩⟩
      · rw [if_neg him] at hp2
        have hi2 : ¬ (i : Int) < (m : Int) := by omega
        have hlen : pre.length < n := by
          have := congrArg List.length hp2
          rw [List.length_append, List.length_cons] at this
          have := HN.out
          omega
        obtain ⟨fn, tmps, assign, body, hy, hR⟩ := hY pre (a, m, false) wr hj hlen
        have HP := Lib.hid (show (pre ++ [(a, m, false)]) ++ partsF f i m b = partsN i n by rw [List.append_assoc]; exact hp2)
        clear hp hp2 hj
        simp only [encP] at *
        gi_wp2
        refine ⟨trivial, ?_⟩
        refine (callsIn_wide.2 (HC.out _)).mono ?_
        rintro e W2 ⟨rfl, rfl⟩
        gi_wp2
        refine hR.mono ?_
        rintro e W3 (⟨rfl, hJ3, hk3⟩ | ⟨rfl, hJx3⟩)
        · gi_wp2
          go_roundw
          case rel => exact ⟨f, m, b, pre ++ [(a, m, false)], rfl, rfl, by omega, by omega, by omega, HP, hJ3, Lib.hid (hk3.boxed hbi hx.out)⟩
          case measure => simp [intOf]; omega
        · gi_wp2
          refine bodyPost_ret (results_none rfl _ _ _) rfl ?_
          exact ⟨⟨_, rfl⟩, .inr ⟨_, trivial, hJx3⟩⟩
    · have hz1 : ¬ (1 : Int) < (z : Int) := by omega
      have hp2 := hp.out
      have e : partsF f i a b = [] := by
        cases f with
        | zero => rfl
        | succ f => rw [partsF, if_pos (by omega)]
      rw [e, List.append_nil] at hp2
      clear hp hz
      gi_wp2
      go_end0
      exact ⟨⟨_, rfl⟩, .inl (hp2 ▸ hj)⟩
theorem parts_stops (d : Nat) (hd : 1 ≤ d) (bi bn i n : Nat) (hn : n ≤ 100000) (hi : i ≤ 100000) (w : World) (hBi : Boxed w bi 3 (.int .i64 (i : Int))) (hBn : Boxed w bn 3 (.int .i64 (n : Int))) :
    SeqStopsK Fence.wide d Tryz.prog 99 #[.pointer (some ⟨bn, 0, none⟩), .pointer (some ⟨bi, 0, none⟩)] (fun x : Pt => #[Value.agg (encP x).toArray]) (KpB w.heap.size) (fun ss => ss = partsN i n) (fun _ => True) n w := fun l J Jx W hW hJ _ hY h0 =>
  parts_in d hd l bi bn i n w.heap.size hBi.lt hn hi J Jx hY W hJ ((hW.block _ hBi.lt).trans hBi) ((hW.block _ hBn.lt).trans hBn) h0
theorem parts_any (i n : Nat) (w : World) : Calls Tryz.prog 62 #[.int .i64 (i : Int), .int .i64 (n : Int)] w fun e w' => e = .returned (.func (.func 99) #[] #[.pointer (some ⟨w.heap.size + 1, 0, none⟩), .pointer (some ⟨w.heap.size, 0, none⟩)]) ∧ w' = (w.alloc (.cells #[.int .i64 (i : Int)] 3)).alloc (.cells #[.int .i64 (n : Int)] 3) := by
  go_enter Tryz.func62, Tryz.ntmps62
  go_wp2
  go_ret
  exact ⟨rfl, rfl⟩
/-- what the collecting loop keeps: the slice in its box -/
structure CpI (w : World) (pre : List Pt) (W : World) : Prop where
  box : ∃ v, Boxed W w.heap.size 72 v ∧ rowP.Own w.heap.size W v pre
  bel : Below w.heap.size w W
theorem CpI.own (w : World) (B : Nat) (hB : w.heap.size < B) : OwnFrom B (CpI w) := fun s A C row hs hg hr => by
  obtain ⟨v, hb, ho⟩ := hs.box
  refine ⟨⟨v, hb.kept hg (fun e => ?_), ho.kept' hg (own_ne ho fun r e => (hr r e).2)⟩, hs.bel.grown hg hs.bel.size (fun k e => by have := (hr k e).1; omega)⟩
  obtain ⟨o, h1, h2⟩ := (hr _ e.symm).2
  have h3 : A.heap[w.heap.size]? = some (.cells #[v] 72 (0, 0)) := hb
  rw [h3] at h1; cases h1; cases h2
/-- the round's variable lies in a block of its own -/
def CpA (w : World) (tm : Value → Value → Array Value) (x : Pt) (a : Act) (W : World) : Prop :=
  ∃ b, w.heap.size < b ∧ W.heap[b]? = some (.cells (encP x).toArray 75 (0, 0)) ∧ a = { tmps := tm (.pointer (some ⟨b, 0, none⟩)) (.agg (encP x).toArray), defers := [] }
theorem CpA.own (w : World) (tm : Value → Value → Array Value) (x : Pt) (a : Act) (B : Nat) : OwnFrom B (fun (_ : Unit) W => CpA w tm x a W) := fun s A C row hs hg hr => by
  obtain ⟨b, h1, h2, h3⟩ := hs
  refine ⟨b, h1, ?_, h3⟩
  rw [hg.block b (Array.getElem?_eq_some_iff.1 h2).1 (fun e => ?_)]
  · exact h2
  · obtain ⟨o, h4, h5⟩ := (hr _ e.symm).2
    rw [h2] at h4; cases h4; cases h5
set_option maxRecDepth 100000 in
set_option maxHeartbeats 4000000 in
theorem appSeqP_in (d : Nat) (hd : 3 ≤ d) (gf : Nat) (lb : Array Value) (S : List Pt → Prop) (N : Nat) (hN : N ≤ 100000) (w : World) (eg : ∀ args w, (callFunc gf args).run Tryz.prog w = .ok (.enter gf args) w)
    (hseq : SeqStopsK Fence.wide (d - 1) Tryz.prog gf lb (fun x : Pt => #[Value.agg (encP x).toArray]) (KpB w.heap.size) S (fun _ => True) N w) (_hS : ∀ ss, S ss → ss.length ≤ N) :
    CallsIn Fence.wide d Tryz.prog 98 #[.slice none 0 0, .func (.func gf) #[] lb] w fun e w' => ∃ v ss, e = .returned v ∧ S ss ∧ rowP.Own w.heap.size w' v ss ∧ Below w.heap.size w w' := by
  refine callsIn_of_wp_marks Tryz.func98 rfl trivial ?_ rfl
  simp only [Tryz.ntmps98, List.size_toArray, List.length_cons, List.length_nil, Nat.reduceAdd, Nat.reduceSub, Array.replicate_succ, Array.replicate_zero, List.push_toArray, List.append_toArray, List.nil_append, List.cons_append]
  gi_wp2
  have hb0 : Below w.heap.size w (w.alloc (.cells #[.slice none 0 0] 72)) := (Below.refl _ w).alloc (Nat.le_refl _) _
  refine wpIn_rangeFunc_ownH rfl (by omega) (gf := gf) (lb := lb) rfl trivial eg hseq (fun h k => h.trans k) (fun W l o o' hl _ _ _ => fun k hk => World.putObj_heap_other (by simp at hl; omega)) hb0 (fun _ => rfl)
    (CpI w) (fun _ _ _ => False) (CpI.own w _ (by simp)) (fun _ _ _ _ _ hs _ _ => hs) ⟨⟨_, Boxed.new w 72 (.slice none 0 0), Row.Own.nil _ _⟩, hb0⟩
    (CpA w (fun p v => #[.slice none 0 0, .func (.func gf) #[] lb, .pointer (some ⟨w.heap.size, 0, none⟩), undef, .slice none 0 0, p, .func (.func gf) #[] lb, v, undef, undef, undef, undef, undef])) (fun x a' => CpA.own w _ x a' _) ?assign ?body ?done ?stop
  case assign =>
    intro l pre x W K hI hK
    obtain ⟨xa, xb, xs⟩ := x
    simp only [encP] at *
    gi_wp2
    obtain ⟨v, hv, ho⟩ := hI.box
    have hlt := hv.lt
    have hB := hI.bel
    exact hK _ _ ((KeepsOthers.alloc _ _).from _) (fun k hk => heap_alloc_old _ _ (by omega)) ⟨⟨v, hv.alloc _, ho.alloc _⟩, hB.alloc hB.size _⟩ ⟨W.heap.size, hlt, World.alloc_heap_new W _, rfl⟩
  case body =>
    rintro l pre x a' W hl ⟨r, hr⟩ hI ⟨bx, hbx1, hbx2, rfl⟩ hlen
    obtain ⟨v, hv, ho⟩ := hI.box
    have HB := Lib.hid hI.bel
    have HO := Lib.hid ho
    have HV := Lib.hid hv
    have hc := hv.cell
    have hf := hv.frozen
    have hlt := hv.lt
    obtain ⟨xa, xb, xs⟩ := x
    simp only [encP] at *
    have c0 : W.cell? ⟨bx, 0, none⟩ = some (.int .i64 (xa : Int)) := by rw [cell_of_row _ _ _ _ _ _ hbx2]; rfl
    have c1 : W.cell? ⟨bx, 1, none⟩ = some (.int .i64 (xb : Int)) := by rw [cell_of_row _ _ _ _ _ _ hbx2]; rfl
    have c2 : W.cell? ⟨bx, 2, none⟩ = some (.bool xs) := by rw [cell_of_row _ _ _ _ _ _ hbx2]; rfl
    clear hI hv ho hbx2
    gi_wp2_with (first
      | (gi_at_builtin; refine wpIn_append1 rowP_ok rfl (.tmp 8) (.tmp 10) rfl w.heap.size _ pre W (xa, xb, xs) _ _ rfl rfl rfl HO.out rfl HB.out.size (by omega) ?_; intro v1 w5 ho5 hg5; obtain ⟨A5, c5, rfl⟩ := ho5.slice; obtain ⟨k1, k2, k3, k4, k5⟩ := HV.out.appended (by decide) HO.out HB.out.size (Nat.le_refl _) ho5 hg5; have hc5 := k1.cell; have hf5 := k1.frozen)
      | gi_in)
    have e : (pre ++ [(xa, xb, xs)]).length = pre.length + 1 := by simp
    rw [e] at k2 k3 k4 k5
    have o3 : rowP.Own w.heap.size (w5.setCell ⟨w.heap.size, 0, none⟩ (.slice A5 (pre.length + 1) c5)) (.slice A5 (pre.length + 1) c5) (pre ++ [(xa, xb, xs)]) := by unfold Row.Own; rw [e]; exact k3
    exact ⟨k4.from _, fun k hk => k5.block k hk, ⟨⟨_, k2, o3⟩, HB.out.trans k5⟩⟩
  case done =>
    rintro D ys W hD hys hI hK
    obtain ⟨v, hv, ho⟩ := hI.box
    have hB := Lib.hid hI.bel
    have c0 := hv.cell
    have hD2 : w.heap.size < D := by simp at hD; omega
    have HO := Lib.hid (ho.kept' (grownBy_putObj' W D (.deferred none)) (own_ne ho fun r e => by cases e; exact ⟨_, hK, rfl⟩))
    clear hv ho hI
    gi_wp2
    refine ⟨by simp, .inl ⟨_, _, rfl, run_takeDeferred hK, ?_⟩⟩
    exact ⟨_, results_tmp rfl _ _ _, v, ys, rfl, hys, HO.out, hB.out.trans (belowK_b (w := w) (Nat.le_refl _) W D _ _ (by omega) hK rfl rfl)⟩
  case stop =>
    rintro D c pre W _ _ h _
    exact h.elim
set_option maxRecDepth 100000 in
theorem collectP_in (d : Nat) (hd : 4 ≤ d) (gf : Nat) (lb : Array Value) (S : List Pt → Prop) (N : Nat) (hN : N ≤ 100000) (w : World) (eg : ∀ args w, (callFunc gf args).run Tryz.prog w = .ok (.enter gf args) w)
    (hseq : SeqStopsK Fence.wide (d - 1 - 1) Tryz.prog gf lb (fun x : Pt => #[Value.agg (encP x).toArray]) (KpB w.heap.size) S (fun _ => True) N w) (hS : ∀ ss, S ss → ss.length ≤ N) :
    CallsIn Fence.wide d Tryz.prog 61 #[.func (.func gf) #[] lb] w fun e w' => ∃ v ss, e = .returned v ∧ S ss ∧ rowP.Own w.heap.size w' v ss ∧ Below w.heap.size w w' := by
  have HA := Lib.hid (appSeqP_in (d - 1) (by omega) gf lb S N hN w eg hseq hS)
  clear hseq
  refine callsIn_of_wp Tryz.func61 rfl trivial ?_ rfl
  simp only [Tryz.ntmps61, List.size_toArray, List.length_cons, List.length_nil, Nat.reduceAdd, Nat.reduceSub, Array.replicate_succ, Array.replicate_zero, List.push_toArray, List.append_toArray, List.nil_append, List.cons_append]
  gi_wp2_with (refine ⟨trivial, fun h => (by cases h), ?_⟩; refine HA.out.mono ?_; rintro e w' ⟨v, ss, rfl, hs, ho, hb⟩; have HO := Lib.hid ho; have HB := Lib.hid hb; clear ho hb)
  go_ret
  exact ⟨v, ss, rfl, hs, HO.out, HB.out⟩
end Go.Proofs.YtjcbohbpkodkoaaGreatDoor

/- Audit: slices.Reverse at parts and at truth values; contract of beside. -/
namespace Go.Proofs
open Go.Shelf
def Tryz.laysRevP_ren : Go.Shelf.Ren := ⟨fun | 35 => 63 | n => n, fun | 22 => 72 | 23 => 75 | 3 => 3 | 4 => 4 | 0 => 0 | n => n, fun | n => n⟩
theorem Tryz.laysRevP : Go.Proofs.SlLaysE0.n35 Tryz.prog Tryz.laysRevP_ren := {
  mixed := by kernel_rfl
  f35 := ⟨Tryz.f63.name, by decide, Tryz.func63.trans (congrArg some (by kernel_rfl))⟩
  t0 := Tryz.underlying0
  a0 := Tryz.isAgg0
  z0 := Tryz.sizeOf0
  v0 := Tryz.zeroValue0
  t3 := Tryz.underlying3
  a3 := Tryz.isAgg3
  z3 := Tryz.sizeOf3
  v3 := Tryz.zeroValue3
  t4 := Tryz.underlying4
  a4 := Tryz.isAgg4
  z4 := Tryz.sizeOf4
  v4 := Tryz.zeroValue4
  t22 := Tryz.underlying72
  a22 := Tryz.isAgg72
  z22 := Tryz.sizeOf72
  v22 := Tryz.zeroValue72 }
end Go.Proofs
namespace Go.Proofs.YtjcbohbpkodkoaaGreatDoor
open Go.RowKit Go.Maps Go.Shelf Num Go.Sort

def RvPost {α : Type} (R : Row α) (B : Nat) (v : Value) (l : List α) (w : World) (e : Ending) (w' : World) : Prop := e = .returned (.tuple #[]) ∧ R.Own B w' v l.reverse ∧ Below B w w'
instance : Inhabited Pt := ⟨(0, 0, false)⟩
set_option maxRecDepth 100000 in
theorem revP_any (B : Nat) (v : Value) (l : List Pt) (w : World) (h : rowP.Own B w v l) (hn : l.length ≤ 100000) : Calls Tryz.prog 63 #[v] w (RvPost rowP B v l w) := by
  rcases Nat.eq_zero_or_pos l.length with h0 | h0
  · have hl : l = [] := List.length_eq_zero_iff.1 h0
    subst hl
    have H := Lib.hid (show RvPost rowP B v [] w (.returned (.tuple #[])) w from ⟨rfl, h, Below.refl _ _⟩)
    obtain ⟨A, c, rfl, _⟩ := h.rds
    clear h h0
    generalize RvPost rowP B _ [] w = Post at *
    go_enter Tryz.func63, Tryz.ntmps63
    go_wp2_with fail
    go_loopw [2, 3] (fun i j wr => i = .int .i64 0 ∧ j = .int .i64 (-1) ∧ Hid (wr = w)) (fun _ _ _ => 0)
    case atStart => exact ⟨rfl, by go_num, Lib.hid rfl⟩
    case round =>
      obtain ⟨rfl, rfl, hw⟩ := hrel
      go_wp2_with fail
      go_end0
      rw [hw.out]
      exact H.out
  · obtain ⟨g, cap, rfl, hB, hg, hH⟩ := own_holds encP 3 (fun _ => rfl) h h0
    have hc := AnyQ.slices_Reverse Tryz.laysRevP 3 Tryz.isAgg75 Tryz.sizeOf75 encP (fun _ => rfl) (fun x u hu => rowP_ok.h1 x u hu) g 0 cap l.toArray w hH (by simp; omega)
    refine Calls.mono (show Calls Tryz.prog 63 #[.slice (some ⟨g, 0, none⟩) l.length cap] w _ from hc) fun e w' ⟨he, n, hw⟩ => ?_
    obtain ⟨p1, p2⟩ := own_put encP 3 (fun _ => rfl) (n := n) (m := l.reverse) h (by simp) h0 #[]
    have e : grow (putRowK encP 3 (Sort.ahead w n) g 0 l.reverse.toArray) #[] = w' := by
      rw [hw]; simp [grow]
    rw [e] at p1 p2
    exact ⟨he, p1, p2⟩
/-- parts are returned, in a slice of the call's own -/
def PtP (l : List Pt) (w : World) (e : Ending) (w' : World) : Prop := ∃ v, e = .returned v ∧ rowP.Own w.heap.size w' v l ∧ Below w.heap.size w w'
set_option maxRecDepth 100000 in
theorem beside_any (i n : Nat) (w : World) (hn : n ≤ 100000) (hi : i ≤ 100000) : Calls Tryz.prog 33 #[.int .i64 (i : Int), .int .i64 (n : Int)] w (PtP (besideN i n) w) := by
  have hB1 : Below w.heap.size w ((w.alloc (.cells #[.int .i64 (i : Int)] 3)).alloc (.cells #[.int .i64 (n : Int)] 3)) := ((Below.refl _ w).alloc (Nat.le_refl _) _).alloc (by simp) _
  have b0 : Boxed ((w.alloc (.cells #[.int .i64 (i : Int)] 3)).alloc (.cells #[.int .i64 (n : Int)] 3)) w.heap.size 3 (.int .i64 (i : Int)) := (Boxed.new w 3 _).alloc _
  have b1 : Boxed ((w.alloc (.cells #[.int .i64 (i : Int)] 3)).alloc (.cells #[.int .i64 (n : Int)] 3)) (w.heap.size + 1) 3 (.int .i64 (n : Int)) := by
    have := Boxed.new (w.alloc (.cells #[.int .i64 (i : Int)] 3)) 3 (.int .i64 (n : Int))
    rwa [World.size_alloc] at this
  have hp := parts_any i n w
  have hpl := Lib.hid (partsN_len i n)
  have HP := Lib.hid (show ∀ v W, rowP.Own w.heap.size W v (besideN i n) → Below w.heap.size w W → PtP (besideN i n) w (.returned v) W from fun v W h1 h2 => ⟨v, rfl, h1, h2⟩)
  have HRV := Lib.hid (show (partsN i n).reverse = besideN i n from rfl)
  generalize PtP (besideN i n) w = Post at *
  generalize (w.alloc (.cells #[.int .i64 (i : Int)] 3)).alloc (.cells #[.int .i64 (n : Int)] 3) = w1 at *
  have HB1 := Lib.hid hB1
  have hc := (callsIn_wide (n := 6)).1 (collectP_in 6 (by omega) 99 #[.pointer (some ⟨w.heap.size + 1, 0, none⟩), .pointer (some ⟨w.heap.size, 0, none⟩)] (fun ss => ss = partsN i n) n (by omega) w1 (enters_of Tryz.func99 (by kernel_rfl) rfl) (parts_stops (6 - 1 - 1) (by omega) w.heap.size (w.heap.size + 1) i n hn hi w1 b0 b1) (fun ss h => by rw [h]; exact hpl.out))
  have HC := Lib.hid hc
  clear b0 b1 hB1 hc
  generalize besideN i n = bs at *
  generalize partsN i n = ps at *
  go_enter Tryz.func33, Tryz.ntmps33
  go_wp2_with fail
  refine hp.mono ?_
  rintro e w2 ⟨rfl, rfl⟩
  go_wp2_with fail
  refine HC.out.mono ?_
  rintro e w3 ⟨v, ss, rfl, rfl, ho, hb⟩
  have HB3 := Lib.hid (HB1.out.trans (hb.mono HB1.out.size))
  have HO := Lib.hid (Row.Own.mono ho HB1.out.size)
  clear ho hb HC hp
  go_wp2_with fail
  refine (revP_any w.heap.size v ss w3 HO.out (Nat.le_trans hpl.out hn)).mono ?_
  rintro e w4 ⟨rfl, ho, hb⟩
  rw [HRV.out] at ho
  have H := Lib.hid (HP.out v w4 ho (HB3.out.trans hb))
  clear ho hb
  go_wp2_with fail
  first | exact H.out | (go_ret; exact H.out)
end Go.Proofs.YtjcbohbpkodkoaaGreatDoor

/- Regions that draw their order: a head of operations that only read (callees may lay blocks), then a tail in the text's order. -/
namespace Go.Proofs.YtjcbohbpkodkoaaGreatDoor
open Go Go.RowKit

section
variable {P : Program} {ops : Array Oper} {md : Region.Mode} {C : World → Prop}
/-- the head's operations in whatever order, then L -/
def headQ (P : Program) (md : Region.Mode) (ops : Array Oper) (C : World → Prop) (n : Nat) (L : Array Bool → Act → Prop) : Nat → Array Bool → Act → Prop
  | 0, ls, a => L ls a
  | f + 1, ls, a => Region.ready md ops ls ≠ [] ∧ ∀ i ∈ Region.ready md ops ls, i < n ∧ qOp P ops C i (headQ P md ops C n L f (ls.setIfInBounds i true)) a
theorem any_headQ {n g : Nat} {L : Array Bool → Act → Prop} {Q : Exit → Act → World → Prop} (hL : ∀ ls a w, C w → L ls a → wpAny P md ops Q g ls a w) (f : Nat) :
    ∀ (ls : Array Bool) (a : Act) (w : World), C w → headQ P md ops C n L f ls a → wpAny P md ops Q (f + g) ls a w := by
  induction f with
  | zero => intro ls a w hw h; rw [Nat.zero_add]; exact hL _ _ _ hw h
  | succ f ih =>
    intro ls a w hw h
    rw [show f + 1 + g = (f + g) + 1 by omega]
    exact ⟨fun e => absurd e h.1, fun i hi => wpOp_of_qOp hw (fun a' w' hw' h' => ih _ a' w' hw' h') (h.2 i hi).2⟩
theorem headQ_first {n i : Nat} {o : Oper} {v : Value} {L : Array Bool → Act → Prop} (hi : ops[i]? = some o) (hsel : ∀ (j : Nat) (o : Oper) cs b, ops[j]? = some o → o.op ≠ .select cs b)
    (hs : Region.sinkB md ops n = true) (hc : Region.chainB md ops n = true) (hn : n < ops.size) (hin : i < n) (hdone : ∀ ls a, L ls a → ∀ j ∈ Region.ready md ops ls, n ≤ j) (f : Nat) :
    ∀ (ls : Array Bool) (a : Act), HeadInv md ops n ls → (∀ j oj, ops[j]? = some oj → j ≠ i → ls.getD j true = false → (∀ e ∈ oj.after, Region.binds md e = true → e.on ≠ i) → o.apart ops oj = true) →
      i ∈ Region.ready md ops ls → YieldsIn P ops C o v a → headQ P md ops C n L f (ls.setIfInBounds i true) (a.put o.dst v) → headQ P md ops C n L (f + 1) ls a := by
  induction f with
  | zero =>
    intro ls a inv _ hr hy H
    have hun := (mem_ready.1 hr).1
    refine ⟨fun e => (by rw [e] at hr; cases hr), fun j hj => ?_⟩
    have hjn : j < n := Nat.lt_of_not_le fun h => tail_waits hs hc hn inv _ i rfl hin hun j h hj
    refine ⟨hjn, ?_⟩
    by_cases hji : j = i
    · subst hji; exact hy.qOp hi H
    · exact absurd (hdone _ _ H j (ready_mono hj hji)) (by omega)
  | succ f ih =>
    intro ls a inv hfree hr hy H
    have hun := (mem_ready.1 hr).1
    refine ⟨fun e => (by rw [e] at hr; cases hr), fun j hj => ?_⟩
    have hjn : j < n := Nat.lt_of_not_le fun h => tail_waits hs hc hn inv _ i rfl hin hun j h hj
    refine ⟨hjn, ?_⟩
    by_cases hji : j = i
    · subst hji; exact hy.qOp hi H
    have h1 := (H.2 j (ready_mono hj hji)).2
    obtain ⟨hjun, oj, hoj, hall⟩ := mem_ready.1 hj
    have hnot : ∀ e ∈ oj.after, Region.binds md e = true → e.on ≠ i := fun e he hb heq => by
      have h2 := hall e he hb
      rw [heq, getD_both hun] at h2
      cases h2
    have h3 := qOp_put hoj (hfree j oj hoj hji hjun hnot) (fun cs b => hsel i o cs b hi) (fun cs b => hsel j oj cs b hoj) hy h1
    refine qOp_mono (fun a' h4 => ih (ls.setIfInBounds j true) a' (inv.set hj hjn) (fun k ok hk hki hkun hno => ?_) (ready_mono hr (Ne.symm hji)) h4.1 ?_) h3
    · refine hfree k ok hk hki ?_ hno
      by_cases hjk : j = k
      · subst hjk; exact hjun
      · rw [getD_set_ne true hjk] at hkun; exact hkun
    · rw [Array.setIfInBounds_comm _ _ hji]
      exact h4.2
theorem headQ_lex {n g : Nat} {Lq : Act → Prop} (hsel : Region.noSelect ops = true) (hs : Region.sinkB md ops n = true) (hc : Region.chainB md ops n = true) (hn : n < ops.size) :
    ∀ (l : List Oper) (k : Nat) (ls : Array Bool) (a : Act), (∀ j, j < l.length → l[j]? = ops[k + j]?) → k + l.length = n → HeadInv md ops n ls → Region.lexHead md ops g l.length k ls = true → wpQuiet P ops C Lq l a →
    headQ P md ops C n (fun ls' a' => Region.seqB md ops g n ls' = true ∧ Lq a') l.length ls a
  | [], k, ls, a, _, hk, _, hB, h => by
    obtain rfl : k = n := by simpa using hk
    exact ⟨by simpa [Region.lexHead] using hB, h⟩
  | o :: l, k, ls, a, hl, hk, inv, hB, h => by
    have h0 : ops[k]? = some o := by simpa using (hl 0 (by simp)).symm
    simp only [List.length_cons, Region.lexHead, Bool.and_eq_true] at hB
    obtain ⟨⟨hr, hf⟩, hB'⟩ := hB
    have hkn : k < n := by rw [List.length_cons] at hk; omega
    have hr' : k ∈ Region.ready md ops ls := by simpa using hr
    obtain ⟨v, hy, hK⟩ := yieldsIn_of_qOp h0 (show qOp P ops C k (wpQuiet P ops C Lq l) a by unfold qOp; simp only [h0]; exact h)
    exact headQ_first h0 (Region.noSelect_spec hsel) hs hc hn hkn (fun ls' a' hL => seqB_ready hL.1) l.length ls a inv (Region.free_spec h0 hf) hr' hy
      (headQ_lex hsel hs hc hn l (k + 1) _ _ (fun j hj => by have := hl (j + 1) (by simp; omega); simpa [Nat.add_assoc, Nat.add_comm 1 j] using this) (by rw [List.length_cons] at hk; omega) (inv.set hr' hkn) hB' hK)
/-- one walk in the text's order: n operations that only read, in a class of worlds; the rest in any world of the class -/
theorem wp_region_quiet_tail {id : Nat} {Q : Exit → Act → World → Prop} {a : Act} {w : World} {l : List Oper} (n : Nat) (hm : P.follows .mixedOrders = true) (hB : Region.lexTailB .any l.toArray n = true) (hC : C { w with drawn := w.drawn + 1 })
    (h : wpQuiet P l.toArray C (fun a' => ∀ w', C w' → wpList P l.toArray Q (l.drop n) a' w') (l.take n) a) : (Code.region id l.toArray true).wp P Q a w := by
  simp only [Region.lexTailB, Bool.and_eq_true, decide_eq_true_eq] at hB
  obtain ⟨⟨⟨⟨hsel, hn⟩, hs⟩, hc⟩, hlex⟩ := hB
  have hn' : n < l.length := by simpa using hn
  have htl : (l.take n).length = n := by rw [List.length_take]; omega
  have hdl : (l.drop n).length = l.toArray.size - n := by simp
  have inv0 : HeadInv .any l.toArray n (Array.replicate l.toArray.size false) :=
    ⟨by simp, fun j oj _ hl => (by rw [getD_replicate_false] at hl; cases hl), fun t _ ht => getD_in (by simpa using ht) (getD_replicate_false _ _)⟩
  have H := headQ_lex (md := .any) (g := l.toArray.size - n) hsel hs hc hn (l.take n) 0 _ a (fun j hj => by
    rw [htl] at hj
    simp [hj]) (by simpa using htl) inv0 (by rw [htl]; exact hlex) h
  refine wp_region_any hm ?_
  have := any_headQ (Q := Q) (g := l.toArray.size - n) (fun ls a' w' hw' hL => by
    have := wpAny_of_seq (md := .any) (Q' := Q) (l.drop n) n ls a' w' (fun j => by simp [List.getElem?_drop]) (by rw [hdl]; exact hL.1) (hL.2 w' hw')
    rwa [hdl] at this) _ _ _ _ hC H
  rwa [htl, show n + (l.toArray.size - n) = l.toArray.size by omega] at this
/-- the same in the worlds that differ from w above its blocks -/
theorem wp_region_tail_bel {id : Nat} {Q : Exit → Act → World → Prop} {a : Act} {w : World} {l : List Oper} (n : Nat) (hm : P.follows .mixedOrders = true) (hB : Region.lexTailB .any l.toArray n = true)
    (h : wpQuiet P l.toArray (fun w' => ∃ p : Bel w, w' = p.W) (fun a' => ∀ w', (∃ p : Bel w, w' = p.W) → wpList P l.toArray Q (l.drop n) a' w') (l.take n) a) : (Code.region id l.toArray true).wp P Q a w :=
  wp_region_quiet_tail n hm hB ⟨⟨w.drew, Below.drew (Below.refl _ w)⟩, rfl⟩ h
end
end Go.Proofs.YtjcbohbpkodkoaaGreatDoor

/- Audit: contract of Prove. -/
namespace Go.Proofs.YtjcbohbpkodkoaaGreatDoor
open Go.RowKit Go.Maps Num

theorem keepC {W : World} {a : Addr} {v : Value} {o : Obj} (h : W.cell? a = some v) : (W.alloc o).cell? a = some v := ((((Below.refl _ W).alloc (Nat.le_refl _) o).cell (block_lt_of_cell h)).trans h)
/-- what Prove answers: index, leaves, nodes, code -/
def prvT (l : List Ln) (i : Int) : Int × Int × List Nd × Int := if listB l = false then (0, 0, [], 1) else if i < 0 ∨ (l.length : Int) ≤ i then (0, 0, [], 2) else (i, l.length, nodesN sha l i.toNat, 0)
def PrC (q : Int × Int × List Nd × Int) (w : World) (e : Ending) (w' : World) : Prop := ∃ v, e = .returned (.tuple #[.agg #[.int .i64 q.1, .int .i64 q.2.1, v], .int .i64 q.2.2.2]) ∧ rowNd.Own w.heap.size w' v q.2.2.1 ∧ Below w.heap.size w w'
/-- the parts beside the way lie in the list -/
theorem partsF_in (f i a b : Nat) : ∀ x ∈ partsF f i a b, a ≤ x.1 ∧ x.1 < x.2.1 ∧ x.2.1 ≤ max a b := by
  induction f generalizing a b with
  | zero => intro x hx; rw [partsF] at hx; cases hx
  | succ f ih =>
    intro x hx
    rw [partsF] at hx
    split at hx
    · cases hx
    have h2 : 2 ≤ b - a := by omega
    have h3 := cutN_pos _ h2
    have h4 := cutN_lt _ h2
    split at hx
    · rcases List.mem_cons.1 hx with rfl | h
      · simp only; omega
      · have := ih a _ x h; omega
    · rcases List.mem_cons.1 hx with rfl | h
      · simp only; omega
      · have := ih _ b x h; omega
theorem beside_in {i n : Nat} {x : Pt} (h : x ∈ besideN i n) : x.1 < x.2.1 ∧ x.2.1 ≤ n := by
  unfold besideN partsN at h
  have := partsF_in n i 0 n x (List.mem_reverse.1 h)
  omega
theorem besideN_len (i n : Nat) : (besideN i n).length ≤ n := by unfold besideN; rw [List.length_reverse]; exact partsN_len i n
def pt0 : Pt := (0, 0, false)
def ptNd (l : List Ln) (x : Pt) : Nd := rootN sha ((l.take x.2.1).drop x.1)
theorem nodes_take (l : List Ln) (bs : List Pt) (k : Nat) (h : k < bs.length) : (bs.take (k + 1)).map (ptNd l) = (bs.take k).map (ptNd l) ++ [ptNd l (bs.getD k pt0)] := by
  rw [List.take_succ_eq_append_getElem h, List.map_append, List.getD_eq_getElem?_getD, List.getElem?_eq_getElem h]
  rfl
/-- the loop's state: the nodes so far lie in the proof's box -/
structure PrR (w2 : World) (B4 : Nat) (i n : Int) (vb : Value) (bs : List Pt) (ns : List Nd) (W : World) : Prop where
  box : ∃ v, W.heap[w2.heap.size]? = some (.cells #[.int .i64 i, .int .i64 n, v] 56) ∧ rowNd.Own B4 W v ns
  bel : Below w2.heap.size w2 W
  sl : rowP.Own (w2.heap.size + 1) W vb bs
  lo : ∀ g, vb.ownBlock = some g → g < B4
  b4 : w2.heap.size < B4 ∧ B4 ≤ W.heap.size
set_option maxRecDepth 100000 in
set_option maxHeartbeats 8000000 in
theorem Prove_any (A : Option Addr) (n c : Nat) (l : List Ln) (i : Int) (w : World) (hl : rowB.Rds w A n c l) (hs : ∀ x ∈ l, SmB x) (hn : n ≤ 1000) (hi1 : -9223372036854775808 ≤ i) (hi2 : i ≤ 9223372036854775807) (ht : Tab w) (hM : ML w) :
    Calls Tryz.prog 19 #[.slice A n c, .int .i64 i] w (PrC (prvT l i) w) := by
  have HK := Lib.hid (fun W (h : Below w.heap.size w W) => check_any A n c l W (hl.below h) hs hn (ht.below h) (hM.below h))
  have Y := Lib.hid (heap_alloc_new w (.cells #[.int .i64 0, .int .i64 0, .slice none 0 0] 56))
  have B0 := Lib.hid ((Below.refl _ w).alloc (Nat.le_refl _) (.cells #[.int .i64 0, .int .i64 0, .slice none 0 0] 56))
  have HL := Lib.hid (show w.heap.size < (w.alloc (.cells #[.int .i64 0, .int .i64 0, .slice none 0 0] 56)).heap.size by simp)
  have ll := Lib.hid hl.len
  have HP := Lib.hid (show ∀ q v W, prvT l i = q → rowNd.Own w.heap.size W v q.2.2.1 → Below w.heap.size w W → PrC (prvT l i) w (.returned (.tuple #[.agg #[.int .i64 q.1, .int .i64 q.2.1, v], .int .i64 q.2.2.2])) W from fun q v W e h1 h2 => by subst e; exact ⟨v, rfl, h1, h2⟩)
  unfold IntPost at HK
  cases hb : listB l
  · have e0 : lisI l = 1 := by unfold lisI; rw [hb]; rfl
    have e1 : prvT l i = (0, 0, [], 1) := by unfold prvT; rw [if_pos hb]
    have hv := Lib.hid (fun W h => HP.out _ (.slice none 0 0) W e1 (Row.Own.nil _ _) h)
    rw [e0] at HK
    clear hb e0 e1 hl hs ht hM HP
    generalize PrC (prvT l i) w = Post at *
    go_enter Tryz.func19, Tryz.ntmps19
    go_wp2_with fail
    refine (HK.out _ B0.out).mono ?_
    rintro e w2 ⟨rfl, hb⟩
    have B2 := Lib.hid (below_next B0.out hb ⟨rfl, rfl, rfl, rfl⟩)
    have yy := (hb.block _ HL.out).trans Y.out
    obtain ⟨⟨z0, z1, z2⟩, p0, p1, p2⟩ := cells3 yy
    obtain ⟨⟨q0, q1, q2⟩, _⟩ := cells3 (set3 yy (.int .i64 0) (.int .i64 0) (.slice none 0 0))
    clear hb yy
    go_wp2_with fail
    exact bodyPost_ret (v := .tuple #[.agg #[.int .i64 0, .int .i64 0, .slice none 0 0], .int .i64 1]) (by simp [results, Tryz.results19, go_sem, q0, q1, q2]) rfl (hv.out _ (below_set3 B2.out (Nat.le_refl _) _ _ _))
  have e0 : lisI l = 0 := by unfold lisI; rw [hb]; rfl
  rw [e0] at HK
  by_cases hr : i < 0 ∨ (l.length : Int) ≤ i
  · have e1 : prvT l i = (0, 0, [], 2) := by unfold prvT; rw [if_neg (by rw [hb]; decide), if_pos hr]
    have hv := Lib.hid (fun W h => HP.out _ (.slice none 0 0) W e1 (Row.Own.nil _ _) h)
    rw [ll.out] at hr
    clear hb e0 e1 hl hs ht hM HP
    generalize PrC (prvT l i) w = Post at *
    by_cases h0 : i < 0
    · clear hr
      go_enter Tryz.func19, Tryz.ntmps19
      go_wp2_with fail
      refine (HK.out _ B0.out).mono ?_
      rintro e w2 ⟨rfl, hb⟩
      have B2 := Lib.hid (below_next B0.out hb ⟨rfl, rfl, rfl, rfl⟩)
      have yy := (hb.block _ HL.out).trans Y.out
      obtain ⟨⟨z0, z1, z2⟩, p0, p1, p2⟩ := cells3 yy
      obtain ⟨⟨q0, q1, q2⟩, _⟩ := cells3 (set3 yy (.int .i64 0) (.int .i64 0) (.slice none 0 0))
      clear hb yy
      go_wp2_with fail
      exact bodyPost_ret (v := .tuple #[.agg #[.int .i64 0, .int .i64 0, .slice none 0 0], .int .i64 2]) (by simp [results, Tryz.results19, go_sem, q0, q1, q2]) rfl (hv.out _ (below_set3 B2.out (Nat.le_refl _) _ _ _))
    · have h1 : (n : Int) ≤ i := by omega
      clear hr
      go_enter Tryz.func19, Tryz.ntmps19
      go_wp2_with fail
      refine (HK.out _ B0.out).mono ?_
      rintro e w2 ⟨rfl, hb⟩
      have B2 := Lib.hid (below_next B0.out hb ⟨rfl, rfl, rfl, rfl⟩)
      have yy := (hb.block _ HL.out).trans Y.out
      obtain ⟨⟨z0, z1, z2⟩, p0, p1, p2⟩ := cells3 yy
      obtain ⟨⟨q0, q1, q2⟩, _⟩ := cells3 (set3 yy (.int .i64 0) (.int .i64 0) (.slice none 0 0))
      clear hb yy
      go_wp2_with fail
      exact bodyPost_ret (v := .tuple #[.agg #[.int .i64 0, .int .i64 0, .slice none 0 0], .int .i64 2]) (by simp [results, Tryz.results19, go_sem, q0, q1, q2]) rfl (hv.out _ (below_set3 B2.out (Nat.le_refl _) _ _ _))
  obtain ⟨j, rfl⟩ : ∃ j : Nat, i = (j : Int) := ⟨i.toNat, by omega⟩
  have hjn : j < n := by have := ll.out; omega
  have e1 : prvT l (j : Int) = ((j : Int), (n : Int), (besideN j n).map (ptNd l), 0) := by
    unfold prvT
    rw [if_neg (by rw [hb]; decide), if_neg hr]
    unfold nodesN
    rw [ll.out]
    rfl
  have hv := Lib.hid (fun v W h1 h => HP.out _ v W e1 h1 h)
  have HB := Lib.hid (fun W => beside_any j n W (by omega) (by omega))
  have HIN := Lib.hid (show ∀ x ∈ besideN j n, x.1 < x.2.1 ∧ x.2.1 ≤ n from fun x hx => beside_in hx)
  have HBL := Lib.hid (besideN_len j n)
  have HRT := Lib.hid (fun (x : Pt) (hx : x.1 < x.2.1 ∧ x.2.1 ≤ n) W (h : Below w.heap.size w W) (b o : Nat) (hA : A = some ⟨b, o, none⟩) => (show Calls Tryz.prog 32 #[.slice (some ⟨b, o + x.1 * 3, none⟩) (x.2.1 - x.1) (c - x.1)] W (NdPost (ptNd l x) W) from by
    subst hA
    have h1 := (((hl.below h).take rowB_ok x.2.1 hx.2).drop rowB_ok x.1 (Nat.le_of_lt hx.1))
    exact root_any _ _ _ _ W (by omega) h1 (((TrB.of hb hs).take _).drop _) (ht.below h)))
  obtain ⟨b, o, hA, hbl, _⟩ := hl.at_ (by omega)
  have hcap := hl.cap
  subst hA
  clear hr HP e1 hb e0 hl hs ht hM
  generalize PrC (prvT l (j : Int)) w = Post at *
  generalize besideN j n = bs at *
  have hjn2 : (j : Int) < (n : Int) := by omega
  have hj0 : (0 : Int) ≤ (j : Int) := by omega
  go_enter Tryz.func19, Tryz.ntmps19
  go_wp2_with fail
  refine (HK.out _ B0.out).mono ?_
  rintro e w2 ⟨rfl, hb2⟩
  have B2 := Lib.hid (below_next B0.out hb2 ⟨rfl, rfl, rfl, rfl⟩)
  have Y2 := Lib.hid ((hb2.block _ HL.out).trans Y.out)
  have L2 := Lib.hid (Nat.lt_of_lt_of_le HL.out hb2.size)
  clear hb2
  go_wp2_with fail
  have Y3 := Lib.hid (heap_alloc_new w2 (.cells #[.int .i64 (j : Int), .int .i64 (n : Int), .slice none 0 0] 56))
  have B3 := Lib.hid ((Below.refl _ w2).alloc (Nat.le_refl _) (.cells #[.int .i64 (j : Int), .int .i64 (n : Int), .slice none 0 0] 56))
  have S3 := Lib.hid (show (w2.alloc (.cells #[.int .i64 (j : Int), .int .i64 (n : Int), .slice none 0 0] 56)).heap.size = w2.heap.size + 1 by simp)
  generalize w2.alloc (.cells #[.int .i64 (j : Int), .int .i64 (n : Int), .slice none 0 0] 56) = w3 at *
  refine (HB.out _).mono ?_
  rintro e w4 ⟨vb, rfl, ho, hb4⟩
  have R0 := Lib.hid (show PrR w2 w4.heap.size (j : Int) (n : Int) vb bs ((bs.take 0).map (ptNd l)) w4 from by
    refine ⟨⟨.slice none 0 0, (hb4.block _ (by rw [S3.out]; omega)).trans Y3.out, Row.Own.nil _ _⟩, below_next B3.out hb4 ⟨rfl, rfl, rfl, rfl⟩, by rw [← S3.out]; exact ho, fun g e => (ho.own g e).2, ?_, Nat.le_refl _⟩
    have := hb4.size
    rw [S3.out] at this
    omega)
  obtain ⟨Ab, cb, rfl, hrb⟩ := ho.rds
  generalize hbl0 : bs.length = m at *
  have HM := Lib.hid hbl0
  clear ho hb4 HB hbl0 hrb Y3 B3 S3
  go_wp2_with fail
  go_loopw [34, 9] (fun i _ wr => ∃ k : Nat, k ≤ m ∧ i = .int .i64 (k : Int) ∧ Hid (PrR w2 w4.heap.size (j : Int) (n : Int) (.slice Ab m cb) bs ((bs.take k).map (ptNd l)) wr)) (fun i _ _ => m - (intOf i).toNat)
  case atStart => exact ⟨0, by omega, rfl, R0⟩
  case round =>
    clear R0
    obtain ⟨k, hk, rfl, hR⟩ := hrel
    by_cases hlt : k < m
    · have hkl : k < bs.length := by rw [HM.out]; exact hlt
      have htk := Lib.hid (nodes_take l bs k hkl)
      have hmem := getD_mem pt0 bs k hkl
      obtain ⟨As, cs, e, hrd⟩ := hR.out.sl.rds
      injection e with e1 e2 e3
      subst e1 e3
      rw [HM.out] at hrd
      clear e2
      obtain ⟨b1, o1, rfl, hb1, _⟩ := hrd.at_ (by omega)
      have q0 := hrd.cell rowP_ok pt0 k 0 _ hlt rfl
      have q1 := hrd.cell rowP_ok pt0 k 1 _ hlt rfl
      have q2 := hrd.cell rowP_ok pt0 k 2 _ hlt rfl
      have hin := HIN.out _ hmem
      have hki : (k : Int) < (m : Int) := by omega
      have hk9 : k < 1000 := by have := HBL.out; omega
      generalize bs.getD k pt0 = x at *
      obtain ⟨xf, xt, xs⟩ := x
      simp only [Nat.add_zero] at q0 q1 q2 hin
      obtain ⟨v, hbx, hov⟩ := hR.out.box
      have hw2 := hR.out.bel.size
      have BX := Lib.hid (show Below wr.heap.size wr (wr.alloc (.cells #[.int .i64 (xf : Int), .int .i64 (xt : Int), .bool xs] 75)) from (Below.refl _ wr).alloc (Nat.le_refl _) _)
      have hpx := (BX.out.block _ ((Array.getElem?_eq_some_iff.1 hbx).1)).trans hbx
      have hxx := heap_alloc_new wr (.cells #[.int .i64 (xf : Int), .int .i64 (xt : Int), .bool xs] 75)
      have HR := Lib.hid hR.out
      have HOV := Lib.hid hov
      have HBX := Lib.hid hbx
      have RT := Lib.hid (fun W (h : Below w.heap.size w W) => HRT.out (xf, xt, xs) hin W h b o rfl)
      have hsz : wr.heap.size < (wr.alloc (.cells #[.int .i64 (xf : Int), .int .i64 (xt : Int), .bool xs] 75)).heap.size := by simp
      have SX := Lib.hid hsz
      have hxt1 : (xf : Int) ≤ (xt : Int) := by omega
      have hxt2 : (xt : Int) ≤ (c : Int) := by omega
      have hxf2 : (xf : Int) ≤ (c : Int) := by omega
      have hxne : c ≠ xf := by omega
      have hxn2 : c - xf ≠ 0 := by omega
      clear hR hov hbx hmem hkl hrd
      go_wp2_with fail
      generalize wr.alloc (.cells #[.int .i64 (xf : Int), .int .i64 (xt : Int), .bool xs] 75) = wx at *
      have BW := Lib.hid (fun W (h : Below wx.heap.size wx W) => (show Below w.heap.size w W from (B2.out.trans (((HR.out.bel.trans (BX.out.mono hw2)).trans (h.mono (Nat.le_trans hw2 (Nat.le_of_lt SX.out)))).mono B2.out.size))))
      obtain ⟨⟨_, _, pv⟩, _⟩ := cells3 hpx
      obtain ⟨⟨x0, x1, _⟩, _⟩ := cells3 hxx
      have pvd : wx.drew.cell? ⟨w2.heap.size, 2, none⟩ = some v := pv
      rcases hnd : ptNd l (xf, xt, xs) with ⟨n1, n2⟩
      have RC := Lib.hid (fun W (h : Below wx.heap.size wx W) => (show Calls Tryz.prog 32 #[.slice (some ⟨b, o + xf * 3, none⟩) (xt - xf) (c - xf)] W (fun e w' => e = .returned (.agg #[.string ⟨n1.toArray⟩, .string ⟨n2.toArray⟩]) ∧ Below W.heap.size W w') from by
        have := RT.out W (BW.out _ h)
        unfold NdPost ndV at this
        rw [hnd] at this
        exact this))
      rw [hnd] at htk
      have HPX := Lib.hid hpx
      have HXX := Lib.hid hxx
      have NE := Lib.hid (show wr.heap.size ≠ w2.heap.size ∧ w2.heap.size < wx.heap.size ∧ w4.heap.size ≤ wr.heap.size from by
        have h1 := (Array.getElem?_eq_some_iff.1 HBX.out).1
        exact ⟨by omega, by have := SX.out; omega, HR.out.b4.2⟩)
      have ARM := Lib.hid (fun W (h : Below wx.heap.size wx W) => (show W.heap[w2.heap.size]? = some (.cells #[.int .i64 (j : Int), .int .i64 (n : Int), v] 56) ∧ W.heap[wr.heap.size]? = some (.cells #[.int .i64 (xf : Int), .int .i64 (xt : Int), .bool xs] 75) ∧ rowNd.Own w4.heap.size W v ((bs.take k).map (ptNd l)) ∧ Below w2.heap.size w2 W ∧ w4.heap.size ≤ W.heap.size from by
        have hz := h.size
        have hs := SX.out
        have h3 := NE.out
        exact ⟨(h.block _ h3.2.1).trans HPX.out, (h.block _ hs).trans HXX.out, (HOV.out.below BX.out).below h, below_next (below_next HR.out.bel BX.out ⟨rfl, rfl, rfl, rfl⟩) h ⟨rfl, rfl, rfl, rfl⟩, by omega⟩))
      have HD := Lib.hid (Below.refl wx.heap.size wx)
      clear hnd RT hpx hxx
      have x0d : wx.drew.cell? ⟨wr.heap.size, 0, none⟩ = some (.int .i64 (xf : Int)) := x0
      have x1d : wx.drew.cell? ⟨wr.heap.size, 1, none⟩ = some (.int .i64 (xt : Int)) := x1
      have OVB := Lib.hid (show ∀ g, v.ownBlock = some g → w4.heap.size ≤ g from fun g e => (HOV.out.own g e).1)
      have HLN := Lib.hid (show ((bs.take k).map (ptNd l)).length + 1 ≤ 1000000 by rw [List.length_map, List.length_take]; have := HBL.out; omega)
      have HNX := Lib.hid (show ∀ (wq : World) (v1 : Value) (w5 : World), Below wx.heap.size wx wq → rowNd.Own w4.heap.size w5 v1 ((bs.take k).map (ptNd l) ++ [(n1, n2)]) → wq.grownBy w5 v.ownBlock →
          w5.heap[w2.heap.size]? = some (.cells #[.int .i64 (j : Int), .int .i64 (n : Int), v] 56) ∧ PrR w2 w4.heap.size (j : Int) (n : Int) (.slice (some ⟨b1, o1, none⟩) m cb) bs ((bs.take (k + 1)).map (ptNd l)) (w5.setCell ⟨w2.heap.size, 2, none⟩ v1) from fun wq v1 w5 hq ho hg => by
        obtain ⟨p1, p2, p3, p4, p5⟩ := ARM.out wq hq
        have hb4 := HR.out.b4
        have hne : some w2.heap.size ≠ v.ownBlock := fun e => by have := OVB.out _ e.symm; omega
        have p6 := (hg.block w2.heap.size (Array.getElem?_eq_some_iff.1 p1).1 hne).trans p1
        have hb5 := below_own p4 (Nat.le_refl _) hg (fun g e => by have := OVB.out g e; omega)
        refine ⟨p6, ⟨v1, set2 p6 v1, ?_⟩, hb5.setCell (p := ⟨w2.heap.size, 2, none⟩) (Nat.le_refl _) _, ?_, HR.out.lo, hb4.1, ?_⟩
        · rw [htk.out]
          exact ho.kept' (grown_setCell w5 ⟨w2.heap.size, 2, none⟩ v1) (by
            cases hk : v1.ownBlock with
            | none => exact .inl rfl
            | some g => exact .inr fun e => by have h1 := (ho.own g hk).1; have h2 := Option.some.inj e; simp only at h2; omega)
        · have hs0 := ((HR.out.sl.below BX.out).below hq).kept' hg (by
            cases hk : v.ownBlock with
            | none => exact .inr (fun e => by have : (Value.slice (some ⟨b1, o1, none⟩) m cb).ownBlock = some b1 := rfl; rw [this] at e; cases e)
            | some g => exact .inr fun e => by have h1 := OVB.out g hk; have h2 := HR.out.lo g e; omega)
          exact hs0.kept' (grown_setCell w5 ⟨w2.heap.size, 2, none⟩ v1) (.inr fun e => by have h2 := (hs0.own _ e).1; simp only at h2; omega)
        · have := hg.size
          simp only [World.size_setCell]
          omega)
      obtain ⟨N5, hN5⟩ : ∃ N5 : Nat, N5 = ((bs.take k).map (ptNd l) ++ [(n1, n2)]).length := ⟨_, rfl⟩
      have HN5 := Lib.hid hN5
      clear x0 x1 pv HOV HBX HPX HXX BX hN5
      go_region_law (first
          | (go_simp; go_at_call 32; with_reducible refine (RC.out _ ?_).mono ?_; · (first | exact HD.out | exact Below.drew HD.out)
             rintro e w' ⟨rfl, hb⟩; have HD := Lib.hid (below_next HD.out hb ⟨rfl, rfl, rfl, rfl⟩); have HQ := Lib.hid (ARM.out _ HD.out); have g2 := (cells3 HQ.out.1).1.2.2; have ga := keepC (o := .cells #[.string ⟨n1.toArray⟩, .string ⟨n2.toArray⟩] 51) g2; clear hb)
          | (refine Row.step_append1 rowNd_ok rfl (.tmp 39) (.tmp 47) rfl w4.heap.size v _ _ (n1, n2) _ _ rfl rfl rfl HQ.out.2.2.1 rfl HQ.out.2.2.2.2 HLN.out ?_; intro v1 w5 hown1 hg1 hat
             obtain ⟨A5, k5, e5⟩ := hown1.slice; rw [← HN5.out] at e5; subst e5; obtain ⟨hp5, hR5⟩ := HNX.out _ _ w5 HD.out hown1 hg1; obtain ⟨⟨_, _, c5⟩, _, _, f5⟩ := cells3 hp5; have HR5 := Lib.hid hR5; clear hp5 hR5 hown1 hg1 hat))
      all_goals
        go_wp2_with fail
        exact ⟨⟨k + 1, by omega, by go_num, HR5⟩, by simp [intOf]; omega⟩
    · have hkm : k = m := by omega
      subst hkm
      have hki : ¬ (k : Int) < (k : Int) := by omega
      obtain ⟨v, hbx, hov⟩ := hR.out.box
      have e : bs.take k = bs := List.take_of_length_le (by rw [HM.out]; exact Nat.le_refl _)
      rw [e] at hov
      have hw2 := B2.out.size
      have hfin := Lib.hid (fun W (h : Below w.heap.size w W) (ho : rowNd.Own w.heap.size W v (bs.map (ptNd l))) => hv.out v W ho h)
      obtain ⟨A5, k5, rfl⟩ := hov.slice
      rw [List.length_map, HM.out] at hbx hov hfin
      have hrb := (hR.out.bel.block _ L2.out).trans Y2.out
      obtain ⟨⟨p0, p1, p2⟩, _⟩ := cells3 hbx
      obtain ⟨⟨z0, z1, z2⟩, r0, r1, r2⟩ := cells3 hrb
      obtain ⟨⟨q0, q1, q2⟩, _⟩ := cells3 (set3 hrb (.int .i64 (j : Int)) (.int .i64 (n : Int)) (.slice A5 k k5))
      have hb4 := hR.out.b4
      have HBF := Lib.hid (below_set3 (B2.out.trans (hR.out.bel.mono B2.out.size)) (Nat.le_refl _) (.int .i64 (j : Int)) (.int .i64 (n : Int)) (.slice A5 k k5))
      have hl2 := L2.out
      have HOF := Lib.hid (show rowNd.Own w.heap.size (((wr.setCell ⟨w.heap.size, 0, none⟩ (.int .i64 (j : Int))).setCell ⟨w.heap.size, 1, none⟩ (.int .i64 (n : Int))).setCell ⟨w.heap.size, 2, none⟩ (.slice A5 k k5)) (.slice A5 k k5) (bs.map (ptNd l)) from by
        have hr : ∀ q, some w.heap.size = some q → q < w4.heap.size := fun q e => by have := Option.some.inj e; omega
        exact Row.Own.mono (((hov.kept (grown_setCell wr ⟨w.heap.size, 0, none⟩ _) hr).kept (grown_setCell _ ⟨w.heap.size, 1, none⟩ _) hr).kept (grown_setCell _ ⟨w.heap.size, 2, none⟩ _) hr) (by omega))
      clear hR hrb hbx hov hb4 hl2 e
      go_wp2_with fail
      exact bodyPost_ret (v := .tuple #[.agg #[.int .i64 (j : Int), .int .i64 (n : Int), .slice A5 k k5], .int .i64 0]) (by simp [results, Tryz.results19, go_sem, q0, q1, q2]) rfl (hfin.out _ HBF.out HOF.out)
end Go.Proofs.YtjcbohbpkodkoaaGreatDoor

/- Audit: contracts of valid, Verify's closure, slices.IndexFunc and ContainsFunc at it. -/
namespace Go.Proofs.YtjcbohbpkodkoaaGreatDoor
open Go.RowKit Go.Maps Num

set_option maxRecDepth 100000 in
set_option maxHeartbeats 2000000 in
theorem validN_any (x1 x2 : List UInt8) (w : World) (h1 : x1.length ≤ 100) : Calls Tryz.prog 35 #[.agg #[.string ⟨x1.toArray⟩, .string ⟨x2.toArray⟩]] w (BoolPost (validN (x1, x2)) w) := by
  have y0 := heap_alloc_new w (.cells #[.string ⟨x1.toArray⟩, .string ⟨x2.toArray⟩] 51)
  have B0 := Lib.hid ((Below.refl _ w).alloc (Nat.le_refl _) (.cells #[.string ⟨x1.toArray⟩, .string ⟨x2.toArray⟩] 51))
  have HL := Lib.hid (show w.heap.size < (w.alloc (.cells #[.string ⟨x1.toArray⟩, .string ⟨x2.toArray⟩] 51)).heap.size by simp)
  have Y := Lib.hid y0
  obtain ⟨⟨c0, c1⟩, _⟩ := cells2n y0
  have HP := Lib.hid (show ∀ b W, validN (x1, x2) = b → Below w.heap.size w W → BoolPost (validN (x1, x2)) w (.returned (.bool b)) W from fun b W e h => ⟨by rw [e], h⟩)
  have HK : ∀ W, Calls Tryz.prog 65 #[.string ⟨x1.toArray⟩] W (IntPost (chkI x1) W) := fun W => Check_any ⟨x1.toArray⟩ W (by show x1.toArray.size ≤ 1000; rw [List.size_toArray]; omega)
  have HM : ∀ W, Calls Tryz.prog 66 #[.string ⟨x1.toArray⟩, .string ⟨#[]⟩] W (IntPost (cmpI (val x1) 0) W) := fun W => by
    have := Compare_any ⟨x1.toArray⟩ ⟨#[]⟩ W (by show x1.toArray.size ≤ 120; rw [List.size_toArray]; omega) (by decide)
    unfold cmpV at this
    rw [show (⟨#[]⟩ : ByteArray).data.toList = ([] : List UInt8) from rfl, val_nil] at this
    exact this
  unfold IntPost at HK HM
  have HV := Lib.hid (show validN (x1, x2) = (decide (can x1 = x1) && decide (0 ≤ val x1) && decide (x2.length = 32)) from rfl)
  generalize BoolPost (validN (x1, x2)) w = Post at *
  by_cases hc : can x1 = x1
  case neg =>
    have e0 : chkI x1 = 1 := by unfold chkI; rw [if_neg hc]
    rw [e0] at HK
    have HK1 := Lib.hid HK
    have hv := Lib.hid (fun W h => HP.out false W (by rw [HV.out, decide_eq_false hc]; rfl) h)
    clear HK HM e0 hc HV HP y0
    go_enter Tryz.func35, Tryz.ntmps35
    go_wp2_with fail
    refine (HK1.out _).mono ?_
    rintro e w2 ⟨rfl, hb⟩
    have B2 := Lib.hid (below_next B0.out hb ⟨rfl, rfl, rfl, rfl⟩)
    clear hb
    go_wp2_with fail
    exact hv.out _ B2.out
  have e0 : chkI x1 = 0 := by unfold chkI; rw [if_pos hc]
  rw [e0] at HK
  have HK1 := Lib.hid HK
  obtain ⟨k, hk⟩ : ∃ k, cmpI (val x1) 0 = k := ⟨_, rfl⟩
  rw [hk] at HM
  have HM1 := Lib.hid HM
  by_cases hz : 0 ≤ val x1
  case neg =>
    have hk0 : ¬ 0 ≤ k := by rw [← hk]; unfold cmpI; rw [if_pos (by omega)]; omega
    have hkd : decide (0 ≤ k) = false := decide_eq_false hk0
    have hv := Lib.hid (fun W h => HP.out false W (by rw [HV.out, decide_eq_false hz, Bool.and_false]; rfl) h)
    clear HK HM e0 hc hz HV HP y0 hk
    go_enter Tryz.func35, Tryz.ntmps35
    go_wp2_with fail
    refine (HK1.out _).mono ?_
    rintro e w2 ⟨rfl, hb⟩
    have B2 := Lib.hid (below_next B0.out hb ⟨rfl, rfl, rfl, rfl⟩)
    obtain ⟨⟨c2, c3⟩, _⟩ := cells2n ((hb.block _ HL.out).trans Y.out)
    clear hb
    go_wp2_with fail
    refine (HM1.out _).mono ?_
    rintro e w3 ⟨rfl, hb⟩
    have B3 := Lib.hid (below_next B2.out hb ⟨rfl, rfl, rfl, rfl⟩)
    clear hb
    go_wp2_with fail
    exact hv.out _ B3.out
  have hk0 : 0 ≤ k := by rw [← hk]; unfold cmpI; rw [if_neg (by omega)]; split <;> omega
  have hkd : decide (0 ≤ k) = true := decide_eq_true hk0
  have hd : decide (x2.length = 32) = ((x2.length : Int) == 32) := by
    by_cases h : x2.length = 32
    · rw [decide_eq_true h, h]; rfl
    · rw [decide_eq_false h]; exact (beq_eq_false_iff_ne.2 (by omega)).symm
  have hv := Lib.hid (fun W h => HP.out ((x2.length : Int) == 32) W (by rw [HV.out, decide_eq_true hc, decide_eq_true hz, hd]; rfl) h)
  clear HK HM e0 hc hz HV HP y0 hk hd
  go_enter Tryz.func35, Tryz.ntmps35
  go_wp2_with fail
  refine (HK1.out _).mono ?_
  rintro e w2 ⟨rfl, hb⟩
  have B2 := Lib.hid (below_next B0.out hb ⟨rfl, rfl, rfl, rfl⟩)
  have Y2 := Lib.hid ((hb.block _ HL.out).trans Y.out)
  have L2 := Lib.hid (Nat.lt_of_lt_of_le HL.out hb.size)
  obtain ⟨⟨c2, c3⟩, _⟩ := cells2n Y2.out
  clear hb
  go_wp2_with fail
  refine (HM1.out _).mono ?_
  rintro e w3 ⟨rfl, hb⟩
  have B3 := Lib.hid (below_next B2.out hb ⟨rfl, rfl, rfl, rfl⟩)
  obtain ⟨⟨c4, c5⟩, _⟩ := cells2n ((hb.block _ L2.out).trans Y2.out)
  clear hb
  go_wp2_with fail
  exact hv.out _ B3.out
set_option maxRecDepth 100000 in
theorem clo43_any (x1 x2 : List UInt8) (w : World) (h1 : x1.length ≤ 100) : Calls Tryz.prog 37 #[.agg #[.string ⟨x1.toArray⟩, .string ⟨x2.toArray⟩]] w (BoolPost (!validN (x1, x2)) w) := by
  have y0 := heap_alloc_new w (.cells #[.string ⟨x1.toArray⟩, .string ⟨x2.toArray⟩] 51)
  have B0 := Lib.hid ((Below.refl _ w).alloc (Nat.le_refl _) (.cells #[.string ⟨x1.toArray⟩, .string ⟨x2.toArray⟩] 51))
  obtain ⟨⟨c0, c1⟩, _⟩ := cells2n y0
  have HV := Lib.hid (fun W => validN_any x1 x2 W h1)
  unfold BoolPost at HV
  have HP := Lib.hid (show ∀ W, Below w.heap.size w W → BoolPost (!validN (x1, x2)) w (.returned (.bool (!validN (x1, x2)))) W from fun W h => ⟨rfl, h⟩)
  generalize BoolPost (!validN (x1, x2)) w = Post at *
  generalize validN (x1, x2) = b at *
  clear y0
  go_enter Tryz.func37, Tryz.ntmps37
  go_wp2_with fail
  refine (HV.out _).mono ?_
  rintro e w2 ⟨rfl, hb⟩
  have B2 := Lib.hid (below_next B0.out hb ⟨rfl, rfl, rfl, rfl⟩)
  clear hb
  go_wp2_with fail
  exact HP.out _ B2.out
def badN (x : Nd) : Bool := !validN x
theorem any_snocN (l : List Nd) (k : Nat) (h : k < l.length) : (l.take (k + 1)).any badN = ((l.take k).any badN || badN (l.getD k nd0)) := by
  rw [List.take_succ_eq_append_getElem h, List.any_append, List.getD_eq_getElem?_getD, List.getElem?_eq_getElem h]
  simp
theorem any_hitN (l : List Nd) (k : Nat) (h : k < l.length) (hb : badN (l.getD k nd0) = true) : l.any badN = true := List.any_eq_true.2 ⟨_, getD_mem nd0 l k h, hb⟩
set_option maxRecDepth 100000 in
set_option maxHeartbeats 4000000 in
theorem idxN_any (A : Option Addr) (n c : Nat) (ps : List Nd) (w : World) (h : rowNd.Rds w A n c ps) (hz : ∀ p ∈ ps, p.1.length ≤ 100) (hn : n ≤ 100000) :
    Calls Tryz.prog 67 #[.slice A n c, .func (.func 37) #[] #[]] w (IdxP (ps.any badN) w) := by
  have ll := Lib.hid h.len
  have L1 := Lib.hid h
  have HZ := Lib.hid hz
  have HS := Lib.hid (any_snocN ps)
  have HH := Lib.hid (any_hitN ps)
  have HP := Lib.hid (show ∀ i W, decide (0 ≤ i) = ps.any badN → Below w.heap.size w W → IdxP (ps.any badN) w (.returned (.int .i64 i)) W from fun i W h1 h2 => ⟨i, rfl, h1, h2⟩)
  clear h hz
  generalize IdxP (ps.any badN) w = Post at *
  go_enter Tryz.func67, Tryz.ntmps67
  go_wp2_with fail
  have R0 := Lib.hid (show (ps.take 0).any badN = false ∧ Below w.heap.size w w from ⟨by simp, Below.refl _ _⟩)
  go_loopw [8, 5] (fun i _ wr => ∃ k : Nat, k ≤ n ∧ i = .int .i64 (k : Int) ∧ Hid ((ps.take k).any badN = false ∧ Below w.heap.size w wr)) (fun i _ _ => n - (intOf i).toNat)
  case atStart => exact ⟨0, by omega, rfl, R0⟩
  case round =>
    obtain ⟨k, hk, rfl, hR⟩ := hrel
    have HE := Lib.hid hR.out.1
    have HB := Lib.hid hR.out.2
    clear hR R0
    by_cases hlt : k < n
    · have hkl : k < ps.length := by rw [ll.out]; exact hlt
      have hmem := getD_mem nd0 ps k hkl
      have hs1 := Lib.hid (HS.out k hkl)
      have hh1 := Lib.hid (HH.out k hkl)
      obtain ⟨b1, o1, rfl, hb1, _⟩ := L1.out.at_ (by omega)
      have q0 := (L1.out.below HB.out).cell rowNd_ok nd0 k 0 _ hlt rfl
      have q1 := (L1.out.below HB.out).cell rowNd_ok nd0 k 1 _ hlt rfl
      have hz1 := HZ.out _ hmem
      have hki : (k : Int) < (n : Int) := by omega
      have hk0 : (0 : Int) ≤ (k : Int) := by omega
      rcases hp : ps.getD k nd0 with ⟨x1, x2⟩
      rw [hp] at q0 q1 hz1 hs1 hh1
      simp only [Nat.add_zero] at q0 q1 hz1
      have cl := clo43_any x1 x2 wr hz1
      rw [show (!validN (x1, x2)) = badN (x1, x2) from rfl] at cl
      generalize badN (x1, x2) = bd at *
      have CL := Lib.hid cl
      clear cl hmem hkl hp hz1
      go_wp2_with fail
      refine CL.out.mono ?_
      rintro e w1 ⟨rfl, hb⟩
      have HB2 := Lib.hid (below_next HB.out hb ⟨rfl, rfl, rfl, rfl⟩)
      clear hb CL
      cases bd
      · have HE2 := Lib.hid (show (ps.take (k + 1)).any badN = false by rw [hs1.out, HE.out]; rfl)
        go_wp2_with fail
        go_roundw
        case rel => exact ⟨k + 1, by omega, by go_num, Lib.hid ⟨HE2.out, HB2.out⟩⟩
        case measure => simp [intOf]; omega
      · have hv := Lib.hid (HP.out (k : Int) w1 (by rw [hh1.out rfl]; exact decide_eq_true hk0) HB2.out)
        go_wp2_with fail
        exact hv.out
    · have hki : decide ((k : Int) < (n : Int)) = false := by rw [decide_eq_false_iff_not]; omega
      have hv := Lib.hid (HP.out (-1) wr (by
        have e := HE.out
        rw [List.take_of_length_le (by rw [ll.out]; omega)] at e
        rw [e]; rfl) HB.out)
      go_wp2_with fail
      exact hv.out
set_option maxRecDepth 100000 in
theorem conN_any (A : Option Addr) (n c : Nat) (ps : List Nd) (w : World) (h : rowNd.Rds w A n c ps) (hz : ∀ p ∈ ps, p.1.length ≤ 100) (hn : n ≤ 100000) :
    Calls Tryz.prog 36 #[.slice A n c, .func (.func 37) #[] #[]] w (BoolPost (ps.any badN) w) := by
  have HI := Lib.hid (idxN_any A n c ps w h hz hn)
  clear h hz
  go_enter Tryz.func36, Tryz.ntmps36
  go_wp2_with fail
  refine HI.out.mono ?_
  rintro e w1 ⟨i, rfl, hi, hb⟩
  have HI2 := Lib.hid hi
  have HB := Lib.hid hb
  clear hi hb HI
  go_wp2_with fail
  go_ret
  exact ⟨by rw [HI2.out]; rfl, HB.out⟩
end Go.Proofs.YtjcbohbpkodkoaaGreatDoor

/- Audit: contract of Verify. -/
namespace Go.Proofs.YtjcbohbpkodkoaaGreatDoor
open Go.RowKit Go.Maps Num

theorem beside_way (i n : Nat) : (besideN i n).map (fun x => x.2.2) = (wayN i n).reverse := by
  have := parts_way n i 0 n (by omega) (by omega)
  simp only [Nat.sub_zero] at this
  unfold besideN partsN
  rw [List.map_reverse, this]
theorem beside_len (i n : Nat) : (besideN i n).length = (wayN i n).length := by
  have := congrArg List.length (beside_way i n)
  rwa [List.length_map, List.length_reverse] at this
theorem climb_take (own : Nd) (bs : List Pt) (ns : List Nd) (k : Nat) (h1 : k < bs.length) (h2 : k < ns.length) : climbN sha own ((bs.take (k + 1)).map fun x => x.2.2) (ns.take (k + 1)) = stepN sha (climbN sha own ((bs.take k).map fun x => x.2.2) (ns.take k)) ((bs.getD k (0, 0, false)).2.2, ns.getD k nd0) := by
  have e1 : bs.take (k + 1) = bs.take k ++ [bs.getD k (0, 0, false)] := by rw [List.take_succ_eq_append_getElem h1, List.getD_eq_getElem?_getD, List.getElem?_eq_getElem h1]; rfl
  have e2 : ns.take (k + 1) = ns.take k ++ [ns.getD k nd0] := by rw [List.take_succ_eq_append_getElem h2, List.getD_eq_getElem?_getD, List.getElem?_eq_getElem h2]; rfl
  rw [e1, e2, List.map_append, List.map_cons, List.map_nil, climb_snoc sha own _ _ _ _ (by rw [List.length_map, List.length_take, List.length_take]; omega)]
/-- sums on the way stay small -/
theorem climb_small (own : Nd) (fs : List Bool) (ns : List Nd) (h : fs.length = ns.length) (ho : own.1.length ≤ 70) (hn : ∀ x ∈ ns, x.1.length ≤ 70) (hd : own.2.length = 32) (hl : ns.length ≤ 1100) : SmN (climbN sha own fs ns) := by
  have hsum := climb_sum sha fs ns own h
  have hb : ∀ ns : List Nd, (∀ x ∈ ns, x.1.length ≤ 70) → ((ns.map fun x => val x.1).sum).natAbs ≤ ns.length * 10 ^ 70 := by
    intro ns
    induction ns with
    | nil => intro _; simp
    | cons x r ih =>
      intro hx
      have h1 := ih fun y hy => hx y (List.mem_cons_of_mem _ hy)
      have h2 := Nat.lt_of_lt_of_le (val_bd x.1) (Nat.pow_le_pow_right (by omega) (hx x (by simp)) : 10 ^ x.1.length ≤ 10 ^ 70)
      rw [List.map_cons, List.sum_cons, List.length_cons, Nat.add_mul]
      omega
  have h1 := hb ns hn
  have h2 := Nat.lt_of_lt_of_le (val_bd own.1) (Nat.pow_le_pow_right (by omega) ho : 10 ^ own.1.length ≤ 10 ^ 70)
  have h3 : ns.length * 10 ^ 70 ≤ 1100 * 10 ^ 70 := Nat.mul_le_mul_right _ hl
  have h4 : (1100 : Nat) * 10 ^ 70 + 10 ^ 70 < 10 ^ 74 := by decide
  rcases Nat.eq_zero_or_pos fs.length with h0 | h0
  · have e : climbN sha own fs ns = own := by
      rw [List.length_eq_zero_iff.1 h0]; rfl
    rw [e]
    exact ⟨by omega, by omega⟩
  · obtain ⟨fr, f, rfl⟩ : ∃ fr f, fs = fr ++ [f] := ⟨fs.dropLast, fs.getLast (by intro e; rw [e] at h0; simp at h0), (List.dropLast_concat_getLast _).symm⟩
    obtain ⟨nr, y, rfl⟩ : ∃ nr y, ns = nr ++ [y] := ⟨ns.dropLast, ns.getLast (by intro e; rw [e] at h; simp at h), (List.dropLast_concat_getLast _).symm⟩
    have hll : fr.length = nr.length := by simpa using h
    have e : ∃ v t, climbN sha own (fr ++ [f]) (nr ++ [y]) = (txt v, sha t) := by
      rw [climb_snoc sha own fr nr f y hll]
      unfold stepN overN
      cases f
      · exact ⟨_, _, rfl⟩
      · exact ⟨_, _, rfl⟩
    obtain ⟨v, t, e⟩ := e
    rw [e] at hsum ⊢
    rw [val_txt] at hsum
    have hv : v.natAbs < 10 ^ 74 := by omega
    have h5 := txt_bd hv
    exact ⟨by show (txt v).length ≤ 100; omega, by show (sha t).length ≤ 1000; rw [sha_len]; omega⟩
/-- the loop's state: the node that was reached lies in its box -/
structure VrR (w : World) (ob rb pb B7 : Nat) (bs : List Pt) (vb pv rv1 rv2 pi pn : Value) (nd : Nd) (W : World) : Prop where
  box : W.heap[ob]? = some (.cells #[.string ⟨nd.1.toArray⟩, .string ⟨nd.2.toArray⟩] 51)
  bel : Below w.heap.size w W
  sl : rowP.Own B7 W vb bs
  pr : W.heap[pb]? = some (.cells #[pi, pn, pv] 56)
  rt : W.heap[rb]? = some (.cells #[rv1, rv2] 51)
theorem VrR.below {w : World} {ob rb pb B7 : Nat} {bs : List Pt} {vb pv rv1 rv2 pi pn : Value} {nd : Nd} {W W' : World} (h : VrR w ob rb pb B7 bs vb pv rv1 rv2 pi pn nd W) (hb : Below W.heap.size W W') : VrR w ob rb pb B7 bs vb pv rv1 rv2 pi pn nd W' :=
  ⟨(hb.block _ (Array.getElem?_eq_some_iff.1 h.box).1).trans h.box, below_next h.bel hb ⟨rfl, rfl, rfl, rfl⟩, h.sl.below hb, (hb.block _ (Array.getElem?_eq_some_iff.1 h.pr).1).trans h.pr, (hb.block _ (Array.getElem?_eq_some_iff.1 h.rt).1).trans h.rt⟩
theorem VrR.set {w : World} {ob rb pb B7 : Nat} {bs : List Pt} {vb pv rv1 rv2 pi pn : Value} {nd : Nd} {W : World} (h : VrR w ob rb pb B7 bs vb pv rv1 rv2 pi pn nd W) (h1 : w.heap.size ≤ ob) (h2 : ob < B7) (h3 : pb ≠ ob) (h4 : rb ≠ ob) (u1 u2 : List UInt8) :
    VrR w ob rb pb B7 bs vb pv rv1 rv2 pi pn (u1, u2) ((W.setCell ⟨ob, 0, none⟩ (.string ⟨u1.toArray⟩)).setCell ⟨ob, 1, none⟩ (.string ⟨u2.toArray⟩)) := by
  have hr : ∀ q, some ob = some q → q < B7 := fun q e => by have := Option.some.inj e; omega
  refine ⟨set2n h.box _ _, below_set2n h.bel h1 _ _, (h.sl.kept (grown_setCell W ⟨ob, 0, none⟩ _) hr).kept (grown_setCell _ ⟨ob, 1, none⟩ _) hr, ?_, ?_⟩
  · exact (Below.heap_setCell _ ⟨ob, 1, none⟩ _ _ h3).trans ((Below.heap_setCell _ ⟨ob, 0, none⟩ _ _ h3).trans h.pr)
  · exact (Below.heap_setCell _ ⟨ob, 1, none⟩ _ _ h4).trans ((Below.heap_setCell _ ⟨ob, 0, none⟩ _ _ h4).trans h.rt)
end Go.Proofs.YtjcbohbpkodkoaaGreatDoor
