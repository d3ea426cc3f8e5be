/- Audit: contracts of the reference's Abs, Print, leaf. -/
import Derived.Test.YtejaehmoplohdaaGreatDoorQ8
import Derived.Test.YtejaehmoplohdaaGreatDoorQ9
import Derived.Test.YtejaehmoplohdaaGreatDoorQ7
import Derived.Test.YtejaehmoplohdaaGreatDoorQ14
import Derived.Test.YtejaehmoplohdaaGreatDoorQ11
import Derived.Laws.EntriesVeiled
namespace Go.Proofs.YtejaehmoplohdaaGreatDoor
open Go.RowKit Go.Maps Num

theorem abs_dgs (l : List UInt8) : absT l = dgs l := by
  have hd := dgs_val l
  have e : (val l).natAbs = digV (dgs l) := by unfold val; split <;> simp
  unfold absT
  rw [e, txt, if_neg (by omega), Int.natAbs_natCast]
  exact hd.symm
set_option maxRecDepth 100000 in
theorem rAbs_any (l : List UInt8) (w : World) (hs : l.length ≤ 1000) : Calls Tryz.prog 71 #[.string ⟨l.toArray⟩] w (StrPost (absT l) w) := by
  have C := Lib.hid (rdig_any l w (by omega))
  rw [abs_dgs]
  unfold RdgPost at C
  generalize neg l = ng at *
  generalize dgs l = s at *
  go_enter Tryz.func71, Tryz.ntmps71
  go_wp2_with fail
  refine C.out.mono ?_
  rintro e w' ⟨rfl, rfl⟩
  go_wp2_with fail
  go_ret
  exact ⟨rfl, Below.refl _ _⟩
set_option maxRecDepth 100000 in
theorem rPrint_any (l : List UInt8) (w : World) (hs : l.length ≤ 1000) : Calls Tryz.prog 72 #[.string ⟨l.toArray⟩] w (StrPost (prt l) w) := by
  have H1 := Lib.hid (rcan_any l w (by omega))
  unfold RetP at H1
  by_cases he : can l = []
  · have hp : prt l = [48] := by unfold prt; rw [if_pos he]
    rw [hp]
    rw [he] at H1
    clear hp he
    go_enter Tryz.func72, Tryz.ntmps72
    go_wp2_with fail
    refine H1.out.mono ?_
    rintro e w' ⟨rfl, rfl⟩
    go_wp2_with fail
    go_ret
    exact ⟨rfl, Below.refl _ _⟩
  · have hp : prt l = can l := by unfold prt; rw [if_neg he]
    rw [hp]
    obtain ⟨c, r, hne⟩ := cons_ne he
    rw [hne] at H1 ⊢
    clear hp he hne
    go_enter Tryz.func72, Tryz.ntmps72
    go_wp2_with fail
    refine H1.out.mono ?_
    rintro e w' ⟨rfl, rfl⟩
    go_wp2_with fail
    go_ret
    exact ⟨rfl, Below.refl _ _⟩
set_option maxRecDepth 100000 in
set_option maxHeartbeats 4000000 in
theorem rleaf_any (a c m : List UInt8) (w : World) (ha : a.length ≤ 1000) (hcu : c.length ≤ 1000) (hm : m.length ≤ 100) :
    Calls Tryz.prog 40 #[.agg #[.string ⟨a.toArray⟩, .string ⟨c.toArray⟩, .string ⟨m.toArray⟩]] w (NdPost (leafN sha (a, c, m)) w) := by
  have HP := Lib.hid (show ∀ W, Below w.heap.size w W → NdPost (leafN sha (a, c, m)) w (.returned (.agg #[.string ⟨(absT m).toArray⟩, .string ⟨(sha (leafT (a, c, m))).toArray⟩])) W from fun W h => ⟨rfl, h⟩)
  have HA := Lib.hid (show ∀ W, Below w.heap.size w W → Calls Tryz.prog 71 #[.string ⟨m.toArray⟩] W (StrPost (absT m) W) from fun W _ => rAbs_any m W (by omega))
  have HPr := Lib.hid (fun W => rPrint_any m W (by omega))
  have hpl : (prt m).length ≤ 102 := by have := prt_len m; have := can_len m; omega
  have HS := Lib.hid (fun W => Sha.refSum_any ⟨(leafT (a, c, m)).toArray⟩ W (by show (leafT (a, c, m)).toArray.size ≤ _; rw [List.size_toArray]; unfold leafT; simp; omega))
  have e5 := leafT_cat a c m
  rw [show (⟨(leafT (a, c, m)).toArray⟩ : ByteArray).data.toList = leafT (a, c, m) from rfl] at HS
  unfold StrPost at HA HPr
  generalize prt m = p at *
  generalize absT m = am at *
  generalize leafT (a, c, m) = T at *
  generalize hD : Sha.sha T = D at *
  rw [show sha T = D from hD] at HP
  clear hD
  obtain ⟨t1, h1⟩ : ∃ t, ([0] : List UInt8) ++ a = t := ⟨_, rfl⟩
  obtain ⟨t2, h2⟩ : ∃ t, t1 ++ [32] = t := ⟨_, rfl⟩
  obtain ⟨t3, h3⟩ : ∃ t, t2 ++ c = t := ⟨_, rfl⟩
  obtain ⟨t4, h4⟩ : ∃ t, t3 ++ [32] = t := ⟨_, rfl⟩
  rw [h1, h2, h3, h4] at e5
  have l1 : t1.length ≤ 1001 := by rw [← h1]; simp; omega
  have l2 : t2.length ≤ 1002 := by rw [← h2]; simp; omega
  have l3 : t3.length ≤ 2002 := by rw [← h3]; simp; omega
  have l4 : t4.length ≤ 2003 := by rw [← h4]; simp; omega
  have k1 := fun W => cat_run [0] a t1 (by simp; omega) h1 W
  have k2 := fun W => cat_run t1 [32] t2 (by simp; omega) h2 W
  have k3 := fun W => cat_run t2 c t3 (by omega) h3 W
  have k4 := fun W => cat_run t3 [32] t4 (by simp; omega) h4 W
  have k5 := fun W => cat_run t4 p T (by omega) e5 W
  clear h1 h2 h3 h4 e5 l1 l2 l3 l4 ha hcu hm hpl
  have hB0 : Below w.heap.size w ((w.alloc (.cells #[.string ⟨a.toArray⟩, .string ⟨c.toArray⟩, .string ⟨m.toArray⟩] 38)).alloc (.cells #[.string ⟨#[]⟩, .string ⟨#[]⟩] 27)) := ((Below.refl _ w).alloc (Nat.le_refl _) _).alloc (by simp) _
  have y0 : ((w.alloc (.cells #[.string ⟨a.toArray⟩, .string ⟨c.toArray⟩, .string ⟨m.toArray⟩] 38)).alloc (.cells #[.string ⟨#[]⟩, .string ⟨#[]⟩] 27)).heap[w.heap.size]? = some (.cells #[.string ⟨a.toArray⟩, .string ⟨c.toArray⟩, .string ⟨m.toArray⟩] 38) := by
    rw [heap_alloc_old _ _ (by simp)]; exact heap_alloc_new w _
  have y1 : ((w.alloc (.cells #[.string ⟨a.toArray⟩, .string ⟨c.toArray⟩, .string ⟨m.toArray⟩] 38)).alloc (.cells #[.string ⟨#[]⟩, .string ⟨#[]⟩] 27)).heap[w.heap.size + 1]? = some (.cells #[.string ⟨#[]⟩, .string ⟨#[]⟩] 27) := by
    have := heap_alloc_new (w.alloc (.cells #[.string ⟨a.toArray⟩, .string ⟨c.toArray⟩, .string ⟨m.toArray⟩] 38)) (.cells #[.string ⟨#[]⟩, .string ⟨#[]⟩] 27)
    rwa [show (w.alloc (.cells #[.string ⟨a.toArray⟩, .string ⟨c.toArray⟩, .string ⟨m.toArray⟩] 38)).heap.size = w.heap.size + 1 by simp] at this
  have hsz : ((w.alloc (.cells #[.string ⟨a.toArray⟩, .string ⟨c.toArray⟩, .string ⟨m.toArray⟩] 38)).alloc (.cells #[.string ⟨#[]⟩, .string ⟨#[]⟩] 27)).heap.size = w.heap.size + 2 := by simp
  have B0 := Lib.hid hB0
  have Y0 := Lib.hid y0
  have Y1 := Lib.hid y1
  obtain ⟨⟨x0, x1, x2⟩, _⟩ := cells3 y0
  obtain ⟨⟨z0, z1⟩, f0, f1⟩ := cells2n y1
  have SZ := Lib.hid hsz
  clear hB0 y0 y1 hsz
  go_enter Tryz.func40, Tryz.ntmps40
  go_upto_region 1 with fail
  generalize (w.alloc (.cells #[.string ⟨a.toArray⟩, .string ⟨c.toArray⟩, .string ⟨m.toArray⟩] 38)).alloc (.cells #[.string ⟨#[]⟩, .string ⟨#[]⟩] 27) = w1 at *
  have hl0 : w.heap.size < w1.heap.size := by have := SZ.out; omega
  have hl1 : w.heap.size + 1 < w1.heap.size := by have := SZ.out; omega
  have HL := Lib.hid (And.intro hl0 hl1)
  have HNE := Lib.hid (show w.heap.size ≠ w.heap.size + 1 by omega)
  have RB := Lib.hid (show w.heap.size ≤ w.heap.size + 1 by omega)
  generalize w.heap.size + 1 = rb at *
  have HD := Lib.hid (Below.refl w1.heap.size w1)
  have ARM := Lib.hid (fun W (h : Below w1.heap.size w1 W) => (show Below w.heap.size w W ∧ W.heap[w.heap.size]? = some (.cells #[.string ⟨a.toArray⟩, .string ⟨c.toArray⟩, .string ⟨m.toArray⟩] 38) ∧ W.heap[rb]? = some (.cells #[.string ⟨#[]⟩, .string ⟨#[]⟩] 27) from
    ⟨below_next B0.out h ⟨rfl, rfl, rfl, rfl⟩, (h.block _ HL.out.1).trans Y0.out, (h.block _ HL.out.2).trans Y1.out⟩))
  clear B0 Y0 Y1 SZ hl0 hl1
  go_region_held3 (fun w' => w'.cell? ⟨w.heap.size, 0, none⟩ = some (.string ⟨a.toArray⟩) ∧ w'.cell? ⟨w.heap.size, 1, none⟩ = some (.string ⟨c.toArray⟩) ∧ w'.cell? ⟨w.heap.size, 2, none⟩ = some (.string ⟨m.toArray⟩))
    (first | exact ⟨g0, g1, g2⟩ | exact ⟨x0, x1, x2⟩ | exact ⟨(cell_set2n HNE.out _ _).trans g0, (cell_set2n HNE.out _ _).trans g1, (cell_set2n HNE.out _ _).trans g2⟩ | go_keep)
    (first
      | (go_at_call 71; with_reducible refine (HA.out _ (ARM.out _ ?_).1).mono ?_; · (first | exact HD.out | exact Below.drew HD.out)
         rintro e w' ⟨rfl, hb⟩; have HD := Lib.hid (below_next HD.out hb ⟨rfl, rfl, rfl, rfl⟩); have HQ := ARM.out _ HD.out; obtain ⟨⟨g0, g1, g2⟩, _⟩ := cells3 HQ.2.1; obtain ⟨⟨h0, h1⟩, h2, h3⟩ := cells2n HQ.2.2; clear hb HQ)
      | (go_at_call 72; with_reducible refine (HPr.out _).mono ?_
         rintro e w' ⟨rfl, hb⟩; have HD := Lib.hid (below_next HD.out hb ⟨rfl, rfl, rfl, rfl⟩); have HQ := ARM.out _ HD.out; obtain ⟨⟨g0, g1, g2⟩, _⟩ := cells3 HQ.2.1; obtain ⟨⟨h0, h1⟩, h2, h3⟩ := cells2n HQ.2.2; clear hb HQ)
      | (go_at_call 59; with_reducible refine (HS.out _).mono ?_
         rintro e w' ⟨rfl, hb⟩; have HD := Lib.hid (below_next HD.out hb ⟨rfl, rfl, rfl, rfl⟩); have HQ := ARM.out _ HD.out; obtain ⟨⟨g0, g1, g2⟩, _⟩ := cells3 HQ.2.1; obtain ⟨⟨h0, h1⟩, h2, h3⟩ := cells2n HQ.2.2; clear hb HQ))
  all_goals
    go_wp2_with fail
    have HQ := ARM.out _ HD.out
    obtain ⟨⟨q0, q1⟩, _⟩ := cells2n (set2n HQ.2.2 (.string ⟨am.toArray⟩) (.string ⟨D.toArray⟩))
    exact bodyPost_ret (v := .agg #[.string ⟨am.toArray⟩, .string ⟨D.toArray⟩]) (by simp [results, Tryz.results40, go_sem, q0, q1]) rfl (HP.out _ (below_set2n HQ.1 RB.out _ _))
end Go.Proofs.YtejaehmoplohdaaGreatDoor

/- Audit: the contract of the reference's over. -/
namespace Go.Proofs.YtejaehmoplohdaaGreatDoor
open Go.RowKit Go.Maps Num

set_option maxRecDepth 100000 in
set_option maxHeartbeats 8000000 in
theorem rover_any (x1 x2 y1 y2 : List UInt8) (w : World) (hx : SmN (x1, x2)) (hy : SmN (y1, y2)) (sx : (dgs x1).length ≤ 17) (sy : (dgs y1).length ≤ 17) :
    Calls Tryz.prog 61 #[.agg #[.string ⟨x1.toArray⟩, .string ⟨x2.toArray⟩], .agg #[.string ⟨y1.toArray⟩, .string ⟨y2.toArray⟩]] w (NdPost (overN sha (x1, x2) (y1, y2)) w) := by
  obtain ⟨hx1, hx2⟩ := hx
  obtain ⟨hy1, hy2⟩ := hy
  simp only at hx1 hx2 hy1 hy2
  have HP := Lib.hid (show ∀ W, Below w.heap.size w W → NdPost (overN sha (x1, x2) (y1, y2)) w (.returned (.agg #[.string ⟨(txt (val x1 + val y1)).toArray⟩, .string ⟨(sha (overT (x1, x2) (y1, y2))).toArray⟩])) W from fun W h => ⟨rfl, h⟩)
  have HA := Lib.hid (show ∀ W, Calls Tryz.prog 95 #[.string ⟨x1.toArray⟩, .string ⟨y1.toArray⟩] W (StrPost (txt (val x1 + val y1)) W) from fun W => (radd_any x1 y1 W (by omega) (by omega) sx sy).mono fun e w' h => ⟨h.1, h.2 ▸ Below.refl _ _⟩)
  have HPx := Lib.hid (fun W => rPrint_any x1 W (by omega))
  have HPy := Lib.hid (fun W => rPrint_any y1 W (by omega))
  have hpx : (prt x1).length ≤ 102 := by have := prt_len x1; have := can_len x1; omega
  have hpy : (prt y1).length ≤ 102 := by have := prt_len y1; have := can_len y1; omega
  have HS := Lib.hid (fun W => Sha.refSum_any ⟨(overT (x1, x2) (y1, y2)).toArray⟩ W (by show (overT (x1, x2) (y1, y2)).toArray.size ≤ _; rw [List.size_toArray]; unfold overT; simp; omega))
  have e5 := overT_cat x1 x2 y1 y2
  rw [show (⟨(overT (x1, x2) (y1, y2)).toArray⟩ : ByteArray).data.toList = overT (x1, x2) (y1, y2) from rfl] at HS
  unfold StrPost at HA HPx HPy
  generalize prt x1 = px at *
  generalize prt y1 = py at *
  generalize txt (val x1 + val y1) = sm at *
  generalize overT (x1, x2) (y1, y2) = T at *
  generalize hD : Sha.sha T = D at *
  rw [show sha T = D from hD] at HP
  clear hD
  obtain ⟨t1, h1⟩ : ∃ t, ([1] : List UInt8) ++ px = t := ⟨_, rfl⟩
  obtain ⟨t2, h2⟩ : ∃ t, t1 ++ [32] = t := ⟨_, rfl⟩
  obtain ⟨t3, h3⟩ : ∃ t, t2 ++ x2 = t := ⟨_, rfl⟩
  obtain ⟨t4, h4⟩ : ∃ t, t3 ++ py = t := ⟨_, rfl⟩
  obtain ⟨t5, h5⟩ : ∃ t, t4 ++ [32] = t := ⟨_, rfl⟩
  rw [h1, h2, h3, h4, h5] at e5
  have l1 : t1.length ≤ 103 := by rw [← h1]; simp; omega
  have l2 : t2.length ≤ 104 := by rw [← h2]; simp; omega
  have l3 : t3.length ≤ 1104 := by rw [← h3]; simp; omega
  have l4 : t4.length ≤ 1206 := by rw [← h4]; simp; omega
  have l5 : t5.length ≤ 1207 := by rw [← h5]; simp; omega
  have k1 := fun W => cat_run [1] px t1 (by simp; omega) h1 W
  have k2 := fun W => cat_run t1 [32] t2 (by simp; omega) h2 W
  have k3 := fun W => cat_run t2 x2 t3 (by omega) h3 W
  have k4 := fun W => cat_run t3 py t4 (by omega) h4 W
  have k5 := fun W => cat_run t4 [32] t5 (by simp; omega) h5 W
  have k6 := fun W => cat_run t5 y2 T (by omega) e5 W
  clear h1 h2 h3 h4 h5 e5 l1 l2 l3 l4 l5 hx1 hx2 hy1 hy2 hpx hpy sx sy
  have hB0 : Below w.heap.size w (((w.alloc (.cells #[.string ⟨x1.toArray⟩, .string ⟨x2.toArray⟩] 27)).alloc (.cells #[.string ⟨y1.toArray⟩, .string ⟨y2.toArray⟩] 27)).alloc (.cells #[.string ⟨#[]⟩, .string ⟨#[]⟩] 27)) := (((Below.refl _ w).alloc (Nat.le_refl _) _).alloc (by simp) _).alloc (by simp; omega) _
  obtain ⟨y0', y1', y2'⟩ := alloc_three w (.string ⟨x1.toArray⟩) (.string ⟨x2.toArray⟩) (.string ⟨y1.toArray⟩) (.string ⟨y2.toArray⟩) (.string ⟨#[]⟩) (.string ⟨#[]⟩) 27
  have hsz : (((w.alloc (.cells #[.string ⟨x1.toArray⟩, .string ⟨x2.toArray⟩] 27)).alloc (.cells #[.string ⟨y1.toArray⟩, .string ⟨y2.toArray⟩] 27)).alloc (.cells #[.string ⟨#[]⟩, .string ⟨#[]⟩] 27)).heap.size = w.heap.size + 3 := by simp
  have B0 := Lib.hid hB0
  have Y0 := Lib.hid y0'
  have Y1 := Lib.hid y1'
  have Y2 := Lib.hid y2'
  obtain ⟨⟨q0, q1⟩, _⟩ := cells2n y0'
  obtain ⟨⟨r0, r1⟩, _⟩ := cells2n y1'
  obtain ⟨⟨z0, z1⟩, f0, f1⟩ := cells2n y2'
  have SZ := Lib.hid hsz
  clear hB0 y0' y1' y2' hsz
  go_enter Tryz.func61, Tryz.ntmps61
  go_upto_region 1 with fail
  generalize ((w.alloc (.cells #[.string ⟨x1.toArray⟩, .string ⟨x2.toArray⟩] 27)).alloc (.cells #[.string ⟨y1.toArray⟩, .string ⟨y2.toArray⟩] 27)).alloc (.cells #[.string ⟨#[]⟩, .string ⟨#[]⟩] 27) = w1 at *
  have HL := Lib.hid (show w.heap.size < w1.heap.size ∧ w.heap.size + 1 < w1.heap.size ∧ w.heap.size + 1 + 1 < w1.heap.size by have := SZ.out; omega)
  have HNE := Lib.hid (show w.heap.size ≠ w.heap.size + 1 + 1 ∧ w.heap.size + 1 ≠ w.heap.size + 1 + 1 by omega)
  have RB := Lib.hid (show w.heap.size ≤ w.heap.size + 1 + 1 by omega)
  generalize w.heap.size + 1 + 1 = rb at *
  generalize w.heap.size + 1 = yb at *
  have HD := Lib.hid (Below.refl w1.heap.size w1)
  have ARM := Lib.hid (fun W (h : Below w1.heap.size w1 W) => (show Below w.heap.size w W ∧ W.heap[w.heap.size]? = some (.cells #[.string ⟨x1.toArray⟩, .string ⟨x2.toArray⟩] 27) ∧ W.heap[yb]? = some (.cells #[.string ⟨y1.toArray⟩, .string ⟨y2.toArray⟩] 27) ∧ W.heap[rb]? = some (.cells #[.string ⟨#[]⟩, .string ⟨#[]⟩] 27) from
    ⟨below_next B0.out h ⟨rfl, rfl, rfl, rfl⟩, (h.block _ HL.out.1).trans Y0.out, (h.block _ HL.out.2.1).trans Y1.out, (h.block _ HL.out.2.2).trans Y2.out⟩))
  clear B0 Y0 Y1 Y2 SZ
  go_region_held3 (fun w' => w'.cell? ⟨w.heap.size, 0, none⟩ = some (.string ⟨x1.toArray⟩) ∧ w'.cell? ⟨w.heap.size, 1, none⟩ = some (.string ⟨x2.toArray⟩) ∧ w'.cell? ⟨yb, 0, none⟩ = some (.string ⟨y1.toArray⟩) ∧ w'.cell? ⟨yb, 1, none⟩ = some (.string ⟨y2.toArray⟩))
    (first | exact ⟨g0, g1, g2, g3⟩ | exact ⟨q0, q1, r0, r1⟩ | exact ⟨(cell_set2n HNE.out.1 _ _).trans g0, (cell_set2n HNE.out.1 _ _).trans g1, (cell_set2n HNE.out.2 _ _).trans g2, (cell_set2n HNE.out.2 _ _).trans g3⟩ | go_keep)
    (first
      | (go_at_call 72; (first | with_reducible refine (HPx.out _).mono ?_ | with_reducible refine (HPy.out _).mono ?_)
         rintro e w' ⟨rfl, hb⟩; have HD := Lib.hid (below_next HD.out hb ⟨rfl, rfl, rfl, rfl⟩); have HQ := ARM.out _ HD.out; obtain ⟨⟨g0, g1⟩, _⟩ := cells2n HQ.2.1; obtain ⟨⟨g2, g3⟩, _⟩ := cells2n HQ.2.2.1; obtain ⟨⟨h0, h1⟩, h2, h3⟩ := cells2n HQ.2.2.2; clear hb HQ))
  all_goals
    go_wp2_with fail
    refine (HA.out _).mono ?_
    rintro e w' ⟨rfl, hb⟩
    have HD := Lib.hid (below_next HD.out hb ⟨rfl, rfl, rfl, rfl⟩)
    have HQ := ARM.out _ HD.out
    obtain ⟨⟨g0, g1⟩, _⟩ := cells2n HQ.2.1
    obtain ⟨⟨g2, g3⟩, _⟩ := cells2n HQ.2.2.1
    obtain ⟨⟨h0, h1⟩, h2, h3⟩ := cells2n HQ.2.2.2
    clear hb HQ
    go_wp2_with fail
    refine (HS.out _).mono ?_
    rintro e w' ⟨rfl, hb⟩
    have HD := Lib.hid (below_next HD.out hb ⟨rfl, rfl, rfl, rfl⟩)
    have HQ := ARM.out _ HD.out
    obtain ⟨⟨g0, g1⟩, _⟩ := cells2n HQ.2.1
    obtain ⟨⟨g2, g3⟩, _⟩ := cells2n HQ.2.2.1
    obtain ⟨⟨h0, h1⟩, h2, h3⟩ := cells2n HQ.2.2.2
    clear hb HQ
    go_wp2_with fail
    have HQ := ARM.out _ HD.out
    obtain ⟨⟨q0, q1⟩, _⟩ := cells2n (set2n HQ.2.2.2 (.string ⟨sm.toArray⟩) (.string ⟨D.toArray⟩))
    exact bodyPost_ret (v := .agg #[.string ⟨sm.toArray⟩, .string ⟨D.toArray⟩]) (by simp [results, Tryz.results61, go_sem, q0, q1]) rfl (HP.out _ (below_set2n HQ.1 RB.out _ _))
end Go.Proofs.YtejaehmoplohdaaGreatDoor

/- Audit: contracts of the reference's root, check, Root, Leaf. -/
namespace Go.Proofs.YtejaehmoplohdaaGreatDoor
open Go.RowKit Go.Maps Num

/-- balances of the sizes of the laws -/
def ShB (l : List Ln) : Prop := ∀ x ∈ l, SmB x ∧ x.2.2.length ≤ 13
theorem ShB.take {l : List Ln} (h : ShB l) (k : Nat) : ShB (l.take k) := fun x hx => h x (List.mem_of_mem_take hx)
theorem ShB.drop {l : List Ln} (h : ShB l) (k : Nat) : ShB (l.drop k) := fun x hx => h x (List.mem_of_mem_drop hx)
theorem val_le13 {a : List UInt8} (h : a.length ≤ 13) : (val a).natAbs < 10 ^ 13 := Nat.lt_of_lt_of_le (val_bd a) (Nat.pow_le_pow_right (by omega) h)
theorem absS_bd13 {l : List Ln} (h : ∀ x ∈ l, x.2.2.length ≤ 13) : 0 ≤ absS l ∧ absS l ≤ l.length * 10 ^ 13 := by
  induction l with
  | nil => simp [absS]
  | cons b r ih =>
    have h1 := ih fun x hx => h x (List.mem_cons_of_mem _ hx)
    have h2 := val_le13 (h b (by simp))
    have e : absS (b :: r) = ((val b.2.2).natAbs : Int) + absS r := by simp [absS]
    rw [e, List.length_cons]
    have h3 : (((r.length + 1 : Nat)) : Int) * 10 ^ 13 = (r.length : Int) * 10 ^ 13 + 10 ^ 13 := by rw [Int.natCast_add, Int.add_mul]; simp
    rw [h3]
    have h4 : ((val b.2.2).natAbs : Int) < 10 ^ 13 := by exact_mod_cast h2
    constructor
    · omega
    · omega
theorem absS_len13 {l : List Ln} (h : ∀ x ∈ l, x.2.2.length ≤ 13) (hn : l.length ≤ 100) : (txt (absS l)).length ≤ 17 := by
  have h1 := absS_bd13 h
  have h3 : (absS l).natAbs < 10 ^ 16 := by omega
  have := txt_bd h3
  omega
theorem ShB.root {l : List Ln} (h : ShB l) (hn : l.length ≤ 100) : SmN (rootN sha l) ∧ (dgs (rootN sha l).1).length ≤ 17 := by
  have h1 := root_len l (fun x hx => (h x hx).1.2.2) (by omega)
  have h2 := dgs_len (rootN sha l).1
  have h3 : (rootN sha l).1.length ≤ 17 := by rw [root_sum]; exact absS_len13 (fun x hx => (h x hx).2) hn
  exact ⟨⟨by omega, by omega⟩, by omega⟩
set_option maxRecDepth 100000 in
set_option maxHeartbeats 8000000 in
theorem rroot_any (m : Nat) : ∀ (A : Option Addr) (n c : Nat) (l : List Ln) (w : World), n ≤ m → n ≤ 100 → rowB.Rds w A n c l → ShB l →
    Calls Tryz.prog 35 #[.slice A n c] w (NdPost (rootN sha l) w) := by
  induction m with
  | zero =>
    intro A n c l w hm hn hl htb
    obtain rfl : n = 0 := by omega
    obtain rfl : l = [] := List.length_eq_zero_iff.1 hl.len
    have HP := Lib.hid (show ∀ W, Below w.heap.size w W → NdPost (rootN sha []) w (.returned (.agg #[.string ⟨#[]⟩, .string ⟨(sha []).toArray⟩])) W from fun W h => ⟨rfl, h⟩)
    have HS := Lib.hid (fun W => Sha.refSum_any ⟨#[]⟩ W (by decide))
    rw [show (⟨#[]⟩ : ByteArray).data.toList = ([] : List UInt8) from rfl] at HS
    have Y := Lib.hid (heap_alloc_new w (.cells #[.string ⟨#[]⟩, .string ⟨#[]⟩] 27))
    have B0 := Lib.hid ((Below.refl _ w).alloc (Nat.le_refl _) (.cells #[.string ⟨#[]⟩, .string ⟨#[]⟩] 27))
    have hlt : w.heap.size < (w.alloc (.cells #[.string ⟨#[]⟩, .string ⟨#[]⟩] 27)).heap.size := by simp
    have HL := Lib.hid hlt
    generalize hD : Sha.sha [] = D at *
    rw [show sha [] = D from hD] at HP
    clear hD hl htb hlt
    go_enter Tryz.func35, Tryz.ntmps35
    go_wp2_with fail
    refine (HS.out _).mono ?_
    rintro e w2 ⟨rfl, hb⟩
    have B2 := Lib.hid (below_next B0.out hb ⟨rfl, rfl, rfl, rfl⟩)
    have y2 := (hb.block _ HL.out).trans Y.out
    obtain ⟨⟨z0, z1⟩, f0, f1⟩ := cells2n y2
    obtain ⟨⟨q0, q1⟩, _⟩ := cells2n (set2n y2 (.string ⟨#[]⟩) (.string ⟨D.toArray⟩))
    clear hb y2
    go_wp2_with fail
    exact bodyPost_ret (v := .agg #[.string ⟨#[]⟩, .string ⟨D.toArray⟩]) (by simp [results, Tryz.results35, go_sem, q0, q1]) rfl (HP.out _ (below_set2n B2.out (Nat.le_refl _) _ _))
  | succ m ih =>
    intro A n c l w hm hn hl htb
    rcases Nat.lt_or_ge n 2 with h2 | h2
    · rcases Nat.eq_zero_or_pos n with h0 | h0
      · exact ih A n c l w (by omega) hn hl htb
      · obtain rfl : n = 1 := by omega
        obtain ⟨x, rfl⟩ : ∃ x, l = [x] := List.length_eq_one_iff.1 hl.len
        obtain ⟨b1, o1, rfl, hb1, _⟩ := hl.at_ (by omega)
        have q0 := hl.cell rowB_ok ln0 0 0 _ (by omega) rfl
        have q1 := hl.cell rowB_ok ln0 0 1 _ (by omega) rfl
        have q2 := hl.cell rowB_ok ln0 0 2 _ (by omega) rfl
        obtain ⟨xa, xc, xm⟩ := x
        simp only [List.getD_cons_zero, Nat.zero_mul, Nat.add_zero] at q0 q1 q2
        have hx := htb (xa, xc, xm) (by simp)
        obtain ⟨⟨s1, s2, s3⟩, hcn⟩ := hx
        simp only at s1 s2 s3 hcn
        have HP := Lib.hid (show ∀ W, Below w.heap.size w W → NdPost (rootN sha [(xa, xc, xm)]) w (.returned (ndV (leafN sha (xa, xc, xm)))) W from fun W h => ⟨rfl, h⟩)
        have HLf := Lib.hid (fun W (h : Below w.heap.size w W) => rleaf_any xa xc xm W (by omega) (by omega) (by omega))
        have Y := Lib.hid (heap_alloc_new w (.cells #[.string ⟨#[]⟩, .string ⟨#[]⟩] 27))
        have B0 := Lib.hid ((Below.refl _ w).alloc (Nat.le_refl _) (.cells #[.string ⟨#[]⟩, .string ⟨#[]⟩] 27))
        have HL := Lib.hid (show w.heap.size < (w.alloc (.cells #[.string ⟨#[]⟩, .string ⟨#[]⟩] 27)).heap.size by simp)
        have p0 := (B0.out.cell (p := ⟨b1, o1, none⟩) hb1).trans q0
        have p1 := (B0.out.cell (p := ⟨b1, o1 + 1, none⟩) hb1).trans q1
        have p2 := (B0.out.cell (p := ⟨b1, o1 + 2, none⟩) hb1).trans q2
        unfold NdPost ndV at HLf
        unfold ndV at HP
        generalize leafN sha (xa, xc, xm) = nd at *
        obtain ⟨n1, n2⟩ := nd
        simp only at HP HLf
        clear hl htb q0 q1 q2 s1 s2 s3 hcn
        go_enter Tryz.func35, Tryz.ntmps35
        go_wp2_with fail
        refine (HLf.out _ B0.out).mono ?_
        rintro e w2 ⟨rfl, hb⟩
        have B2 := Lib.hid (below_next B0.out hb ⟨rfl, rfl, rfl, rfl⟩)
        have y2 := (hb.block _ HL.out).trans Y.out
        obtain ⟨⟨z0, z1⟩, f0, f1⟩ := cells2n y2
        obtain ⟨⟨q0, q1⟩, _⟩ := cells2n (set2n y2 (.string ⟨n1.toArray⟩) (.string ⟨n2.toArray⟩))
        clear hb y2 p0 p1 p2
        go_wp2_with fail
        exact bodyPost_ret (v := .agg #[.string ⟨n1.toArray⟩, .string ⟨n2.toArray⟩]) (by simp [results, Tryz.results35, go_sem, q0, q1]) rfl (HP.out _ (below_set2n B2.out (Nat.le_refl _) _ _))
    · obtain ⟨b, o, rfl, hb, _⟩ := hl.at_ (by omega)
      have hlen := hl.len
      have d0 : ((n : Int) == 0) = false := beq_eq_false_iff_ne.2 (by omega)
      have d1 : ((n : Int) == 1) = false := beq_eq_false_iff_ne.2 (by omega)
      have hk1 := cutN_pos n h2
      have hk2 := cutN_lt n h2
      have hcap := hl.cap
      have HC := Lib.hid (fun W => power_any n W (by omega))
      have hrt := root_two sha l (by omega)
      rw [hlen] at hrt
      obtain ⟨k, hk⟩ : ∃ k, k = cutN n := ⟨_, rfl⟩
      rw [← hk] at hk1 hk2 HC hrt
      have b1 : (k : Int) ≤ (c : Int) := by omega
      have b2 : (k : Int) ≤ (n : Int) := by omega
      have hne : c ≠ k := by omega
      have R1 := Lib.hid (hl.take rowB_ok k (by omega))
      have R2 := Lib.hid (hl.drop rowB_ok k (by omega))
      have L1 : (l.take k).length ≤ 100 := by rw [List.length_take]; omega
      have L2 : (l.drop k).length ≤ 100 := by rw [List.length_drop]; omega
      have S1 := (htb.take k).root L1
      have S2 := (htb.drop k).root L2
      have Y := Lib.hid (heap_alloc_new w (.cells #[.string ⟨#[]⟩, .string ⟨#[]⟩] 27))
      have B0 := Lib.hid ((Below.refl _ w).alloc (Nat.le_refl _) (.cells #[.string ⟨#[]⟩, .string ⟨#[]⟩] 27))
      have HL := Lib.hid (show w.heap.size < (w.alloc (.cells #[.string ⟨#[]⟩, .string ⟨#[]⟩] 27)).heap.size by simp)
      have I1 := Lib.hid (fun W (h : Below w.heap.size w W) => ih (some ⟨b, o, none⟩) k c (l.take k) W (by omega) (by omega) (R1.out.below h) (htb.take k))
      have I2 := Lib.hid (fun W (h : Below w.heap.size w W) => ih (some ⟨b, o + k * 3, none⟩) (n - k) (c - k) (l.drop k) W (by omega) (by omega) (R2.out.below h) (htb.drop k))
      have HP := Lib.hid (show ∀ W, Below w.heap.size w W → NdPost (rootN sha l) w (.returned (ndV (overN sha (rootN sha (l.take k)) (rootN sha (l.drop k))))) W from fun W h => ⟨by rw [hrt], h⟩)
      unfold NdPost ndV at I1 I2
      rcases hq1 : rootN sha (l.take k) with ⟨u1, u2⟩
      rcases hq2 : rootN sha (l.drop k) with ⟨v1, v2⟩
      rw [hq1] at I1 HP S1
      rw [hq2] at I2 HP S2
      have HO := Lib.hid (fun W (h : Below w.heap.size w W) => rover_any u1 u2 v1 v2 W S1.1 S2.1 S1.2 S2.2)
      unfold NdPost ndV at HO
      unfold ndV at HP
      generalize overN sha (u1, u2) (v1, v2) = nd at *
      obtain ⟨n1, n2⟩ := nd
      simp only at HP HO I1 I2
      have BB := Lib.hid (show ∀ W, Below (w.alloc (.cells #[.string ⟨#[]⟩, .string ⟨#[]⟩] 27)).heap.size (w.alloc (.cells #[.string ⟨#[]⟩, .string ⟨#[]⟩] 27)) W → Below w.heap.size w W ∧ W.heap[w.heap.size]? = some (.cells #[.string ⟨#[]⟩, .string ⟨#[]⟩] 27) from fun W h => ⟨below_next B0.out h ⟨rfl, rfl, rfl, rfl⟩, (h.block _ HL.out).trans Y.out⟩)
      clear hl htb hrt hq1 hq2 S1 S2 L1 L2 R1 R2 ih hlen hcap hk Y HL
      go_enter Tryz.func35, Tryz.ntmps35
      go_wp2_with fail
      refine (HC.out _).mono ?_
      rintro e w1 ⟨rfl, rfl⟩
      go_upto_region 6 with fail
      generalize w.alloc (.cells #[.string ⟨#[]⟩, .string ⟨#[]⟩] 27) = w1 at *
      have HD := Lib.hid (Below.refl w1.heap.size w1)
      go_region_held3 (fun _ => True) (exact True.intro)
        (first
          | (go_at_call 35; (first | with_reducible refine (I1.out _ (BB.out _ ?_).1).mono ?_ | with_reducible refine (I2.out _ (BB.out _ ?_).1).mono ?_); · (first | exact HD.out | exact Below.drew HD.out)
             rintro e w' ⟨rfl, hb⟩; have HD := Lib.hid (below_next HD.out hb ⟨rfl, rfl, rfl, rfl⟩); have HQ := BB.out _ HD.out; obtain ⟨⟨h0, h1⟩, h2, h3⟩ := cells2n HQ.2; clear hb HQ)
          | (go_at_call 61; with_reducible refine (HO.out _ (BB.out _ HD.out).1).mono ?_
             rintro e w' ⟨rfl, hb⟩; have HD := Lib.hid (below_next HD.out hb ⟨rfl, rfl, rfl, rfl⟩); have HQ := BB.out _ HD.out; obtain ⟨⟨h0, h1⟩, h2, h3⟩ := cells2n HQ.2; clear hb HQ))
      all_goals
        go_wp2_with fail
        have HQ := BB.out _ HD.out
        obtain ⟨⟨q0, q1⟩, _⟩ := cells2n (set2n HQ.2 (.string ⟨n1.toArray⟩) (.string ⟨n2.toArray⟩))
        exact bodyPost_ret (v := .agg #[.string ⟨n1.toArray⟩, .string ⟨n2.toArray⟩]) (by simp [results, Tryz.results35, go_sem, q0, q1]) rfl (HP.out _ (below_set2n HQ.1 (Nat.le_refl _) _ _))
end Go.Proofs.YtejaehmoplohdaaGreatDoor

/- Audit: contracts of the reference's check, Root, Leaf. -/
namespace Go.Proofs.YtejaehmoplohdaaGreatDoor
open Go.RowKit Go.Maps Num

set_option maxRecDepth 100000 in
theorem rcheck_any (A : Option Addr) (n c : Nat) (l : List Ln) (w : World) (hl : rowB.Rds w A n c l) (hs : ∀ x ∈ l, SmB x) (hn : n ≤ 1000) : Calls Tryz.prog 34 #[.slice A n c] w (IntPost (lisI l) w) := by
  have HM := Lib.hid (rCheckB_any A n c l w hl (fun x hx => by have := hs x hx; unfold SmB at this; omega) (by omega))
  unfold BoolPost at HM
  unfold lisI
  have hd2 : ¬ (1024 : Int) < (n : Int) := by omega
  clear hl hs
  cases hb : listB l
  · rw [hb] at HM
    have e0 : (if (false = true) then (0 : Int) else 1) = 1 := rfl
    rw [e0]
    clear hb e0
    go_enter Tryz.func34, Tryz.ntmps34
    go_wp2_with fail
    refine HM.out.mono ?_
    rintro e w1 ⟨rfl, hb1⟩
    go_wp2_with fail
    go_ret
    exact ⟨rfl, hb1⟩
  · rw [hb] at HM
    have e0 : (if (true = true) then (0 : Int) else 1) = 0 := rfl
    rw [e0]
    clear hb e0
    go_enter Tryz.func34, Tryz.ntmps34
    go_wp2_with fail
    refine HM.out.mono ?_
    rintro e w1 ⟨rfl, hb1⟩
    go_wp2_with fail
    go_ret
    exact ⟨rfl, hb1⟩
set_option maxRecDepth 100000 in
set_option maxHeartbeats 4000000 in
theorem rRoot_any (A : Option Addr) (n c : Nat) (l : List Ln) (w : World) (hl : rowB.Rds w A n c l) (hs : ShB l) (hn : n ≤ 100) :
    Calls Tryz.prog 12 #[.slice A n c] w (NdC (rootT l) (lisI l) w) := by
  have HK := Lib.hid (fun W (h : Below w.heap.size w W) => rcheck_any A n c l W (hl.below h) (fun x hx => (hs x hx).1) (by omega))
  have Y := Lib.hid (heap_alloc_new w (.cells #[.string ⟨#[]⟩, .string ⟨#[]⟩] 27))
  have B0 := Lib.hid ((Below.refl _ w).alloc (Nat.le_refl _) (.cells #[.string ⟨#[]⟩, .string ⟨#[]⟩] 27))
  have HL := Lib.hid (show w.heap.size < (w.alloc (.cells #[.string ⟨#[]⟩, .string ⟨#[]⟩] 27)).heap.size by simp)
  unfold IntPost at HK
  cases hb : listB l
  · have e0 : lisI l = 1 := by unfold lisI; rw [hb]; rfl
    have e1 : rootT l = ([], []) := by unfold rootT; rw [hb]; rfl
    have HP := Lib.hid (show ∀ W, Below w.heap.size w W → NdC (rootT l) (lisI l) w (.returned (.tuple #[.agg #[.string ⟨#[]⟩, .string ⟨#[]⟩], .int .i64 1])) W from fun W h => ⟨by rw [e0, e1]; rfl, h⟩)
    rw [e0] at HK HP
    rw [e0]
    clear hb e0 e1 hl hs
    generalize NdC (rootT l) 1 w = Post at *
    go_enter Tryz.func12, Tryz.ntmps12
    go_wp2_with fail
    refine (HK.out _ B0.out).mono ?_
    rintro e w2 ⟨rfl, hb⟩
    have B2 := Lib.hid (below_next B0.out hb ⟨rfl, rfl, rfl, rfl⟩)
    have yy := (hb.block _ HL.out).trans Y.out
    obtain ⟨⟨z0, z1⟩, p0, p1⟩ := cells2n yy
    obtain ⟨⟨q0, q1⟩, _⟩ := cells2n (set2n yy (.string ⟨#[]⟩) (.string ⟨#[]⟩))
    clear hb yy
    go_wp2_with fail
    exact bodyPost_ret (v := .tuple #[.agg #[.string ⟨#[]⟩, .string ⟨#[]⟩], .int .i64 1]) (by simp [results, Tryz.results12, go_sem, q0, q1]) rfl (HP.out _ (below_set2n B2.out (Nat.le_refl _) _ _))
  · have e0 : lisI l = 0 := by unfold lisI; rw [hb]; rfl
    have e1 : rootT l = rootN sha l := by unfold rootT; rw [hb]; rfl
    have HP := Lib.hid (show ∀ n1 n2 W, rootN sha l = (n1, n2) → Below w.heap.size w W → NdC (rootT l) (lisI l) w (.returned (.tuple #[.agg #[.string ⟨n1.toArray⟩, .string ⟨n2.toArray⟩], .int .i64 0])) W from fun n1 n2 W e h => ⟨by rw [e0, e1, e]; rfl, h⟩)
    have HR := Lib.hid (fun W (h : Below w.heap.size w W) => rroot_any n A n c l W (Nat.le_refl _) hn (hl.below h) hs)
    rw [e0] at HK HP
    rw [e0]
    unfold NdPost ndV at HR
    rcases hrt : rootN sha l with ⟨n1, n2⟩
    rw [hrt] at HR
    have HP2 := Lib.hid (fun W h => HP.out n1 n2 W hrt h)
    simp only at HR
    clear hb e0 e1 hl hs hrt HP
    generalize NdC (rootT l) 0 w = Post at *
    go_enter Tryz.func12, Tryz.ntmps12
    go_wp2_with fail
    refine (HK.out _ B0.out).mono ?_
    rintro e w2 ⟨rfl, hb⟩
    have B2 := Lib.hid (below_next B0.out hb ⟨rfl, rfl, rfl, rfl⟩)
    have Y2 := Lib.hid ((hb.block _ HL.out).trans Y.out)
    have L2 := Lib.hid (Nat.lt_of_lt_of_le HL.out hb.size)
    clear hb
    go_wp2_with fail
    refine (HR.out _ B2.out).mono ?_
    rintro e w3 ⟨rfl, hb⟩
    have B3 := Lib.hid (below_next B2.out hb ⟨rfl, rfl, rfl, rfl⟩)
    have yy := (hb.block _ L2.out).trans Y2.out
    obtain ⟨⟨z0, z1⟩, p0, p1⟩ := cells2n yy
    obtain ⟨⟨q0, q1⟩, _⟩ := cells2n (set2n yy (.string ⟨n1.toArray⟩) (.string ⟨n2.toArray⟩))
    clear hb yy
    go_wp2_with fail
    exact bodyPost_ret (v := .tuple #[.agg #[.string ⟨n1.toArray⟩, .string ⟨n2.toArray⟩], .int .i64 0]) (by simp [results, Tryz.results12, go_sem, q0, q1]) rfl (HP2.out _ (below_set2n B3.out (Nat.le_refl _) _ _))
set_option maxRecDepth 100000 in
set_option maxHeartbeats 4000000 in
theorem rLeaf_any (a cu m : List UInt8) (w : World) (hs : SmB (a, cu, m)) :
    Calls Tryz.prog 17 #[.agg #[.string ⟨a.toArray⟩, .string ⟨cu.toArray⟩, .string ⟨m.toArray⟩]] w (NdC (leafC (a, cu, m)) (lisI [(a, cu, m)]) w) := by
  have y0 : ((w.alloc (.cells #[.string ⟨a.toArray⟩, .string ⟨cu.toArray⟩, .string ⟨m.toArray⟩] 38)).alloc (.cells #[.string ⟨#[]⟩, .string ⟨#[]⟩] 27)).heap[w.heap.size]? = some (.cells #[.string ⟨a.toArray⟩, .string ⟨cu.toArray⟩, .string ⟨m.toArray⟩] 38) := by
    rw [heap_alloc_old _ _ (by simp)]; exact heap_alloc_new w _
  have y1 : ((w.alloc (.cells #[.string ⟨a.toArray⟩, .string ⟨cu.toArray⟩, .string ⟨m.toArray⟩] 38)).alloc (.cells #[.string ⟨#[]⟩, .string ⟨#[]⟩] 27)).heap[w.heap.size + 1]? = some (.cells #[.string ⟨#[]⟩, .string ⟨#[]⟩] 27) := by
    have := heap_alloc_new (w.alloc (.cells #[.string ⟨a.toArray⟩, .string ⟨cu.toArray⟩, .string ⟨m.toArray⟩] 38)) (.cells #[.string ⟨#[]⟩, .string ⟨#[]⟩] 27)
    rwa [World.size_alloc] at this
  have hB0 : Below w.heap.size w ((w.alloc (.cells #[.string ⟨a.toArray⟩, .string ⟨cu.toArray⟩, .string ⟨m.toArray⟩] 38)).alloc (.cells #[.string ⟨#[]⟩, .string ⟨#[]⟩] 27)) := ((Below.refl _ w).alloc (Nat.le_refl _) _).alloc (by simp) _
  have hsz : ((w.alloc (.cells #[.string ⟨a.toArray⟩, .string ⟨cu.toArray⟩, .string ⟨m.toArray⟩] 38)).alloc (.cells #[.string ⟨#[]⟩, .string ⟨#[]⟩] 27)).heap.size = w.heap.size + 1 + 1 := by simp
  obtain ⟨⟨x0, x1, x2⟩, _⟩ := cells3 y0
  generalize hwA : (w.alloc (.cells #[.string ⟨a.toArray⟩, .string ⟨cu.toArray⟩, .string ⟨m.toArray⟩] 38)).alloc (.cells #[.string ⟨#[]⟩, .string ⟨#[]⟩] 27) = wA at *
  have hB1 : Below w.heap.size w (wA.alloc (.cells #[.string ⟨a.toArray⟩, .string ⟨cu.toArray⟩, .string ⟨m.toArray⟩] 38)) := hB0.alloc hB0.size _
  have hrd : rowB.Rds (wA.alloc (.cells #[.string ⟨a.toArray⟩, .string ⟨cu.toArray⟩, .string ⟨m.toArray⟩] 38)) (some ⟨w.heap.size + 1 + 1, 0, none⟩) 1 1 [(a, cu, m)] := by
    have := Row.rds_one rowB_ok wA (a, cu, m) 38
    rw [hsz] at this
    exact this
  have HK := Lib.hid (rCheckB_any (some ⟨w.heap.size + 1 + 1, 0, none⟩) 1 1 [(a, cu, m)] _ hrd (fun x hx => by rw [List.mem_singleton.1 hx]; have := hs; unfold SmB at this; simp only at this ⊢; omega) (by omega))
  have B1 := Lib.hid hB1
  have HLS := Lib.hid (show ∀ W, Below (wA.alloc (.cells #[.string ⟨a.toArray⟩, .string ⟨cu.toArray⟩, .string ⟨m.toArray⟩] 38)).heap.size (wA.alloc (.cells #[.string ⟨a.toArray⟩, .string ⟨cu.toArray⟩, .string ⟨m.toArray⟩] 38)) W → W.heap[w.heap.size]? = some (.cells #[.string ⟨a.toArray⟩, .string ⟨cu.toArray⟩, .string ⟨m.toArray⟩] 38) ∧ W.heap[w.heap.size + 1]? = some (.cells #[.string ⟨#[]⟩, .string ⟨#[]⟩] 27) from fun W h => by
    rw [h.block _ (by simp; omega), h.block _ (by simp; omega), heap_alloc_old _ _ (by omega), heap_alloc_old _ _ (by omega)]
    exact ⟨y0, y1⟩)
  unfold BoolPost at HK
  subst hwA
  cases hb : listB [(a, cu, m)]
  · have e0 : lisI [(a, cu, m)] = 1 := by unfold lisI; rw [hb]; rfl
    have e1 : leafC (a, cu, m) = ([], []) := by unfold leafC; rw [hb]; rfl
    have HP := Lib.hid (show ∀ W, Below w.heap.size w W → NdC (leafC (a, cu, m)) (lisI [(a, cu, m)]) w (.returned (.tuple #[.agg #[.string ⟨#[]⟩, .string ⟨#[]⟩], .int .i64 1])) W from fun W h => ⟨by rw [e0, e1]; rfl, h⟩)
    rw [hb] at HK
    rw [e0] at HP
    rw [e0]
    clear hb e0 e1 hs hrd hB1 hB0 hsz y0 y1
    generalize NdC (leafC (a, cu, m)) 1 w = Post at *
    go_enter Tryz.func17, Tryz.ntmps17
    go_wp2_with fail
    refine HK.out.mono ?_
    rintro e w2 ⟨rfl, hb⟩
    have B2 := Lib.hid (below_next B1.out hb ⟨rfl, rfl, rfl, rfl⟩)
    have yy := (HLS.out _ hb).2
    obtain ⟨⟨z0, z1⟩, p0, p1⟩ := cells2n yy
    obtain ⟨⟨q0, q1⟩, _⟩ := cells2n (set2n yy (.string ⟨#[]⟩) (.string ⟨#[]⟩))
    clear hb yy
    go_wp2_with fail
    exact bodyPost_ret (v := .tuple #[.agg #[.string ⟨#[]⟩, .string ⟨#[]⟩], .int .i64 1]) (by simp [results, Tryz.results17, go_sem, q0, q1]) rfl (HP.out _ (below_set2n B2.out (by omega) _ _))
  · have e0 : lisI [(a, cu, m)] = 0 := by unfold lisI; rw [hb]; rfl
    have e1 : leafC (a, cu, m) = leafN sha (a, cu, m) := by unfold leafC; rw [hb]; rfl
    have HP := Lib.hid (show ∀ n1 n2 W, leafN sha (a, cu, m) = (n1, n2) → Below w.heap.size w W → NdC (leafC (a, cu, m)) (lisI [(a, cu, m)]) w (.returned (.tuple #[.agg #[.string ⟨n1.toArray⟩, .string ⟨n2.toArray⟩], .int .i64 0])) W from fun n1 n2 W e h => ⟨by rw [e0, e1, e]; rfl, h⟩)
    have HR := Lib.hid (fun W (h : Below w.heap.size w W) => rleaf_any a cu m W (by have := hs.1; simp only at this; omega) (by have := hs.2.1; simp only at this; omega) (by have := hs.2.2; simp only at this; omega))
    rw [hb] at HK
    rw [e0] at HP
    rw [e0]
    unfold NdPost ndV at HR
    rcases hrt : leafN sha (a, cu, m) with ⟨n1, n2⟩
    rw [hrt] at HR
    have HP2 := Lib.hid (fun W h => HP.out n1 n2 W hrt h)
    simp only at HR
    clear hb e0 e1 hs hrd hB1 hB0 hsz y0 y1 hrt HP
    generalize NdC (leafC (a, cu, m)) 0 w = Post at *
    go_enter Tryz.func17, Tryz.ntmps17
    go_wp2_with fail
    refine HK.out.mono ?_
    rintro e w2 ⟨rfl, hb⟩
    have B2 := Lib.hid (below_next B1.out hb ⟨rfl, rfl, rfl, rfl⟩)
    obtain ⟨hq0, hq1⟩ := HLS.out _ hb
    obtain ⟨⟨g0, g1, g2⟩, _⟩ := cells3 hq0
    have Y2 := Lib.hid hq1
    have L2 := Lib.hid (show w.heap.size + 1 < w2.heap.size from (Array.getElem?_eq_some_iff.1 hq1).1)
    clear hb hq0 hq1
    go_wp2_with fail
    refine (HR.out _ B2.out).mono ?_
    rintro e w3 ⟨rfl, hb⟩
    have B3 := Lib.hid (below_next B2.out hb ⟨rfl, rfl, rfl, rfl⟩)
    have yy := (hb.block _ L2.out).trans Y2.out
    obtain ⟨⟨z0, z1⟩, p0, p1⟩ := cells2n yy
    obtain ⟨⟨q0, q1⟩, _⟩ := cells2n (set2n yy (.string ⟨n1.toArray⟩) (.string ⟨n2.toArray⟩))
    clear hb yy
    go_wp2_with fail
    exact bodyPost_ret (v := .tuple #[.agg #[.string ⟨n1.toArray⟩, .string ⟨n2.toArray⟩], .int .i64 0]) (by simp [results, Tryz.results17, go_sem, q0, q1]) rfl (HP2.out _ (below_set2n B3.out (by omega) _ _))
end Go.Proofs.YtejaehmoplohdaaGreatDoor

/- Audit: contracts of slices.Clone at nodes, of slices.Equal at flags. -/
namespace Go.Proofs.YtejaehmoplohdaaGreatDoor
open Go.RowKit Go.Maps Num

def RetNd (l : List Nd) (w : World) (e : Ending) (w' : World) : Prop := ∃ v, e = .returned v ∧ rowNd.Own w.heap.size w' v l ∧ Below w.heap.size w w'
theorem freshNd (w : World) : rowNd.Own w.heap.size (w.alloc (.cells #[] rowNd.E)) (.slice (some ⟨w.heap.size, 0, none⟩) 0 0) [] :=
  World.ownsRow_made w #[] 0 (Nat.le_refl _) (by unfold maxLen; omega) (by simp)
set_option maxRecDepth 100000 in
theorem cloneN_any (A : Option Addr) (n c : Nat) (ps : List Nd) (w : World) (h : rowNd.Rds w A n c ps) (hn : n ≤ 1000) :
    Calls Tryz.prog 29 #[.slice A n c] w (RetNd ps w) := by
  have H1 := Lib.hid h
  have hB0 := Lib.hid (show Below w.heap.size w (w.alloc (.cells #[] 27)) from (Below.refl _ _).alloc (Nat.le_refl _) _)
  have HP := Lib.hid (fun v W (h1 : rowNd.Own w.heap.size W v ps) (h2 : Below w.heap.size w W) => (show RetNd ps w (.returned v) W from ⟨v, rfl, h1, h2⟩))
  generalize RetNd ps w = Post at *
  cases A with
  | none =>
    have h0 : n = 0 := by
      rcases Nat.eq_zero_or_pos n with h0 | h0
      · exact h0
      · obtain ⟨b, o, e, _⟩ := h.at_ h0; cases e
    have hp : ps = [] := List.eq_nil_of_length_eq_zero (by rw [h.len]; exact h0)
    subst hp
    clear h H1
    subst h0
    have hnil := fun W => Lib.run_eql_slice_nil (P := Tryz.prog) W 31 27 none 0 c 0 0 Tryz.underlying31
    go_enter Tryz.func29, Tryz.ntmps29
    go_wp2_with fail
    exact HP.out _ _ (Row.Own.nil _ _) (Below.refl _ _)
  | some ad =>
    clear h
    have hnil := fun W => Lib.run_eql_slice_nil (P := Tryz.prog) W 31 27 (some ad) n c 0 0 Tryz.underlying31
    go_enter Tryz.func29, Tryz.ntmps29
    go_wp2_with (at_builtin; go_must (refine Row.wp_append rowNd_ok rfl (.tmp 5) (.tmp 6) rfl w.heap.size _ [] (w.alloc (.cells #[] 27)) (some ad) n c ps rfl (freshNd w) rfl (H1.out.below ((Below.refl _ _).alloc (Nat.le_refl _) _)) hB0.out.size (by simp; omega) ?_); intro v' w5 hown' hg' _)
    have HB5 := Lib.hid (below_own hB0.out (Nat.le_refl _) hg' fun k hk => ((freshNd w).own k hk).1)
    have HO := Lib.hid hown'
    clear hg' hown'
    go_wp2_with fail
    exact HP.out _ _ HO.out HB5.out
theorem take_b (l : List Bool) (k : Nat) (h : k < l.length) : l.take (k + 1) = l.take k ++ [l.getD k false] := by
  rw [List.take_succ_eq_append_getElem h, List.getD_eq_getElem?_getD, List.getElem?_eq_getElem h]; rfl
set_option maxRecDepth 100000 in
set_option maxHeartbeats 4000000 in
theorem EqT_any (A B : Option Addr) (n c p d : Nat) (l m : List Bool) (w : World) (hl : rowT.Rds w A n c l) (hm : rowT.Rds w B p d m) (hn : n ≤ 100000) (hp : p ≤ 100000) :
    Calls Tryz.prog 30 #[.slice A n c, .slice B p d] w (BoolPost (decide (l = m)) w) := by
  have ll := Lib.hid hl.len
  have lm := Lib.hid hm.len
  have L1 := Lib.hid hl
  have L2 := Lib.hid hm
  have HP := Lib.hid (show ∀ b W, decide (l = m) = b → Below w.heap.size w W → BoolPost (decide (l = m)) w (.returned (.bool b)) W from fun b W e h => ⟨by rw [e], h⟩)
  generalize BoolPost (decide (l = m)) w = Post at *
  clear hl hm
  by_cases hnp : n = p
  case neg =>
    have h1 : ((n : Int) == (p : Int)) = false := beq_eq_false_iff_ne.2 (by omega)
    have h2 : (n == p) = false := beq_eq_false_iff_ne.2 hnp
    have hv := Lib.hid (fun W h => HP.out false W (decide_eq_false (fun e => hnp (by rw [← ll.out, ← lm.out, e]))) h)
    clear HP
    go_enter Tryz.func30, Tryz.ntmps30
    go_wp2_with fail
    exact hv.out _ (Below.refl _ _)
  subst hnp
  go_enter Tryz.func30, Tryz.ntmps30
  go_wp2_with fail
  have R0 := Lib.hid (show l.take 0 = m.take 0 ∧ Below w.heap.size w w from ⟨by simp, Below.refl _ _⟩)
  go_loopw [13] (fun i wr => ∃ k : Nat, k ≤ n ∧ i = .int .i64 (k : Int) ∧ Hid (l.take k = m.take k ∧ Below w.heap.size w wr)) (fun i _ => n - (intOf i).toNat)
  case atStart => exact ⟨0, by omega, rfl, R0⟩
  case round =>
    obtain ⟨k, hk, rfl, hR⟩ := hrel
    have HE := Lib.hid hR.out.1
    have HB := Lib.hid hR.out.2
    clear hR R0
    by_cases hlt : k < n
    · obtain ⟨b1, o1, rfl, hb1, _⟩ := L1.out.at_ (by omega)
      obtain ⟨b2, o2, rfl, hb2, _⟩ := L2.out.at_ (by omega)
      have r0 := (L1.out.below HB.out).cell rowT_ok false k 0 _ hlt rfl
      have s0 := (L2.out.below HB.out).cell rowT_ok false k 0 _ hlt rfl
      have hki : (k : Int) < (n : Int) := by omega
      have hk0 : (0 : Int) ≤ (k : Int) := by omega
      have t1 := Lib.hid (take_b l k (by rw [ll.out]; exact hlt))
      have t2 := Lib.hid (take_b m k (by rw [lm.out]; exact hlt))
      have HD := Lib.hid (show l.getD k false ≠ m.getD k false → l ≠ m from fun h e => h (by rw [e]))
      generalize l.getD k false = x at *
      generalize m.getD k false = y at *
      simp only [Nat.add_zero, Nat.mul_one] at r0 s0
      by_cases hxy : x = y
      · have HE2 := Lib.hid (show l.take (k + 1) = m.take (k + 1) by rw [t1.out, t2.out, HE.out, hxy])
        subst hxy
        clear t1 t2 HD
        go_wp2_with fail
        go_quiet (fail)
        have HB2 := Lib.hid (below_dr HB.out nq)
        go_wp2_with fail
        go_roundw
        case rel => exact ⟨k + 1, by omega, by go_num, Lib.hid ⟨HE2.out, HB2.out⟩⟩
        case measure => simp [intOf]; omega
      · have hv := Lib.hid (fun W h => HP.out false W (decide_eq_false (HD.out hxy)) h)
        clear t1 t2 HD
        have e0 : (x == y) = false := beq_eq_false_iff_ne.2 (hxy)
        have e1 : (x != y) = true := by rw [bne_iff_ne]; exact hxy
        clear hxy
        go_wp2_with fail
        go_quiet (fail)
        have HB2 := Lib.hid (below_dr HB.out nq)
        go_wp2_with fail
        exact hv.out _ HB2.out
    · have hkn : k = n := by omega
      subst hkn
      have hki : ¬ (k : Int) < (k : Int) := by omega
      have e := HE.out
      rw [List.take_of_length_le (by rw [ll.out]; exact Nat.le_refl _), List.take_of_length_le (by rw [lm.out]; exact Nat.le_refl _)] at e
      have hv := Lib.hid (fun W h => HP.out true W (decide_eq_true e) h)
      clear e HE HP
      go_wp2_with fail
      exact hv.out _ HB.out
end Go.Proofs.YtejaehmoplohdaaGreatDoor

/- Audit, plain: nodes and ways as the reference works them out. -/
namespace Go.Proofs.YtejaehmoplohdaaGreatDoor
open Go.RowKit Go.Maps Num

theorem partsF_le (f i a b : Nat) : ∀ x ∈ partsF f i a b, x.2.1 ≤ b := by
  induction f generalizing a b with
  | zero => intro x hx; cases hx
  | succ f ih =>
    intro x hx
    rw [partsF] at hx
    split at hx
    · cases hx
    have h4 := cutN_lt (b - a) (by omega)
    split at hx
    · rcases List.mem_cons.1 hx with rfl | hx
      · exact Nat.le_refl _
      · have := ih _ _ x hx; omega
    · rcases List.mem_cons.1 hx with rfl | hx
      · show a + cutN (b - a) ≤ b; omega
      · exact ih _ _ x hx
theorem partsF_shift (s f i a b : Nat) : partsF f (i + s) (a + s) (b + s) = (partsF f i a b).map fun x => (x.1 + s, x.2.1 + s, x.2.2) := by
  induction f generalizing a b with
  | zero => rfl
  | succ f ih =>
    rw [partsF, partsF, show b + s - (a + s) = b - a by omega]
    by_cases h : b - a ≤ 1
    · rw [if_pos h, if_pos h]; rfl
    rw [if_neg h, if_neg h, show a + s + cutN (b - a) = a + cutN (b - a) + s by omega]
    by_cases h2 : i < a + cutN (b - a)
    · rw [if_pos h2, if_pos (by omega), List.map_cons, ih]
    · rw [if_neg h2, if_neg (by omega), List.map_cons, ih]
section
variable (D : List UInt8 → List UInt8)
theorem nodes_few (l : List Ln) (i : Nat) (h : l.length < 2) : nodesN D l i = [] := by
  unfold nodesN besideN partsN
  cases hl : l.length with
  | zero => rfl
  | succ m => rw [partsF, if_pos (by omega)]; rfl
theorem nodes_left (l : List Ln) (i : Nat) (h2 : 2 ≤ l.length) (hi : i < cutN l.length) : nodesN D l i = nodesN D (l.take (cutN l.length)) i ++ [rootN D (l.drop (cutN l.length))] := by
  have h4 := cutN_lt _ h2
  unfold nodesN besideN partsN
  rw [show (l.take (cutN l.length)).length = cutN l.length by rw [List.length_take]; omega]
  obtain ⟨m, hm⟩ : ∃ m, l.length = m + 1 := ⟨l.length - 1, by omega⟩
  rw [show partsF l.length i 0 l.length = (cutN l.length, l.length, true) :: partsF m i 0 (cutN l.length) from by
    rw [show partsF l.length i 0 l.length = partsF (m + 1) i 0 l.length by rw [← hm], partsF, if_neg (by omega), Nat.sub_zero, Nat.zero_add, if_pos hi]]
  rw [List.reverse_cons, List.map_append, partsF_more m (cutN l.length) i 0 (cutN l.length) (by omega) (by omega)]
  congr 1
  · apply List.map_congr_left
    intro x hx
    have := partsF_le _ _ _ _ x (List.mem_reverse.1 hx)
    rw [List.take_take, Nat.min_eq_left this]
  · rw [List.map_cons, List.map_nil]
    simp only [List.take_length]
theorem nodes_right (l : List Ln) (i : Nat) (h2 : 2 ≤ l.length) (hi : ¬ i < cutN l.length) : nodesN D l i = nodesN D (l.drop (cutN l.length)) (i - cutN l.length) ++ [rootN D (l.take (cutN l.length))] := by
  have h4 := cutN_lt _ h2
  unfold nodesN besideN partsN
  rw [show (l.drop (cutN l.length)).length = l.length - cutN l.length by rw [List.length_drop]]
  obtain ⟨m, hm⟩ : ∃ m, l.length = m + 1 := ⟨l.length - 1, by omega⟩
  rw [show partsF l.length i 0 l.length = (0, cutN l.length, false) :: partsF m i (cutN l.length) l.length from by
    rw [show partsF l.length i 0 l.length = partsF (m + 1) i 0 l.length by rw [← hm], partsF, if_neg (by omega), Nat.sub_zero, Nat.zero_add, if_neg hi]]
  rw [List.reverse_cons, List.map_append, show partsF m i (cutN l.length) l.length = (partsF m (i - cutN l.length) 0 (l.length - cutN l.length)).map fun x => (x.1 + cutN l.length, x.2.1 + cutN l.length, x.2.2) from by
    rw [← partsF_shift]; congr 1 <;> omega]
  have h3 := cutN_pos _ h2
  rw [partsF_more m (l.length - cutN l.length) _ 0 _ (by omega) (by omega), ← List.map_reverse, List.map_map]
  congr 1
  apply List.map_congr_left
  intro x hx
  show rootN D ((l.take (x.2.1 + cutN l.length)).drop (x.1 + cutN l.length)) = _
  rw [List.take_drop, List.drop_drop, Nat.add_comm x.1, Nat.add_comm x.2.1]
theorem climb_end (own : Nd) (i n : Nat) (h : n < 2) (ns : List Nd) : climbN D own (wayN i n).reverse ns = own := by
  rw [way_small i n (by omega)]; rfl
theorem climb_left (own : Nd) (i n : Nat) (ns : List Nd) (x : Nd) (h2 : 2 ≤ n) (hi : i < cutN n) (hl : ns.length + 1 = (wayN i n).length) : ns.length = (wayN i (cutN n)).length ∧ climbN D own (wayN i n).reverse (ns ++ [x]) = overN D (climbN D own (wayN i (cutN n)).reverse ns) x := by
  rw [way_two i n h2, if_pos hi] at hl ⊢
  rw [List.length_cons] at hl
  have e : ns.length = (wayN i (cutN n)).length := by omega
  rw [List.reverse_cons, climb_snoc D _ _ _ _ _ (by rw [List.length_reverse]; exact e.symm)]
  exact ⟨e, rfl⟩
theorem climb_right (own : Nd) (i n : Nat) (ns : List Nd) (x : Nd) (h2 : 2 ≤ n) (hi : ¬ i < cutN n) (hl : ns.length + 1 = (wayN i n).length) : ns.length = (wayN (i - cutN n) (n - cutN n)).length ∧ climbN D own (wayN i n).reverse (ns ++ [x]) = overN D x (climbN D own (wayN (i - cutN n) (n - cutN n)).reverse ns) := by
  rw [way_two i n h2, if_neg hi] at hl ⊢
  rw [List.length_cons] at hl
  have e : ns.length = (wayN (i - cutN n) (n - cutN n)).length := by omega
  rw [List.reverse_cons, climb_snoc D _ _ _ _ _ (by rw [List.length_reverse]; exact e.symm)]
  exact ⟨e, rfl⟩
end
theorem dep_left (i n : Nat) (h2 : 2 ≤ n) (hi : i < cutN n) : (wayN i n).length = 1 + (wayN i (cutN n)).length := by
  rw [way_two i n h2, if_pos hi, List.length_cons, Nat.add_comm]
theorem dep_right (i n : Nat) (h2 : 2 ≤ n) (hi : ¬ i < cutN n) : (wayN i n).length = 1 + (wayN (i - cutN n) (n - cutN n)).length := by
  rw [way_two i n h2, if_neg hi, List.length_cons, Nat.add_comm]
end Go.Proofs.YtejaehmoplohdaaGreatDoor

/- Audit: contracts of the reference's nodes, Prove. -/
namespace Go.Proofs.YtejaehmoplohdaaGreatDoor
open Go.RowKit Go.Maps Num

set_option maxRecDepth 100000 in
theorem rnodes_few (A : Option Addr) (n c : Nat) (l : List Ln) (i : Nat) (w : World) (hl : rowB.Rds w A n c l) (hn : n < 2) : Calls Tryz.prog 37 #[.slice A n c, .int .i64 (i : Int)] w (RetNd (nodesN sha l i) w) := by
  rw [nodes_few sha l i (by rw [hl.len]; exact hn)]
  have hB0 := Lib.hid (show Below w.heap.size w (w.alloc (.cells #[] 27)) from (Below.refl _ _).alloc (Nat.le_refl _) _)
  have HP := Lib.hid (fun v W (h1 : rowNd.Own w.heap.size W v []) (h2 : Below w.heap.size w W) => (show RetNd [] w (.returned v) W from ⟨v, rfl, h1, h2⟩))
  generalize RetNd [] w = Post at *
  have hn2 : (n : Int) < 2 := by omega
  clear hl
  go_enter Tryz.func37, Tryz.ntmps37
  go_wp2_with fail
  exact HP.out _ _ (freshNd w) hB0.out
set_option maxRecDepth 100000 in
set_option maxHeartbeats 8000000 in
theorem rnodes_any (m : Nat) : ∀ (A : Option Addr) (n c : Nat) (l : List Ln) (i : Nat) (w : World), n ≤ m → n ≤ 100 → i ≤ 1000 → rowB.Rds w A n c l → ShB l →
    Calls Tryz.prog 37 #[.slice A n c, .int .i64 (i : Int)] w (RetNd (nodesN sha l i) w) := by
  induction m with
  | zero =>
    intro A n c l i w hm hn hi hl hs
    exact rnodes_few A n c l i w hl (by omega)
  | succ m ih =>
    intro A n c l i w hm hn hi hl hs
    rcases Nat.lt_or_ge n 2 with h2 | h2
    · exact rnodes_few A n c l i w hl h2
    · obtain ⟨b, o, rfl, hb, _⟩ := hl.at_ (by omega)
      have hlen := hl.len
      have hn2 : ¬ (n : Int) < 2 := by omega
      have hk1 := cutN_pos n h2
      have hk2 := cutN_lt n h2
      have hcap := hl.cap
      have HC := Lib.hid (fun W => power_any n W (by omega))
      obtain ⟨k, hk⟩ : ∃ k, k = cutN n := ⟨_, rfl⟩
      rw [← hk] at hk1 hk2 HC
      have b1 : (k : Int) ≤ (c : Int) := by omega
      have b2 : (k : Int) ≤ (n : Int) := by omega
      have hne : c ≠ k := by omega
      have R1 := Lib.hid (hl.take rowB_ok k (by omega))
      have R2 := Lib.hid (hl.drop rowB_ok k (by omega))
      by_cases hik : i < k
      · have hnd := nodes_left sha l i (by omega) (by rw [hlen, ← hk]; exact hik)
        rw [hlen, ← hk] at hnd
        rw [hnd]
        have IN := Lib.hid (fun W (h : Below w.heap.size w W) => ih (some ⟨b, o, none⟩) k c (l.take k) i W (by omega) (by omega) hi (R1.out.below h) (hs.take k))
        have IR := Lib.hid (fun W (h : Below w.heap.size w W) => rroot_any (n - k) (some ⟨b, o + k * 3, none⟩) (n - k) (c - k) (l.drop k) W (Nat.le_refl _) (by omega) (R2.out.below h) (hs.drop k))
        have hps : (nodesN sha (l.take k) i).length ≤ 1000 := by have := nodes_len sha (l.take k) i; have := way_len i (l.take k).length; rw [List.length_take] at *; omega
        have hik2 : (i : Int) < (k : Int) := by omega
        rcases hu : rootN sha (l.drop k) with ⟨u1, u2⟩
        rw [hu] at IR
        generalize nodesN sha (l.take k) i = ps at *
        have HP := Lib.hid (fun v W (h1 : rowNd.Own w.heap.size W v (ps ++ [(u1, u2)])) (h2 : Below w.heap.size w W) => (show RetNd (ps ++ [(u1, u2)]) w (.returned v) W from ⟨v, rfl, h1, h2⟩))
        generalize RetNd (ps ++ [(u1, u2)]) w = Post at *
        unfold RetNd at IN
        unfold NdPost ndV at IR
        simp only at IR
        clear hl hs hu hnd ih hlen hcap hk R1 R2 hik
        go_enter Tryz.func37, Tryz.ntmps37
        go_wp2_with fail
        refine (HC.out _).mono ?_
        rintro e w1 ⟨rfl, rfl⟩
        have HD := Lib.hid (Below.refl w.heap.size w)
        go_upto_region 5 with fail
        go_region_law (first
          | (go_simp; go_at_call 37; with_reducible refine (IN.out _ ?_).mono ?_; · (first | exact HD.out | exact Below.drew HD.out)
             rintro e w' ⟨v, rfl, ho, hb⟩; have HO := Lib.hid ho; have HD := Lib.hid (below_next HD.out hb ⟨rfl, rfl, rfl, rfl⟩); clear ho hb)
          | (go_simp; go_at_call 35; with_reducible refine (IR.out _ ?_).mono ?_; · (first | exact HD.out | exact Below.drew HD.out)
             rintro e w' ⟨rfl, hb⟩; have HO := Lib.hid (HO.out.below hb); have HD := Lib.hid (below_next HD.out hb ⟨rfl, rfl, rfl, rfl⟩); clear hb)
          | (first
               | refine Row.step_append1 rowNd_ok rfl (.tmp 20) (.tmp 25) rfl w.heap.size v ps _ (u1, u2) _ _ rfl rfl rfl HO.out rfl HD.out.size (by omega) ?_
               | refine Row.step_append1d rowNd_ok rfl (.tmp 20) (.tmp 25) rfl w.heap.size v ps _ (u1, u2) _ _ rfl rfl rfl HO.out rfl HD.out.size (by omega) ?_
             intro v1 w5 hown1 hg1 hat; have HO1 := Lib.hid hown1; have HB5 := Lib.hid (below_own HD.out (Nat.le_refl _) hg1 fun k hk => (HO.out.own k hk).1); clear hown1 hg1 hat))
        all_goals
          go_wp2_with fail
          exact bodyPost_ret (v := v1) (by simp [results, Tryz.results37, Act.put, go_sem]) rfl (HP.out _ _ HO1.out HB5.out)
      · have hnd := nodes_right sha l i (by omega) (by rw [hlen, ← hk]; exact hik)
        rw [hlen, ← hk] at hnd
        rw [hnd]
        have IN := Lib.hid (fun W (h : Below w.heap.size w W) => ih (some ⟨b, o + k * 3, none⟩) (n - k) (c - k) (l.drop k) (i - k) W (by omega) (by omega) (by omega) (R2.out.below h) (hs.drop k))
        have IR := Lib.hid (fun W (h : Below w.heap.size w W) => rroot_any k (some ⟨b, o, none⟩) k c (l.take k) W (Nat.le_refl _) (by omega) (R1.out.below h) (hs.take k))
        have hps : (nodesN sha (l.drop k) (i - k)).length ≤ 1000 := by have := nodes_len sha (l.drop k) (i - k); have := way_len (i - k) (l.drop k).length; rw [List.length_drop] at *; omega
        have hik2 : ¬ (i : Int) < (k : Int) := by omega
        have hw : IntKind.i64.wrap ((i : Int) - (k : Int)) = ((i - k : Nat) : Int) := by rw [IntWalk.i64_in _ (by omega)]; omega
        rcases hu : rootN sha (l.take k) with ⟨u1, u2⟩
        rw [hu] at IR
        generalize nodesN sha (l.drop k) (i - k) = ps at *
        generalize hj : i - k = j at *
        have HP := Lib.hid (fun v W (h1 : rowNd.Own w.heap.size W v (ps ++ [(u1, u2)])) (h2 : Below w.heap.size w W) => (show RetNd (ps ++ [(u1, u2)]) w (.returned v) W from ⟨v, rfl, h1, h2⟩))
        generalize RetNd (ps ++ [(u1, u2)]) w = Post at *
        unfold RetNd at IN
        unfold NdPost ndV at IR
        simp only at IR
        clear hl hs hu hnd ih hlen hcap hk R1 R2 hik hj
        go_enter Tryz.func37, Tryz.ntmps37
        go_wp2_with fail
        refine (HC.out _).mono ?_
        rintro e w1 ⟨rfl, rfl⟩
        have HD := Lib.hid (Below.refl w.heap.size w)
        go_upto_region 6 with fail
        go_region_law (first
          | (go_simp; go_at_call 37; with_reducible refine (IN.out _ ?_).mono ?_; · (first | exact HD.out | exact Below.drew HD.out)
             rintro e w' ⟨v, rfl, ho, hb⟩; have HO := Lib.hid ho; have HD := Lib.hid (below_next HD.out hb ⟨rfl, rfl, rfl, rfl⟩); clear ho hb)
          | (go_simp; go_at_call 35; with_reducible refine (IR.out _ ?_).mono ?_; · (first | exact HD.out | exact Below.drew HD.out)
             rintro e w' ⟨rfl, hb⟩; have HO := Lib.hid (HO.out.below hb); have HD := Lib.hid (below_next HD.out hb ⟨rfl, rfl, rfl, rfl⟩); clear hb)
          | (first
               | refine Row.step_append1 rowNd_ok rfl (.tmp 33) (.tmp 38) rfl w.heap.size v ps _ (u1, u2) _ _ rfl rfl rfl HO.out rfl HD.out.size (by omega) ?_
               | refine Row.step_append1d rowNd_ok rfl (.tmp 33) (.tmp 38) rfl w.heap.size v ps _ (u1, u2) _ _ rfl rfl rfl HO.out rfl HD.out.size (by omega) ?_
             intro v1 w5 hown1 hg1 hat; have HO1 := Lib.hid hown1; have HB5 := Lib.hid (below_own HD.out (Nat.le_refl _) hg1 fun k hk => (HO.out.own k hk).1); clear hown1 hg1 hat))
        all_goals
          go_wp2_with fail
          exact bodyPost_ret (v := v1) (by simp [results, Tryz.results37, Act.put, go_sem]) rfl (HP.out _ _ HO1.out HB5.out)
end Go.Proofs.YtejaehmoplohdaaGreatDoor

/- Audit: the contract of the reference's Prove. -/
namespace Go.Proofs.YtejaehmoplohdaaGreatDoor
open Go.RowKit Go.Maps Num

set_option maxRecDepth 100000 in
set_option maxHeartbeats 8000000 in
theorem rProve_any (A : Option Addr) (n c : Nat) (l : List Ln) (i : Int) (w : World) (hl : rowB.Rds w A n c l) (hs : ShB l) (hn : n ≤ 100) :
    Calls Tryz.prog 14 #[.slice A n c, .int .i64 i] w (PrC (prvT l i) w) := by
  have HK := Lib.hid (fun W (h : Below w.heap.size w W) => rcheck_any A n c l W (hl.below h) (fun x hx => (hs x hx).1) (by omega))
  have Y := Lib.hid (heap_alloc_new w (.cells #[.int .i64 0, .int .i64 0, .slice none 0 0] 33))
  have B0 := Lib.hid ((Below.refl _ w).alloc (Nat.le_refl _) (.cells #[.int .i64 0, .int .i64 0, .slice none 0 0] 33))
  have HL := Lib.hid (show w.heap.size < (w.alloc (.cells #[.int .i64 0, .int .i64 0, .slice none 0 0] 33)).heap.size by simp)
  have ll := Lib.hid hl.len
  have HP := Lib.hid (show ∀ q v W, prvT l i = q → rowNd.Own w.heap.size W v q.2.2.1 → Below w.heap.size w W → PrC (prvT l i) w (.returned (.tuple #[.agg #[.int .i64 q.1, .int .i64 q.2.1, v], .int .i64 q.2.2.2])) W from fun q v W e h1 h2 => by subst e; exact ⟨v, rfl, h1, h2⟩)
  unfold IntPost at HK
  cases hb : listB l
  · have e0 : lisI l = 1 := by unfold lisI; rw [hb]; rfl
    have e1 : prvT l i = (0, 0, [], 1) := by unfold prvT; rw [if_pos hb]
    have hv := Lib.hid (fun W h => HP.out _ (.slice none 0 0) W e1 (Row.Own.nil _ _) h)
    rw [e0] at HK
    clear hb e0 e1 hl hs HP
    generalize PrC (prvT l i) w = Post at *
    go_enter Tryz.func14, Tryz.ntmps14
    go_wp2_with fail
    refine (HK.out _ B0.out).mono ?_
    rintro e w2 ⟨rfl, hb⟩
    have B2 := Lib.hid (below_next B0.out hb ⟨rfl, rfl, rfl, rfl⟩)
    have yy := (hb.block _ HL.out).trans Y.out
    obtain ⟨⟨z0, z1, z2⟩, p0, p1, p2⟩ := cells3 yy
    obtain ⟨⟨q0, q1, q2⟩, _⟩ := cells3 (set3 yy (.int .i64 0) (.int .i64 0) (.slice none 0 0))
    clear hb yy
    go_wp2_with fail
    exact bodyPost_ret (v := .tuple #[.agg #[.int .i64 0, .int .i64 0, .slice none 0 0], .int .i64 1]) (by simp [results, Tryz.results14, go_sem, q0, q1, q2]) rfl (hv.out _ (below_set3 B2.out (Nat.le_refl _) _ _ _))
  have e0 : lisI l = 0 := by unfold lisI; rw [hb]; rfl
  rw [e0] at HK
  by_cases hr : i < 0 ∨ (l.length : Int) ≤ i
  · have e1 : prvT l i = (0, 0, [], 2) := by unfold prvT; rw [if_neg (by rw [hb]; decide), if_pos hr]
    have hv := Lib.hid (fun W h => HP.out _ (.slice none 0 0) W e1 (Row.Own.nil _ _) h)
    rw [ll.out] at hr
    clear hb e0 e1 hl hs HP
    generalize PrC (prvT l i) w = Post at *
    by_cases h0 : i < 0
    · clear hr
      go_enter Tryz.func14, Tryz.ntmps14
      go_wp2_with fail
      refine (HK.out _ B0.out).mono ?_
      rintro e w2 ⟨rfl, hb⟩
      have B2 := Lib.hid (below_next B0.out hb ⟨rfl, rfl, rfl, rfl⟩)
      have yy := (hb.block _ HL.out).trans Y.out
      obtain ⟨⟨z0, z1, z2⟩, p0, p1, p2⟩ := cells3 yy
      obtain ⟨⟨q0, q1, q2⟩, _⟩ := cells3 (set3 yy (.int .i64 0) (.int .i64 0) (.slice none 0 0))
      clear hb yy
      go_wp2_with fail
      exact bodyPost_ret (v := .tuple #[.agg #[.int .i64 0, .int .i64 0, .slice none 0 0], .int .i64 2]) (by simp [results, Tryz.results14, go_sem, q0, q1, q2]) rfl (hv.out _ (below_set3 B2.out (Nat.le_refl _) _ _ _))
    · have h1 : (n : Int) ≤ i := by omega
      clear hr
      go_enter Tryz.func14, Tryz.ntmps14
      go_wp2_with fail
      refine (HK.out _ B0.out).mono ?_
      rintro e w2 ⟨rfl, hb⟩
      have B2 := Lib.hid (below_next B0.out hb ⟨rfl, rfl, rfl, rfl⟩)
      have yy := (hb.block _ HL.out).trans Y.out
      obtain ⟨⟨z0, z1, z2⟩, p0, p1, p2⟩ := cells3 yy
      obtain ⟨⟨q0, q1, q2⟩, _⟩ := cells3 (set3 yy (.int .i64 0) (.int .i64 0) (.slice none 0 0))
      clear hb yy
      go_wp2_with fail
      exact bodyPost_ret (v := .tuple #[.agg #[.int .i64 0, .int .i64 0, .slice none 0 0], .int .i64 2]) (by simp [results, Tryz.results14, go_sem, q0, q1, q2]) rfl (hv.out _ (below_set3 B2.out (Nat.le_refl _) _ _ _))
  obtain ⟨j, rfl⟩ : ∃ j : Nat, i = (j : Int) := ⟨i.toNat, by omega⟩
  have hjn : j < n := by have := ll.out; omega
  have e1 : prvT l (j : Int) = ((j : Int), (n : Int), nodesN sha l j, 0) := by
    unfold prvT
    rw [if_neg (by rw [hb]; decide), if_neg hr]
    rw [ll.out]
    rfl
  have hv := Lib.hid (fun v W h1 h => HP.out _ v W e1 h1 h)
  have HN := Lib.hid (fun W (h : Below w.heap.size w W) => rnodes_any n A n c l j W (Nat.le_refl _) hn (by omega) (hl.below h) hs)
  have hjn2 : (j : Int) < (n : Int) := by omega
  have hjn3 : ¬ (n : Int) ≤ (j : Int) := by omega
  have hj0 : ¬ (j : Int) < 0 := by omega
  clear hr HP e1 hb e0 hl hs
  generalize PrC (prvT l (j : Int)) w = Post at *
  generalize nodesN sha l j = ns at *
  unfold RetNd at HN
  simp only at hv
  go_enter Tryz.func14, Tryz.ntmps14
  go_wp2_with fail
  refine (HK.out _ B0.out).mono ?_
  rintro e w2 ⟨rfl, hb2⟩
  have B2 := Lib.hid (below_next B0.out hb2 ⟨rfl, rfl, rfl, rfl⟩)
  have Y2 := Lib.hid ((hb2.block _ HL.out).trans Y.out)
  have L2 := Lib.hid (Nat.lt_of_lt_of_le HL.out hb2.size)
  clear hb2
  go_wp2_with fail
  refine (HN.out _ B2.out).mono ?_
  rintro e w3 ⟨v, rfl, ho, hb3⟩
  have B3 := Lib.hid (below_next B2.out hb3 ⟨rfl, rfl, rfl, rfl⟩)
  have yy := (hb3.block _ L2.out).trans Y2.out
  obtain ⟨⟨z0, z1, z2⟩, p0, p1, p2⟩ := cells3 yy
  obtain ⟨A5, k5, rfl⟩ := ho.slice
  obtain ⟨⟨q0, q1, q2⟩, _⟩ := cells3 (set3 yy (.int .i64 (j : Int)) (.int .i64 (n : Int)) (.slice A5 ns.length k5))
  have HOF := Lib.hid (show rowNd.Own w.heap.size (((w3.setCell ⟨w.heap.size, 0, none⟩ (.int .i64 (j : Int))).setCell ⟨w.heap.size, 1, none⟩ (.int .i64 (n : Int))).setCell ⟨w.heap.size, 2, none⟩ (.slice A5 ns.length k5)) (.slice A5 ns.length k5) ns from by
    have hr : ∀ q, some w.heap.size = some q → q < w2.heap.size := fun q e => by have := Option.some.inj e; have := L2.out; omega
    exact Row.Own.mono (((ho.kept (grown_setCell w3 ⟨w.heap.size, 0, none⟩ _) hr).kept (grown_setCell _ ⟨w.heap.size, 1, none⟩ _) hr).kept (grown_setCell _ ⟨w.heap.size, 2, none⟩ _) hr) (Nat.le_of_lt L2.out))
  clear hb3 yy ho
  go_wp2_with fail
  exact bodyPost_ret (v := .tuple #[.agg #[.int .i64 (j : Int), .int .i64 (n : Int), .slice A5 ns.length k5], .int .i64 0]) (by simp [results, Tryz.results14, go_sem, q0, q1, q2]) rfl (hv.out _ _ HOF.out (below_set3 B3.out (Nat.le_refl _) _ _ _))
end Go.Proofs.YtejaehmoplohdaaGreatDoor

/- AuditTrees: the walk. -/
namespace Go.Proofs.YtejaehmoplohdaaGreatDoor
open Go.RowKit Go.Maps Num

theorem grLB_sh {l : List Ln} (h : grLB l = false) : l.length ≤ 16 ∧ ShB l := by
  obtain ⟨h1, h2⟩ := grLB_parts h
  exact ⟨h1, fun x hx => by have := h2 x hx; exact ⟨⟨by omega, by omega, by omega⟩, by omega⟩⟩
theorem prvT_len {l : List Ln} (i : Int) : (prvT l i).2.2.1.length ≤ l.length := by
  unfold prvT
  split
  · simp
  · split
    · simp
    · have := nodes_len sha l i.toNat; have := way_len i.toNat l.length; simp only; omega
set_option maxRecDepth 100000 in
set_option maxHeartbeats 8000000 in
theorem trees_row (A : Option Addr) (n c : Nat) (l : List Ln) (i : Int) (w : World) (hi1 : -9223372036854775808 ≤ i) (hi2 : i ≤ 9223372036854775807) (hl : rowB.Rds w A n c l) (ht : Tab w) (hM : ML w) : Calls Tryz.prog 3 #[.slice A n c, .int .i64 i] w (BoolPost true w) := by
  have HP := Lib.hid (fun W (h : Below w.heap.size w W) => (show BoolPost true w (.returned (.bool true)) W from ⟨rfl, h⟩))
  have HW := Lib.hid (fun W (h : Below w.heap.size w W) => awake_any W (ht.below h) (hM.below h))
  have HF := Lib.hid (rGreatB_any A n c l w hl)
  unfold BoolPost at HW HF
  generalize BoolPost true w = Post at *
  cases hf : grLB l
  case true =>
    rw [hf] at HF
    clear hl ht hM hf hi1 hi2
    go_enter Tryz.func3, Tryz.ntmps3
    go_wp2_with fail
    refine HF.out.mono ?_
    rintro e w1 ⟨rfl, hb1⟩
    have B1 := Lib.hid hb1
    clear hb1
    go_wp2_with fail
    refine (HW.out _ B1.out).mono ?_
    rintro e w2 ⟨rfl, hb2⟩
    have B2 := Lib.hid (below_next B1.out hb2 ⟨rfl, rfl, rfl, rfl⟩)
    clear hb2
    go_wp2_with fail
    exact HP.out _ B2.out
  case false =>
  rw [hf] at HF
  obtain ⟨hn16, hs⟩ := grLB_sh hf
  have hln := hl.len
  have hn : n ≤ 16 := by omega
  have HR := Lib.hid (fun W (h : Below w.heap.size w W) => Root_any A n c l W (hl.below h) (fun x hx => (hs x hx).1) (by omega) (ht.below h) (hM.below h))
  have HR2 := Lib.hid (fun W (h : Below w.heap.size w W) => rRoot_any A n c l W (hl.below h) hs (by omega))
  have HV := Lib.hid (fun W (h : Below w.heap.size w W) => Prove_any A n c l i W (hl.below h) (fun x hx => (hs x hx).1) (by omega) hi1 hi2 (ht.below h) (hM.below h))
  have HV2 := Lib.hid (fun W (h : Below w.heap.size w W) => rProve_any A n c l i W (hl.below h) hs (by omega))
  have HLf := Lib.hid (fun k (hk : k < n) a cu m (he : l.getD k ln0 = (a, cu, m)) W (h : Below w.heap.size w W) => Leaf_any a cu m W (by rw [← he]; exact (hs _ (lnAt_mem l k (by omega))).1) (ht.below h) (hM.below h))
  have HLf2 := Lib.hid (fun k (hk : k < n) a cu m (he : l.getD k ln0 = (a, cu, m)) W => rLeaf_any a cu m W (by rw [← he]; exact (hs _ (lnAt_mem l k (by omega))).1))
  have hps := prvT_len (l := l) i
  have L1 := Lib.hid hl
  unfold NdC ndV at HR HR2 HLf HLf2
  unfold PrC at HV HV2
  generalize rootT l = rr at *
  obtain ⟨r1, r2⟩ := rr
  generalize prvT l i = qq at *
  obtain ⟨pi, pn, ps, pz⟩ := qq
  generalize lisI l = z at *
  have hps2 : ps.length ≤ 100000 := by simp only at hps; omega
  simp only at HR HR2 HV HV2
  clear hl ht hM hf hs hps hi1 hi2
  go_enter Tryz.func3, Tryz.ntmps3
  go_wp2_with fail
  refine HF.out.mono ?_
  rintro e w1 ⟨rfl, hb1⟩
  have B1 := Lib.hid hb1
  clear hb1
  go_wp2_with fail
  refine (HR.out _ B1.out).mono ?_
  rintro e w2 ⟨rfl, hb2⟩
  have R0 := Lib.hid (show RtS w w2.heap.size r1 r2 (w2.alloc (.cells #[.string ⟨r1.toArray⟩, .string ⟨r2.toArray⟩] 27)) from ⟨(below_next B1.out hb2 ⟨rfl, rfl, rfl, rfl⟩).alloc (below_next B1.out hb2 ⟨rfl, rfl, rfl, rfl⟩).size _, heap_alloc_new w2 _⟩)
  clear hb2 B1 HF HR
  go_upto_region 4 with fail
  generalize w2.alloc (.cells #[.string ⟨r1.toArray⟩, .string ⟨r2.toArray⟩] 27) = w3 at *
  generalize w2.heap.size = rb at *
  go_wp2_with fail
  refine (HR2.out _ R0.out.bel).mono ?_
  rintro e w4 ⟨rfl, hb⟩
  have R1 := Lib.hid ((R0.out.below hb).alloc (.cells #[.string ⟨r1.toArray⟩, .string ⟨r2.toArray⟩] 27))
  have S1 := Lib.hid (heap_alloc_new w4 (.cells #[.string ⟨r1.toArray⟩, .string ⟨r2.toArray⟩] 27))
  clear hb R0 HR2
  go_upto_region 5 with fail
  generalize w4.alloc (.cells #[.string ⟨r1.toArray⟩, .string ⟨r2.toArray⟩] 27) = w5 at *
  generalize w4.heap.size = rb2 at *
  go_wp2_with fail
  refine (HV.out _ R1.out.bel).mono ?_
  rintro e w6 ⟨v, rfl, hov, hb⟩
  obtain ⟨Av, cv, rfl, hrd⟩ := hov.rds
  have R2 := Lib.hid ((R1.out.below hb).alloc (.cells #[.int .i64 pi, .int .i64 pn, .slice Av ps.length cv] 33))
  have S2 := Lib.hid (balloc (bkeep S1.out hb) (.cells #[.int .i64 pi, .int .i64 pn, .slice Av ps.length cv] 33))
  have P2 := Lib.hid (heap_alloc_new w6 (.cells #[.int .i64 pi, .int .i64 pn, .slice Av ps.length cv] 33))
  have V2 := Lib.hid (hrd.below ((Below.refl _ w6).alloc (Nat.le_refl _) (.cells #[.int .i64 pi, .int .i64 pn, .slice Av ps.length cv] 33)))
  clear hb hov hrd R1 S1 HV
  go_upto_region 6 with fail
  generalize w6.alloc (.cells #[.int .i64 pi, .int .i64 pn, .slice Av ps.length cv] 33) = w7 at *
  generalize w6.heap.size = pb at *
  go_wp2_with fail
  refine (HV2.out _ R2.out.bel).mono ?_
  rintro e w8 ⟨v, rfl, hov, hb⟩
  obtain ⟨Aw, cw, rfl, hrd⟩ := hov.rds
  have R3 := Lib.hid ((R2.out.below hb).alloc (.cells #[.int .i64 pi, .int .i64 pn, .slice Aw ps.length cw] 33))
  have S3 := Lib.hid (balloc (bkeep S2.out hb) (.cells #[.int .i64 pi, .int .i64 pn, .slice Aw ps.length cw] 33))
  have P3 := Lib.hid (balloc (bkeep P2.out hb) (.cells #[.int .i64 pi, .int .i64 pn, .slice Aw ps.length cw] 33))
  have Q3 := Lib.hid (heap_alloc_new w8 (.cells #[.int .i64 pi, .int .i64 pn, .slice Aw ps.length cw] 33))
  have V3 := Lib.hid ((V2.out.below hb).below ((Below.refl _ w8).alloc (Nat.le_refl _) (.cells #[.int .i64 pi, .int .i64 pn, .slice Aw ps.length cw] 33)))
  have V4 := Lib.hid (hrd.below ((Below.refl _ w8).alloc (Nat.le_refl _) (.cells #[.int .i64 pi, .int .i64 pn, .slice Aw ps.length cw] 33)))
  clear hb hov hrd R2 S2 P2 V2 HV2
  go_upto_region 7 with fail
  generalize w8.alloc (.cells #[.int .i64 pi, .int .i64 pn, .slice Aw ps.length cw] 33) = w9 at *
  generalize w8.heap.size = qb at *
  have SP := Lib.hid (sameP_any pi pn pi pn Av Aw ps.length cv ps.length cw ps ps w9 V3.out V4.out hps2 hps2)
  rw [decide_eq_true (And.intro rfl (And.intro rfl rfl))] at SP
  unfold BoolPost at SP
  obtain ⟨⟨r0, r1'⟩, _⟩ := cells2n R3.out.rt
  obtain ⟨⟨s0, s1⟩, _⟩ := cells2n S3.out
  obtain ⟨⟨p0, p1, p2⟩, _⟩ := cells3 P3.out
  obtain ⟨⟨q0, q1, q2⟩, _⟩ := cells3 Q3.out
  generalize ps.length = m at *
  go_wp2_with fail
  refine SP.out.mono ?_
  rintro e w10 ⟨rfl, hb⟩
  have B0 := Lib.hid (R3.out.below hb).bel
  clear hb R3 S3 P3 Q3 V3 V4 SP r0 r1' s0 s1 p0 p1 p2 q0 q1 q2 hps2
  go_wp2_with fail
  go_loopw [65, 14, 15, 16, 17, 18] (fun i _ _ _ _ _ wr => ∃ k : Nat, k ≤ n ∧ i = .int .i64 (k : Int) ∧ Hid (Below w.heap.size w wr)) (fun i _ _ _ _ _ _ => n - (intOf i).toNat)
  case atStart => exact ⟨0, by omega, rfl, B0⟩
  case round =>
    clear B0
    obtain ⟨k, hk, rfl, hR⟩ := hrel
    by_cases hlt : k < n
    · obtain ⟨b1, o1, rfl, hb1, _⟩ := L1.out.at_ (by omega)
      have q0 := (L1.out.below hR.out).cell rowB_ok ln0 k 0 _ hlt rfl
      have q1 := (L1.out.below hR.out).cell rowB_ok ln0 k 1 _ hlt rfl
      have q2 := (L1.out.below hR.out).cell rowB_ok ln0 k 2 _ hlt rfl
      have hki : (k : Int) < (n : Int) := by omega
      have hk0 : (0 : Int) ≤ (k : Int) := by omega
      rcases hx : l.getD k ln0 with ⟨xa, xc, xm⟩
      rw [hx] at q0 q1 q2
      simp only [Nat.add_zero] at q0 q1 q2
      have LK := Lib.hid (HLf.out k hlt xa xc xm hx)
      have LK2 := Lib.hid (HLf2.out k hlt xa xc xm hx)
      generalize leafC (xa, xc, xm) = dd at *
      obtain ⟨d1, d2⟩ := dd
      simp only at LK LK2
      generalize lisI [(xa, xc, xm)] = y at *
      have R1 := Lib.hid (hR.out.alloc hR.out.size (.cells #[.string ⟨xa.toArray⟩, .string ⟨xc.toArray⟩, .string ⟨xm.toArray⟩] 38))
      have X1 := Lib.hid (heap_alloc_new wr (.cells #[.string ⟨xa.toArray⟩, .string ⟨xc.toArray⟩, .string ⟨xm.toArray⟩] 38))
      clear hR hx
      go_upto_region 12 with fail
      generalize wr.alloc (.cells #[.string ⟨xa.toArray⟩, .string ⟨xc.toArray⟩, .string ⟨xm.toArray⟩] 38) = w4 at *
      generalize wr.heap.size = xb at *
      obtain ⟨⟨x0, x1, x2⟩, _⟩ := cells3 X1.out
      go_wp2_with fail
      refine (LK.out _ R1.out).mono ?_
      rintro e w5 ⟨rfl, hb⟩
      have R2 := Lib.hid ((below_next R1.out hb ⟨rfl, rfl, rfl, rfl⟩).alloc (below_next R1.out hb ⟨rfl, rfl, rfl, rfl⟩).size (.cells #[.string ⟨d1.toArray⟩, .string ⟨d2.toArray⟩] 27))
      have X2 := Lib.hid (balloc (bkeep X1.out hb) (.cells #[.string ⟨d1.toArray⟩, .string ⟨d2.toArray⟩] 27))
      have N2 := Lib.hid (heap_alloc_new w5 (.cells #[.string ⟨d1.toArray⟩, .string ⟨d2.toArray⟩] 27))
      clear hb R1 X1 x0 x1 x2 LK q0 q1 q2
      go_upto_region 13 with fail
      generalize w5.alloc (.cells #[.string ⟨d1.toArray⟩, .string ⟨d2.toArray⟩] 27) = w6 at *
      generalize w5.heap.size = nb at *
      obtain ⟨⟨x0, x1, x2⟩, _⟩ := cells3 X2.out
      go_wp2_with fail
      refine (LK2.out _).mono ?_
      rintro e w7 ⟨rfl, hb⟩
      have R3 := Lib.hid ((below_next R2.out hb ⟨rfl, rfl, rfl, rfl⟩).alloc (below_next R2.out hb ⟨rfl, rfl, rfl, rfl⟩).size (.cells #[.string ⟨d1.toArray⟩, .string ⟨d2.toArray⟩] 27))
      have N3 := Lib.hid (balloc (bkeep N2.out hb) (.cells #[.string ⟨d1.toArray⟩, .string ⟨d2.toArray⟩] 27))
      have M3 := Lib.hid (heap_alloc_new w7 (.cells #[.string ⟨d1.toArray⟩, .string ⟨d2.toArray⟩] 27))
      clear hb R2 X2 N2 x0 x1 x2 LK2
      go_upto_region 14 with fail
      generalize w7.alloc (.cells #[.string ⟨d1.toArray⟩, .string ⟨d2.toArray⟩] 27) = w8 at *
      generalize w7.heap.size = mb at *
      obtain ⟨⟨x0, x1⟩, _⟩ := cells2n N3.out
      obtain ⟨⟨y0, y1⟩, _⟩ := cells2n M3.out
      go_wp2_with fail
      exact ⟨⟨k + 1, by omega, by go_num, R3⟩, by simp [intOf]; omega⟩
    · have hkn : k = n := by omega
      subst hkn
      have hki : ¬ (k : Int) < (k : Int) := by omega
      have R1 := Lib.hid hR.out
      clear hR
      go_wp2_with fail
      refine (HW.out _ R1.out).mono ?_
      rintro e w7 ⟨rfl, hb⟩
      have RR := Lib.hid (below_next R1.out hb ⟨rfl, rfl, rfl, rfl⟩)
      clear hb
      go_wp2_with fail
      exact HP.out _ RR.out
theorem i64_rng {a : Int} (h : (Lit.int .i64 a).wf = true) : -9223372036854775808 ≤ a ∧ a ≤ 9223372036854775807 := by
  simp only [Lit.wf, Bool.and_eq_true, decide_eq_true_eq] at h
  have h1 : IntKind.min .i64 = -9223372036854775808 := by decide
  have h2 : IntKind.max .i64 = 9223372036854775807 := by decide
  omega
theorem trees_int (A : Option Addr) (n c : Nat) (l : List Ln) (z : Int) (w : World) (hl : rowB.Rds w A n c l) (hz : (Lit.int .i64 z).wf = true) (ht : Tab w) (hM : ML w) : Calls Tryz.prog 3 #[.slice A n c, .int .i64 z] w (BoolPost true w) := by
  obtain ⟨h1, h2⟩ := i64_rng hz
  exact trees_row A n c l z w h1 h2 hl ht hM
end Go.Proofs.YtejaehmoplohdaaGreatDoor
