/- Charts in memory; the contracts of Find. -/
import Derived.Test.YtohdpidlilhnjaaGreatDoorQ7
import Derived.Test.YtohdpidlilhnjaaGreatDoorQ6
import Derived.Test.YtohdpidlilhnjaaGreatDoorQ3
import Derived.Test.YtohdpidlilhnjaaGreatDoorQ4
import Derived.Test.YtohdpidlilhnjaaGreatDoorQ5
import Derived.Deep.OwnRows
import Derived.Deep.QuietTactic
import Derived.BigQuiet
import Derived.Sort.Walk0
import Derived.Laws.Cover1
namespace Go.Proofs.YtohdpidlilhnjaaGreatDoor
open Go.RowKit


abbrev Acc := List UInt8 × Int
/-- a slice of accounts in memory -/
structure Accs (w : World) (A : Option Addr) (n c : Nat) (l : List Acc) : Prop where
  len : l.length = n
  cap : n ≤ c
  top : c ≤ 9223372036854775807
  at_ : 0 < n → ∃ b o, A = some ⟨b, o, none⟩ ∧ b < w.heap.size ∧ ∀ k, k < n → w.cell? ⟨b, o + k * 2, none⟩ = some (.string ⟨(l.getD k ([], 0)).1.toArray⟩) ∧ w.cell? ⟨b, o + k * 2 + 1, none⟩ = some (.int .i64 (l.getD k ([], 0)).2)
theorem Accs.below {w w' : World} {A : Option Addr} {n c : Nat} {l : List Acc} (h : Accs w A n c l) (hb : Below w.heap.size w w') : Accs w' A n c l :=
  ⟨h.len, h.cap, h.top, fun h0 => by
    obtain ⟨b, o, e, hlt, hc⟩ := h.at_ h0
    exact ⟨b, o, e, Nat.lt_of_lt_of_le hlt hb.size, fun k hk => ⟨(hb.cell (p := ⟨b, o + k * 2, none⟩) hlt).trans (hc k hk).1, (hb.cell (p := ⟨b, o + k * 2 + 1, none⟩) hlt).trans (hc k hk).2⟩⟩⟩
def AV (a : Acc) : Nat → Value := fun j => if j = 0 then .string ⟨a.1.toArray⟩ else .int .i64 a.2
/-- a step of the search -/
def fStep (code : List UInt8) (s : Acc × Bool) (a : Acc) : Acc × Bool := if undB code a.1 && (!s.2 || decide (s.1.1.length < a.1.length)) then (a, true) else s
def findL (l : List Acc) (code : List UInt8) : Acc × Bool := l.foldl (fStep code) (([], 0), false)
theorem fold_snoc (code : List UInt8) (l : List Acc) (k : Nat) (h : k < l.length) : (l.take (k + 1)).foldl (fStep code) (([], 0), false) = fStep code ((l.take k).foldl (fStep code) (([], 0), false)) (l.getD k ([], 0)) := by
  rw [List.take_succ_eq_append_getElem h, List.foldl_append, List.getD_eq_getElem?_getD, List.getElem?_eq_getElem h]
  rfl
structure FndR (w : World) (s : Acc × Bool) (wr : World) : Prop where
  bel : Below w.heap.size w wr
  res : wr.rowIs w.heap.size 77 2 (AV ([], 0))
  bst : wr.rowIs (w.heap.size + 1) 77 2 (AV s.1)
  sz : w.heap.size + 2 ≤ wr.heap.size
theorem FndR.alloc {w wr : World} {s : Acc × Bool} (h : FndR w s wr) (o : Obj) : FndR w s (wr.alloc o) := ⟨h.bel.alloc h.bel.size _, h.res.alloc _, h.bst.alloc _, by have := h.sz; simp; omega⟩
theorem FndR.put {w wr : World} {s : Acc × Bool} (h : FndR w s wr) (a : Acc) (f : Bool) : FndR w (a, f) ((wr.setCell ⟨w.heap.size + 1, 0, none⟩ (.string ⟨a.1.toArray⟩)).setCell ⟨w.heap.size + 1, 1, none⟩ (.int .i64 a.2)) :=
  ⟨(h.bel.setCell (p := ⟨w.heap.size + 1, 0, none⟩) (by simp) _).setCell (p := ⟨w.heap.size + 1, 1, none⟩) (by simp) _, (h.res.setOther (by simp) _).setOther (by simp) _,
    ((h.bst.set 0 _).set 1 _).congr fun j hj => by
      rcases j with _ | _ | j
      · rfl
      · rfl
      · omega, by have := h.sz; simpa using this⟩
theorem FndR.start (w : World) : FndR w (([], 0), false) ((w.alloc (.cells #[.string ⟨#[]⟩, .int .i64 0] 77)).alloc (.cells #[.string ⟨#[]⟩, .int .i64 0] 77)) := by
  have r0 := World.rowIs_alloc w #[.string ⟨#[]⟩, .int .i64 0] 77 (AV ([], 0)) (fun i hi => by
    rcases i with _ | _ | i
    · rfl
    · rfl
    · simp at hi; omega)
  have r1 := World.rowIs_alloc (w.alloc (.cells #[.string ⟨#[]⟩, .int .i64 0] 77)) #[.string ⟨#[]⟩, .int .i64 0] 77 (AV ([], 0)) (fun i hi => by
    rcases i with _ | _ | i
    · rfl
    · rfl
    · simp at hi; omega)
  rw [World.size_alloc] at r1
  exact ⟨((Below.refl _ w).alloc (Nat.le_refl _) _).alloc (by simp) _, r0.alloc _, r1, by simp⟩
def RetA (a : Acc) (f : Bool) (w : World) (e : Ending) (w' : World) : Prop := e = .returned (.tuple #[.agg #[.string ⟨a.1.toArray⟩, .int .i64 a.2], .bool f]) ∧ Below w.heap.size w w'
set_option maxHeartbeats 2000000 in
set_option maxRecDepth 100000 in
theorem Find_any (A : Option Addr) (n c : Nat) (l : List Acc) (code : List UInt8) (w : World) (h : Accs w A n c l) (hn : ∀ a ∈ l, a.1.length ≤ 140737488355328) : Calls Tryz.prog 46 #[.slice A n c, .string ⟨code.toArray⟩] w (RetA (findL l code).1 (findL l code).2 w) := by
  have htop := h.top
  have hcap := h.cap
  have hlen := Lib.hid h.len
  have HA := Lib.hid h
  have hn := Lib.hid hn
  go_enter Tryz.func46, Tryz.ntmps46
  go_wp2_with fail
  go_loopw [7, 9, 12] (fun f _ i wr => ∃ k : Nat, k ≤ n ∧ i = .int .i64 (k : Int) ∧ f = .bool ((l.take k).foldl (fStep code) (([], 0), false)).2 ∧ FndR w ((l.take k).foldl (fStep code) (([], 0), false)) wr) (fun _ _ i _ => n - (intOf i).toNat)
  case atStart =>
    refine ⟨0, by omega, rfl, rfl, ?_⟩
    exact FndR.start w
  case round =>
    obtain ⟨k, hk, rfl, rfl, hfr⟩ := hrel
    by_cases hlt : k < n
    · have hfold := Lib.hid (fold_snoc code l k (by rw [hlen.out]; exact hlt))
      obtain ⟨b, o, rfl, hb, hc⟩ := HA.out.at_ (by omega)
      obtain ⟨c1, c2⟩ := hc k hlt
      have d1 := (hfr.bel.cell (p := ⟨b, o + k * 2, none⟩) hb).trans c1
      have d2 := (hfr.bel.cell (p := ⟨b, o + k * 2 + 1, none⟩) hb).trans c2
      clear hc c1 c2
      obtain ⟨st, hst⟩ : ∃ st, st = (l.take k).foldl (fStep code) (([], 0), false) := ⟨_, rfl⟩
      obtain ⟨a, ha⟩ : ∃ a, a = l.getD k ([], 0) := ⟨_, rfl⟩
      rw [← ha] at d1 d2
      rw [← hst] at hfr ⊢
      have HST := Lib.hid (And.intro hst ha)
      clear hst ha
      have f0 := hfr.bst.frozen 0
      have f1 := hfr.bst.frozen 1
      have hsz : w.heap.size + 1 < wr.heap.size := by have := hfr.sz; omega
      have hsne : ¬ (w.heap.size + 1 = wr.heap.size) := by omega
      obtain ⟨a1, a2⟩ := a
      obtain ⟨⟨s1, s2⟩, s3⟩ := st
      have e0 : wr.cell? ⟨w.heap.size + 1, 0, none⟩ = some (.string ⟨s1.toArray⟩) := hfr.bst.cell (i := 0) (by omega)
      have e1 : wr.cell? ⟨w.heap.size + 1, 1, none⟩ = some (.int .i64 s2) := hfr.bst.cell (i := 1) (by omega)
      have hund := Lib.hid (Under_any code a1)
      have hl1 : a1.length ≤ 140737488355328 := by
        have := HST.out.2
        exact hn.out (a1, a2) (by rw [this, List.getD_eq_getElem?_getD, List.getElem?_eq_getElem (by rw [hlen.out]; exact hlt)]; exact List.getElem_mem _)
      have hstep := Lib.hid (show fStep code ((s1, s2), s3) (a1, a2) = if undB code a1 && (!s3 || decide (s1.length < a1.length)) then ((a1, a2), true) else ((s1, s2), s3) from rfl)
      have hnew := hfr.alloc (.cells #[.string ⟨a1.toArray⟩, .int .i64 a2] 77)
      have HNEW := Lib.hid hnew
      have HPUT := Lib.hid ((hfr.put (a1, a2) true).alloc (.cells #[.string ⟨a1.toArray⟩, .int .i64 a2] 77))
      clear hnew
      generalize hub : undB code a1 = ub at *
      have HUB := Lib.hid hub
      clear hub
      cases ub
      · go_wp2_with fail
        refine (hund.out _).mono ?_
        rintro e w1 ⟨rfl, rfl⟩
        go_wp2_with fail
        go_roundw
        case rel =>
          have e : (l.take (k + 1)).foldl (fStep code) (([], 0), false) = ((s1, s2), s3) := by rw [hfold.out, ← HST.out.1, ← HST.out.2, hstep.out]; rfl
          exact ⟨k + 1, by omega, by go_num, by rw [e], by rw [e]; exact HNEW.out⟩
        case measure => simp [intOf]; omega
      · cases s3
        · go_wp2_with fail
          refine (hund.out _).mono ?_
          rintro e w1 ⟨rfl, rfl⟩
          go_wp2_with fail
          go_roundw
          case rel =>
            have e : (l.take (k + 1)).foldl (fStep code) (([], 0), false) = ((a1, a2), true) := by rw [hfold.out, ← HST.out.1, ← HST.out.2, hstep.out]; rfl
            exact ⟨k + 1, by omega, by go_num, by rw [e], by rw [e]; exact HPUT.out⟩
          case measure => simp [intOf]; omega
        · by_cases hll : s1.length < a1.length
          · have hd : decide ((s1.length : Int) < (a1.length : Int)) = true := by simp; omega
            have hd2 : decide (s1.length < a1.length) = true := by simp [hll]
            go_wp2_with fail
            refine (hund.out _).mono ?_
            rintro e w1 ⟨rfl, rfl⟩
            go_wp2_with fail
            go_roundw
            case rel =>
              have e : (l.take (k + 1)).foldl (fStep code) (([], 0), false) = ((a1, a2), true) := by rw [hfold.out, ← HST.out.1, ← HST.out.2, hstep.out, hd2]; rfl
              exact ⟨k + 1, by omega, by go_num, by rw [e], by rw [e]; exact HPUT.out⟩
            case measure => simp [intOf]; omega
          · have hd : decide ((s1.length : Int) < (a1.length : Int)) = false := by simp; omega
            have hd2 : decide (s1.length < a1.length) = false := by simp; omega
            go_wp2_with fail
            refine (hund.out _).mono ?_
            rintro e w1 ⟨rfl, rfl⟩
            go_wp2_with fail
            go_roundw
            case rel =>
              have e : (l.take (k + 1)).foldl (fStep code) (([], 0), false) = ((s1, s2), true) := by rw [hfold.out, ← HST.out.1, ← HST.out.2, hstep.out, hd2]; rfl
              exact ⟨k + 1, by omega, by go_num, by rw [e], by rw [e]; exact HNEW.out⟩
            case measure => simp [intOf]; omega
    · have hfin := Lib.hid (show l.take k = l from List.take_of_length_le (by rw [hlen.out]; omega))
      have r0 : wr.cell? ⟨w.heap.size, 0, none⟩ = some (.string ⟨#[]⟩) := hfr.res.cell (i := 0) (by omega)
      have r1 : wr.cell? ⟨w.heap.size, 1, none⟩ = some (.int .i64 0) := hfr.res.cell (i := 1) (by omega)
      have f0 := hfr.res.frozen 0
      have f1 := hfr.res.frozen 1
      obtain ⟨st, hst⟩ : ∃ st, st = (l.take k).foldl (fStep code) (([], 0), false) := ⟨_, rfl⟩
      rw [← hst] at hfr ⊢
      rw [hfin.out] at hst
      have HST := Lib.hid hst
      clear hst
      obtain ⟨⟨s1, s2⟩, s3⟩ := st
      have e0 : wr.cell? ⟨w.heap.size + 1, 0, none⟩ = some (.string ⟨s1.toArray⟩) := hfr.bst.cell (i := 0) (by omega)
      have e1 : wr.cell? ⟨w.heap.size + 1, 1, none⟩ = some (.int .i64 s2) := hfr.bst.cell (i := 1) (by omega)
      go_wp2_with fail
      have q0 : ((wr.setCell ⟨w.heap.size, 0, none⟩ (.string ⟨s1.toArray⟩)).setCell ⟨w.heap.size, 1, none⟩ (.int .i64 s2)).cell? ⟨w.heap.size, 0, none⟩ = some (.string ⟨s1.toArray⟩) :=
        ((hfr.res.set 0 (.string ⟨s1.toArray⟩)).set 1 (.int .i64 s2)).cell (i := 0) (by omega)
      have q1 : ((wr.setCell ⟨w.heap.size, 0, none⟩ (.string ⟨s1.toArray⟩)).setCell ⟨w.heap.size, 1, none⟩ (.int .i64 s2)).cell? ⟨w.heap.size, 1, none⟩ = some (.int .i64 s2) :=
        ((hfr.res.set 0 (.string ⟨s1.toArray⟩)).set 1 (.int .i64 s2)).cell (i := 1) (by omega)
      refine bodyPost_ret (v := .tuple #[.agg #[.string ⟨s1.toArray⟩, .int .i64 s2], .bool s3]) (by simp [results, Tryz.results46, go_sem, q0, q1]) rfl ⟨?_, (hfr.bel.setCell (p := ⟨w.heap.size, 0, none⟩) (by simp) _).setCell (p := ⟨w.heap.size, 1, none⟩) (by simp) _⟩
      have := HST.out
      rw [findL, ← this]

theorem FndR.drewN {w wr : World} {s : Acc × Bool} (h : FndR w s wr) (n : Nat) : FndR w s (wr.drewN n) := ⟨below_drewN h.bel n, h.res, h.bst, h.sz⟩
theorem rUnder_q (c p : List UInt8) (w : World) : Calls Tryz.prog 95 #[.string ⟨c.toArray⟩, .string ⟨p.toArray⟩] w fun e w' => e = .returned (.bool (undB c p)) ∧ w' = w := (rUnder_walk c p w).mono fun _ _ ⟨h, g⟩ => ⟨h, g.symm⟩
set_option maxHeartbeats 2000000 in
set_option maxRecDepth 100000 in
theorem rFind_any (A : Option Addr) (n c : Nat) (l : List Acc) (code : List UInt8) (w : World) (h : Accs w A n c l) (hn : ∀ a ∈ l, a.1.length ≤ 140737488355328) : Calls Tryz.prog 94 #[.slice A n c, .string ⟨code.toArray⟩] w (RetA (findL l code).1 (findL l code).2 w) := by
  have htop := h.top
  have hcap := h.cap
  have hlen := Lib.hid h.len
  have HA := Lib.hid h
  have HN := Lib.hid hn
  clear hn
  go_enter Tryz.func94, Tryz.ntmps94
  go_wp2_with fail
  go_loopw [7, 8] (fun f i wr => ∃ k : Nat, k ≤ n ∧ i = .int .i64 (k : Int) ∧ f = .bool ((l.take k).foldl (fStep code) (([], 0), false)).2 ∧ FndR w ((l.take k).foldl (fStep code) (([], 0), false)) wr) (fun _ i _ => n - (intOf i).toNat)
  case atStart =>
    refine ⟨0, by omega, rfl, rfl, ?_⟩
    exact FndR.start w
  case round =>
    obtain ⟨k, hk, rfl, rfl, hfr⟩ := hrel
    by_cases hlt : k < n
    · have hfold := Lib.hid (fold_snoc code l k (by rw [hlen.out]; exact hlt))
      obtain ⟨b, o, rfl, hb, hc⟩ := HA.out.at_ (by omega)
      obtain ⟨c1, c2⟩ := hc k hlt
      have d1 := (hfr.bel.cell (p := ⟨b, o + k * 2, none⟩) hb).trans c1
      have d2 := (hfr.bel.cell (p := ⟨b, o + k * 2 + 1, none⟩) hb).trans c2
      clear hc c1 c2
      obtain ⟨st, hst⟩ : ∃ st, st = (l.take k).foldl (fStep code) (([], 0), false) := ⟨_, rfl⟩
      obtain ⟨a, ha⟩ : ∃ a, a = l.getD k ([], 0) := ⟨_, rfl⟩
      rw [← ha] at d1 d2
      rw [← hst] at hfr ⊢
      have HST := Lib.hid (And.intro hst ha)
      clear hst ha
      obtain ⟨a1, a2⟩ := a
      obtain ⟨⟨s1, s2⟩, s3⟩ := st
      have e0 : wr.cell? ⟨w.heap.size + 1, 0, none⟩ = some (.string ⟨s1.toArray⟩) := hfr.bst.cell (i := 0) (by omega)
      have e1 : wr.cell? ⟨w.heap.size + 1, 1, none⟩ = some (.int .i64 s2) := hfr.bst.cell (i := 1) (by omega)
      have hl1 : a1.length ≤ 140737488355328 := by
        have := HST.out.2
        exact HN.out (a1, a2) (by rw [this, List.getD_eq_getElem?_getD, List.getElem?_eq_getElem (by rw [hlen.out]; exact hlt)]; exact List.getElem_mem _)
      have hstep := Lib.hid (show fStep code ((s1, s2), s3) (a1, a2) = if undB code a1 && (!s3 || decide (s1.length < a1.length)) then ((a1, a2), true) else ((s1, s2), s3) from rfl)
      have hund := Lib.hid (rUnder_q code a1)
      cases hub : undB code a1
      · rw [hub] at hstep hund
        clear hub
        go_wp2_with fail
        go_quiet ((go_at_call 95; exact Calls.quiet_of_same (hund.out _)))
        have HNEW := Lib.hid (hfr.drewN nq)
        go_wp2_with fail
        go_roundw
        case rel =>
          have e : (l.take (k + 1)).foldl (fStep code) (([], 0), false) = ((s1, s2), s3) := by rw [hfold.out, ← HST.out.1, ← HST.out.2, hstep.out]; rfl
          exact ⟨k + 1, by omega, by go_num, by rw [e], by rw [e]; exact HNEW.out⟩
        case measure => simp [intOf]; omega
      · rw [hub] at hstep hund
        clear hub
        have f0 := hfr.bst.frozen 0
        have f1 := hfr.bst.frozen 1
        have hsz : w.heap.size + 1 < wr.heap.size := by have := hfr.sz; omega
        cases s3
        · go_wp2_with fail
          go_quiet ((go_at_call 95; exact Calls.quiet_of_same (hund.out _)))
          have HPUT := Lib.hid ((hfr.drewN nq).put (a1, a2) true)
          go_wp2_with fail
          go_roundw
          case rel =>
            have e : (l.take (k + 1)).foldl (fStep code) (([], 0), false) = ((a1, a2), true) := by rw [hfold.out, ← HST.out.1, ← HST.out.2, hstep.out]; rfl
            exact ⟨k + 1, by omega, by go_num, by rw [e], by rw [e]; exact HPUT.out⟩
          case measure => simp [intOf]; omega
        · by_cases hll : s1.length < a1.length
          · have hd : decide ((s1.length : Int) < (a1.length : Int)) = true := by simp; omega
            have hd2 : decide (s1.length < a1.length) = true := by simp [hll]
            go_wp2_with fail
            go_quiet ((go_at_call 95; exact Calls.quiet_of_same (hund.out _)))
            have HPUT := Lib.hid ((hfr.drewN nq).put (a1, a2) true)
            go_wp2_with fail
            go_roundw
            case rel =>
              have e : (l.take (k + 1)).foldl (fStep code) (([], 0), false) = ((a1, a2), true) := by rw [hfold.out, ← HST.out.1, ← HST.out.2, hstep.out, hd2]; rfl
              exact ⟨k + 1, by omega, by go_num, by rw [e], by rw [e]; exact HPUT.out⟩
            case measure => simp [intOf]; omega
          · have hd : decide ((s1.length : Int) < (a1.length : Int)) = false := by simp; omega
            have hd2 : decide (s1.length < a1.length) = false := by simp; omega
            go_wp2_with fail
            go_quiet ((go_at_call 95; exact Calls.quiet_of_same (hund.out _)))
            have HNEW := Lib.hid (hfr.drewN nq)
            go_wp2_with fail
            go_roundw
            case rel =>
              have e : (l.take (k + 1)).foldl (fStep code) (([], 0), false) = ((s1, s2), true) := by rw [hfold.out, ← HST.out.1, ← HST.out.2, hstep.out, hd2]; rfl
              exact ⟨k + 1, by omega, by go_num, by rw [e], by rw [e]; exact HNEW.out⟩
            case measure => simp [intOf]; omega
    · have hfin := Lib.hid (show l.take k = l from List.take_of_length_le (by rw [hlen.out]; omega))
      have r0 : wr.cell? ⟨w.heap.size, 0, none⟩ = some (.string ⟨#[]⟩) := hfr.res.cell (i := 0) (by omega)
      have r1 : wr.cell? ⟨w.heap.size, 1, none⟩ = some (.int .i64 0) := hfr.res.cell (i := 1) (by omega)
      have f0 := hfr.res.frozen 0
      have f1 := hfr.res.frozen 1
      obtain ⟨st, hst⟩ : ∃ st, st = (l.take k).foldl (fStep code) (([], 0), false) := ⟨_, rfl⟩
      rw [← hst] at hfr ⊢
      rw [hfin.out] at hst
      have HST := Lib.hid hst
      clear hst
      obtain ⟨⟨s1, s2⟩, s3⟩ := st
      have e0 : wr.cell? ⟨w.heap.size + 1, 0, none⟩ = some (.string ⟨s1.toArray⟩) := hfr.bst.cell (i := 0) (by omega)
      have e1 : wr.cell? ⟨w.heap.size + 1, 1, none⟩ = some (.int .i64 s2) := hfr.bst.cell (i := 1) (by omega)
      go_wp2_with fail
      have q0 : ((wr.setCell ⟨w.heap.size, 0, none⟩ (.string ⟨s1.toArray⟩)).setCell ⟨w.heap.size, 1, none⟩ (.int .i64 s2)).cell? ⟨w.heap.size, 0, none⟩ = some (.string ⟨s1.toArray⟩) :=
        ((hfr.res.set 0 (.string ⟨s1.toArray⟩)).set 1 (.int .i64 s2)).cell (i := 0) (by omega)
      have q1 : ((wr.setCell ⟨w.heap.size, 0, none⟩ (.string ⟨s1.toArray⟩)).setCell ⟨w.heap.size, 1, none⟩ (.int .i64 s2)).cell? ⟨w.heap.size, 1, none⟩ = some (.int .i64 s2) :=
        ((hfr.res.set 0 (.string ⟨s1.toArray⟩)).set 1 (.int .i64 s2)).cell (i := 1) (by omega)
      refine bodyPost_ret (v := .tuple #[.agg #[.string ⟨s1.toArray⟩, .int .i64 s2], .bool s3]) (by simp [results, Tryz.results94, go_sem, q0, q1]) rfl ⟨?_, (hfr.bel.setCell (p := ⟨w.heap.size, 0, none⟩) (by simp) _).setCell (p := ⟨w.heap.size, 1, none⟩) (by simp) _⟩
      have := HST.out
      rw [findL, ← this]
end Go.Proofs.YtohdpidlilhnjaaGreatDoor

/- The contract of CheckAll. -/
namespace Go.Proofs.YtohdpidlilhnjaaGreatDoor
open Go.RowKit


def accAt (l : List Acc) (i : Nat) : Acc := l.getD i ([], 0)
/-- an account before place k under which this one lies, of another kind -/
def clash (l : List Acc) (i k : Nat) : Bool := (List.range k).any fun j => undB (accAt l i).1 (accAt l j).1 && decide ((accAt l i).2 ≠ (accAt l j).2)
theorem clash_succ (l : List Acc) (i k : Nat) : clash l i (k + 1) = (clash l i k || (undB (accAt l i).1 (accAt l k).1 && decide ((accAt l i).2 ≠ (accAt l k).2))) := by
  simp [clash, List.range_succ]
theorem clash_of {l : List Acc} {i k n : Nat} (hk : k < n) (h : (undB (accAt l i).1 (accAt l k).1 && decide ((accAt l i).2 ≠ (accAt l k).2)) = true) : clash l i n = true := by
  rw [clash, List.any_eq_true]
  exact ⟨k, List.mem_range.2 hk, h⟩
def errAt (l : List Acc) (i : Nat) : Int :=
  if codeB (accAt l i).1 = false then 3 else if (accAt l i).2 < 1 ∨ 5 < (accAt l i).2 then 7 else if 0 < i ∧ (Op.bytesLess (accAt l i).1 (accAt l (i - 1)).1 || (accAt l i).1 == (accAt l (i - 1)).1) = true then 8 else if clash l i i then 18 else 0
def chkL (l : List Acc) : Int := if 256 < l.length then 4 else (((List.range l.length).map (errAt l)).find? (fun e => e != 0)).getD 0
theorem chk_at {l : List Acc} {i : Nat} (hn : l.length ≤ 256) (hi : i < l.length) (h : ∀ j, j < i → errAt l j = 0) (he : errAt l i ≠ 0) : chkL l = errAt l i := by
  rw [chkL, if_neg (by omega)]
  have e : (List.range l.length).map (errAt l) = (List.range i).map (errAt l) ++ errAt l i :: ((List.range (l.length - i - 1)).map fun j => errAt l (i + 1 + j)) := by
    have h1 : List.range l.length = List.range i ++ i :: (List.range (l.length - i - 1)).map (fun j => i + 1 + j) := by
      have h2 : l.length = i + (1 + (l.length - i - 1)) := by omega
      conv => lhs; rw [h2, List.range_add, List.range_add]
      simp [Nat.add_assoc]
    rw [h1, List.map_append, List.map_cons, List.map_map]
    rfl
  rw [e, List.find?_append]
  have hnone : ((List.range i).map (errAt l)).find? (fun e => e != 0) = none := by
    rw [List.find?_eq_none]
    intro x hx
    obtain ⟨j, hj, rfl⟩ := List.mem_map.1 hx
    rw [h j (List.mem_range.1 hj)]
    decide
  rw [hnone, Option.none_or, List.find?_cons_of_pos (by rw [bne_iff_ne]; exact he)]
  rfl
theorem chkL_ok {l : List Acc} (hn : l.length ≤ 256) (h : ∀ j, j < l.length → errAt l j = 0) : chkL l = 0 := by
  rw [chkL, if_neg (by omega)]
  have hnone : ((List.range l.length).map (errAt l)).find? (fun e => e != 0) = none := by
    rw [List.find?_eq_none]
    intro x hx
    obtain ⟨j, hj, rfl⟩ := List.mem_map.1 hx
    rw [h j (List.mem_range.1 hj)]
    decide
  rw [hnone]; rfl
theorem Accs.cells {w wr : World} {b o n c : Nat} {l : List Acc} (h : Accs w (some ⟨b, o, none⟩) n c l) (hb : Below w.heap.size w wr) {k : Nat} (hk : k < n) :
    wr.cell? ⟨b, o + k * 2, none⟩ = some (.string ⟨(accAt l k).1.toArray⟩) ∧ wr.cell? ⟨b, o + k * 2 + 1, none⟩ = some (.int .i64 (accAt l k).2) := by
  obtain ⟨b', o', e, hlt, hc⟩ := h.at_ (by omega)
  cases e
  exact ⟨(hb.cell (p := ⟨b, o + k * 2, none⟩) hlt).trans (hc k hk).1, (hb.cell (p := ⟨b, o + k * 2 + 1, none⟩) hlt).trans (hc k hk).2⟩
set_option maxHeartbeats 4000000 in
set_option maxRecDepth 100000 in
theorem CheckAll_any (A : Option Addr) (n c : Nat) (l : List Acc) (w : World) (h : Accs w A n c l) (hl : ∀ a ∈ l, a.1.length < 4294967281) (hm : ML w) :
    Calls Tryz.prog 93 #[.slice A n c] w fun e w' => e = .returned (.int .i64 (chkL l)) ∧ Below w.heap.size w w' := by
  have htop := h.top
  have hcap := h.cap
  have hlen := Lib.hid h.len
  have HA := Lib.hid h
  have HL := Lib.hid hl
  have HM := Lib.hid hm
  clear hl hm
  by_cases h256 : 256 < n
  · have hd : decide (256 < (n : Int)) = true := by simp; omega
    have hv := Lib.hid (show chkL l = 4 by rw [chkL, hlen.out, if_pos h256])
    clear h
    go_enter Tryz.func93, Tryz.ntmps93
    go_wp2_with fail
    go_ret
    exact ⟨by rw [hv.out]; rfl, Below.refl _ _⟩
  have hd : decide (256 < (n : Int)) = false := by simp; omega
  have HAT := Lib.hid (fun i (hi : i < n) => @chk_at l i (by rw [hlen.out]; omega) (by rw [hlen.out]; exact hi))
  have HOK := Lib.hid (@chkL_ok l (by rw [hlen.out]; omega))
  clear h
  go_enter Tryz.func93, Tryz.ntmps93
  go_wp2_with fail
  go_loopw [2, 3, 4, 6, 12, 17, 22, 31] (fun _ _ _ _ i _ _ _ wr => ∃ k : Nat, k ≤ n ∧ i = .int .i64 (k : Int) ∧ Hid (∀ j, j < k → errAt l j = 0) ∧ Below w.heap.size w wr) (fun _ _ _ _ i _ _ _ _ => n - (intOf i).toNat)
  case atStart => exact ⟨0, by omega, rfl, (fun j hj => by omega), Below.refl _ _⟩
  case round =>
    obtain ⟨k, hk, rfl, hz, hbw⟩ := hrel
    obtain ⟨wo, rfl⟩ : ∃ wo : World, wo = wr := ⟨_, rfl⟩
    by_cases hlt : k < n
    · obtain ⟨b, o, rfl, hbl, -⟩ := HA.out.at_ (by omega)
      obtain ⟨d1, d2⟩ := HA.out.cells hbw hlt
      have hak := Lib.hid (HL.out (accAt l k) (by rw [accAt, List.getD_eq_getElem?_getD, List.getElem?_eq_getElem (by rw [hlen.out]; exact hlt)]; exact List.getElem_mem _))
      have herr := Lib.hid (show errAt l k = if codeB (accAt l k).1 = false then 3 else if (accAt l k).2 < 1 ∨ 5 < (accAt l k).2 then 7 else if 0 < k ∧ (Op.bytesLess (accAt l k).1 (accAt l (k - 1)).1 || (accAt l k).1 == (accAt l (k - 1)).1) = true then 8 else if clash l k k then 18 else 0 from rfl)
      have hbW : b < wo.heap.size := Nat.lt_of_lt_of_le hbl hbw.size
      obtain ⟨⟨a1, a2⟩, hacc⟩ : ∃ a, accAt l k = a := ⟨_, rfl⟩
      rw [hacc] at d1 d2
      have HACC := Lib.hid hacc
      clear hacc
      have hck := Lib.hid (fun w hm => AccCheck_any ⟨a1.toArray⟩ w (by have := hak.out; rw [HACC.out] at this; exact this) hm)
      have hnew : Below w.heap.size w (wo.alloc (.cells #[.string ⟨a1.toArray⟩, .int .i64 a2] 77)) := hbw.alloc hbw.size _
      go_wp2_with fail
      refine (hck.out _ (HM.out.below hnew)).mono ?_
      rintro e w1 ⟨rfl, hb1⟩
      have hfin : ∀ v : Int, v ≠ 0 → errAt l k = v → chkL l = v := fun v hv he => by rw [← he]; exact HAT.out k hlt hz.out (by rw [he]; exact hv)
      have HFIN := Lib.hid hfin
      have hB1 : Below w.heap.size w w1 := hnew.trans (hb1.mono hnew.size)
      have hsz1 : wo.heap.size < w1.heap.size := by have := hb1.size; simp at this; omega
      have q0 : w1.cell? ⟨wo.heap.size, 0, none⟩ = some (.string ⟨a1.toArray⟩) := (hb1.cell (p := ⟨wo.heap.size, 0, none⟩) (by simp)).trans (by go_simp)
      have q1 : w1.cell? ⟨wo.heap.size, 1, none⟩ = some (.int .i64 a2) := (hb1.cell (p := ⟨wo.heap.size, 1, none⟩) (by simp)).trans (by go_simp)
      rw [HACC.out] at herr
      clear hfin hb1 hnew d1 d2
      cases hcb : codeB a1
      · have hv := Lib.hid (HFIN.out 3 (by decide) (by rw [herr.out, hcb]; rfl))
        rw [show chkA (ByteArray.mk a1.toArray).data.toList = 3 by show chkA a1 = 3; rw [chkA, hcb]; rfl]
        go_wp2_with fail
        go_ret
        exact ⟨by rw [hv.out]; rfl, hB1⟩
      · rw [show chkA (ByteArray.mk a1.toArray).data.toList = 0 by show chkA a1 = 0; rw [chkA, hcb]; rfl]
        by_cases k1 : a2 < 1
        · have hv := Lib.hid (HFIN.out 7 (by decide) (by rw [herr.out, hcb, if_neg (by decide), if_pos (.inl k1)]))
          go_wp2_with fail
          go_ret
          exact ⟨by rw [hv.out]; rfl, hB1⟩
        by_cases k5 : 5 < a2
        · have kd : decide (5 < a2) = true := by simp [k5]
          have hv := Lib.hid (HFIN.out 7 (by decide) (by rw [herr.out, hcb, if_neg (by decide), if_pos (.inr k5)]))
          go_wp2_with fail
          go_ret
          exact ⟨by rw [hv.out]; rfl, hB1⟩
        have kd : decide (5 < a2) = false := by simp; omega
        have kd1 : decide (a2 < 1) = false := by simp; omega
        have herr2 := Lib.hid (show errAt l k = if 0 < k ∧ (Op.bytesLess a1 (accAt l (k - 1)).1 || a1 == (accAt l (k - 1)).1) = true then 8 else if clash l k k then 18 else 0 by rw [herr.out, hcb, if_neg (by decide), if_neg (by omega)])
        by_cases k0 : 0 < k
        · obtain ⟨m, hm⟩ : ∃ m, m = k - 1 := ⟨_, rfl⟩
          obtain ⟨⟨p1, p2⟩, hpp⟩ : ∃ a, accAt l m = a := ⟨_, rfl⟩
          obtain ⟨e1, -⟩ := HA.out.cells hB1 (show m < n by omega)
          rw [hpp] at e1
          rw [← hm, hpp] at herr2
          have hw : IntKind.i64.wrap ((k : Int) - 1) = (m : Int) := by rw [IntWalk.i64_in _ (by omega)]; omega
          have g0 : decide (0 < (k : Int)) = true := by simp; omega
          have hmn : (m : Int) < (n : Int) := by omega
          have HM2 := Lib.hid (And.intro hm hpp)
          clear hm hpp
          cases hle : (Op.bytesLess a1 p1 || a1 == p1)
          · have herr3 := Lib.hid (show errAt l k = if clash l k k then 18 else 0 by rw [herr2.out, hle, if_neg (by simp)])
            go_wp2_with fail
            go_quiet (fail)
            go_wp2_with fail
            have hB2 : Below w.heap.size w (w1.drewN nq) := below_drewN hB1 nq
            have q0' : (w1.drewN nq).cell? ⟨wo.heap.size, 0, none⟩ = some (.string ⟨a1.toArray⟩) := q0
            have q1' : (w1.drewN nq).cell? ⟨wo.heap.size, 1, none⟩ = some (.int .i64 a2) := q1
            have hsz2 : wo.heap.size < (w1.drewN nq).heap.size := hsz1
            generalize w1.drewN nq = w2 at *
            clear q0 q1 hsz1 hB1
            go_loopw [2, 6, 49] (fun _ _ i wi => ∃ j : Nat, j ≤ k ∧ i = .int .i64 (j : Int) ∧ Hid (clash l k j = false) ∧ Below w2.heap.size w2 wi) (fun _ _ i _ => k - (intOf i).toNat)
            case atStart => exact ⟨0, by omega, rfl, rfl, Below.refl _ _⟩
            case round =>
              obtain ⟨j, hj, rfl, hcl, hbi⟩ := hrel
              have hB3 : Below w.heap.size w wr := hB2.trans (hbi.mono hB2.size)
              by_cases hjk : j < k
              · obtain ⟨⟨c1, c2⟩, hcc⟩ : ∃ a, accAt l j = a := ⟨_, rfl⟩
                obtain ⟨e1, e2⟩ := HA.out.cells hB3 (show j < n by omega)
                rw [hcc] at e1 e2
                have q0 := (hbi.cell (p := ⟨wo.heap.size, 0, none⟩) hsz2).trans q0'
                have q1 := (hbi.cell (p := ⟨wo.heap.size, 1, none⟩) hsz2).trans q1'
                have hszi : wo.heap.size < wr.heap.size := Nat.lt_of_lt_of_le hsz2 hbi.size
                have hsne : ¬ (wo.heap.size = wr.heap.size) := by omega
                have hund := Lib.hid (Under_any a1 c1)
                have hbx := Lib.hid (hbi.alloc hbi.size (.cells #[.string ⟨c1.toArray⟩, .int .i64 c2] 77))
                have hsucc := Lib.hid (show clash l k (j + 1) = (undB a1 c1 && decide (a2 ≠ c2)) by rw [clash_succ, hcl.out, HACC.out, hcc]; rfl)
                have hof := Lib.hid (fun h => @clash_of l k j k hjk (by rw [HACC.out, hcc]; exact h))
                clear hcc q0' q1'
                generalize undB a1 c1 = ub at *
                cases ub
                · go_wp2_with fail
                  refine (hund.out _).mono ?_
                  rintro e w3 ⟨rfl, rfl⟩
                  go_wp2_with fail
                  go_roundw
                  case rel => exact ⟨j + 1, by omega, by go_num, hsucc.out, hbx.out⟩
                  case measure => simp [intOf]; omega
                · by_cases hkk : a2 = c2
                  · have hne : (a2 != c2) = false := by simp [hkk]
                    have hs2 := Lib.hid (show clash l k (j + 1) = false by rw [hsucc.out]; simp [hkk])
                    clear hkk
                    go_wp2_with fail
                    refine (hund.out _).mono ?_
                    rintro e w3 ⟨rfl, rfl⟩
                    go_wp2_with fail
                    go_roundw
                    case rel => exact ⟨j + 1, by omega, by go_num, hs2.out, hbx.out⟩
                    case measure => simp [intOf]; omega
                  · have hne : (a2 != c2) = true := by simp [hkk]
                    have hv := Lib.hid (HFIN.out 18 (by decide) (by rw [herr3.out, hof.out (by simp [hkk])]; rfl))
                    clear hkk
                    go_wp2_with fail
                    refine (hund.out _).mono ?_
                    rintro e w3 ⟨rfl, rfl⟩
                    go_wp2_with fail
                    go_ret
                    exact ⟨by rw [hv.out]; rfl, hB3.alloc hB3.size _⟩
              · have hjk' : j = k := by omega
                have he0 := Lib.hid (show errAt l k = 0 by
                  have := hcl.out
                  rw [hjk'] at this
                  rw [herr3.out, this]; rfl)
                clear hjk'
                go_wp2_with fail
                go_roundw
                case rel =>
                  refine ⟨k + 1, by omega, by go_num, ?_, hB3⟩
                  intro i hi
                  rcases Nat.lt_or_eq_of_le (Nat.le_of_lt_succ hi) with h | h
                  · exact hz.out i h
                  · rw [h]; exact he0.out
                case measure => simp [intOf]; omega
          · have hv := Lib.hid (HFIN.out 8 (by decide) (by rw [herr2.out, if_pos ⟨k0, hle⟩]))
            go_wp2_with fail
            go_quiet (fail)
            go_wp2_with fail
            go_ret
            exact ⟨by rw [hv.out]; rfl, below_drewN hB1 _⟩
        · have g0 : decide (0 < (k : Int)) = false := by simp; omega
          have herr3 := Lib.hid (show errAt l k = if clash l k k then 18 else 0 by rw [herr2.out, if_neg (by omega)])
          go_wp2_with fail
          go_quiet (fail)
          go_wp2_with fail
          have hB2 : Below w.heap.size w (w1.drewN nq) := below_drewN hB1 nq
          have q0' : (w1.drewN nq).cell? ⟨wo.heap.size, 0, none⟩ = some (.string ⟨a1.toArray⟩) := q0
          have q1' : (w1.drewN nq).cell? ⟨wo.heap.size, 1, none⟩ = some (.int .i64 a2) := q1
          have hsz2 : wo.heap.size < (w1.drewN nq).heap.size := hsz1
          generalize w1.drewN nq = w2 at *
          clear q0 q1 hsz1 hB1
          go_loopw [2, 6, 49] (fun _ _ i wi => ∃ j : Nat, j ≤ k ∧ i = .int .i64 (j : Int) ∧ Hid (clash l k j = false) ∧ Below w2.heap.size w2 wi) (fun _ _ i _ => k - (intOf i).toNat)
          case atStart => exact ⟨0, by omega, rfl, rfl, Below.refl _ _⟩
          case round =>
            obtain ⟨j, hj, rfl, hcl, hbi⟩ := hrel
            have hB3 : Below w.heap.size w wr := hB2.trans (hbi.mono hB2.size)
            by_cases hjk : j < k
            · exfalso; omega
            · have hjk' : j = k := by omega
              have he0 := Lib.hid (show errAt l k = 0 by
                have := hcl.out
                rw [hjk'] at this
                rw [herr3.out, this]; rfl)
              clear hjk'
              go_wp2_with fail
              go_roundw
              case rel =>
                refine ⟨k + 1, by omega, by go_num, ?_, hB3⟩
                intro i hi
                rcases Nat.lt_or_eq_of_le (Nat.le_of_lt_succ hi) with h | h
                · exact hz.out i h
                · rw [h]; exact he0.out
              case measure => simp [intOf]; omega
    · have hkn : k = n := by omega
      have hv := Lib.hid (show chkL l = 0 from HOK.out (by rw [hlen.out, ← hkn]; exact hz.out))
      clear hkn
      go_wp2_with fail
      go_ret
      exact ⟨by rw [hv.out]; rfl, hbw⟩
end Go.Proofs.YtohdpidlilhnjaaGreatDoor

/- The contract of the reference's CheckAll. -/
namespace Go.Proofs.YtohdpidlilhnjaaGreatDoor
open Go.RowKit


theorem le_flip (a p : List UInt8) : (Op.bytesLess a p || a == p) = !Op.bytesLess p a := by
  rw [bytesLess_eq, bytesLess_eq]
  by_cases h : p < a
  · have h1 : ¬ a < p := List.lt_asymm h
    have h2 : ¬ a = p := fun e => List.lt_irrefl p (by rw [e] at h; exact h)
    simp [h, h1, h2]
  · have h1 : a ≤ p := List.not_lt.1 h
    rcases List.le_iff_lt_or_eq.1 h1 with h2 | h2
    · simp [h, h2]
    · simp [h2]
set_option maxHeartbeats 4000000 in
set_option maxRecDepth 100000 in
theorem rCheckAll_any (A : Option Addr) (n c : Nat) (l : List Acc) (w : World) (h : Accs w A n c l) (hl : ∀ a ∈ l, a.1.length < 4294967281) :
    Calls Tryz.prog 45 #[.slice A n c] w fun e w' => e = .returned (.int .i64 (chkL l)) ∧ Below w.heap.size w w' := by
  have htop := h.top
  have hcap := h.cap
  have hlen := Lib.hid h.len
  have HA := Lib.hid h
  have HL := Lib.hid hl
  clear hl
  by_cases h256 : 256 < n
  · have hd : decide (256 < (n : Int)) = true := by simp; omega
    have hv := Lib.hid (show chkL l = 4 by rw [chkL, hlen.out, if_pos h256])
    clear h
    go_enter Tryz.func45, Tryz.ntmps45
    go_wp2_with fail
    go_ret
    exact ⟨by rw [hv.out]; rfl, Below.refl _ _⟩
  have hd : decide (256 < (n : Int)) = false := by simp; omega
  have HAT := Lib.hid (fun i (hi : i < n) => @chk_at l i (by rw [hlen.out]; omega) (by rw [hlen.out]; exact hi))
  have HOK := Lib.hid (@chkL_ok l (by rw [hlen.out]; omega))
  clear h
  go_enter Tryz.func45, Tryz.ntmps45
  go_wp2_with fail
  go_loopw [2, 3, 4] (fun r i _ wr => ∃ k : Nat, k ≤ n ∧ r = .int .i64 0 ∧ i = .int .i64 (k : Int) ∧ Hid (∀ j, j < k → errAt l j = 0) ∧ Below w.heap.size w wr) (fun _ i _ _ => n - (intOf i).toNat)
  case atStart => exact ⟨0, by omega, rfl, rfl, Lib.hid (fun j hj => by omega), Below.refl _ _⟩
  case round =>
    obtain ⟨k, hk, rfl, rfl, hz, hbw⟩ := hrel
    by_cases hlt : k < n
    · obtain ⟨b, o, rfl, hbl, -⟩ := HA.out.at_ (by omega)
      obtain ⟨d1, d2⟩ := HA.out.cells hbw hlt
      have hak := Lib.hid (HL.out (accAt l k) (by rw [accAt, List.getD_eq_getElem?_getD, List.getElem?_eq_getElem (by rw [hlen.out]; exact hlt)]; exact List.getElem_mem _))
      have herr := Lib.hid (show errAt l k = if codeB (accAt l k).1 = false then 3 else if (accAt l k).2 < 1 ∨ 5 < (accAt l k).2 then 7 else if 0 < k ∧ (Op.bytesLess (accAt l k).1 (accAt l (k - 1)).1 || (accAt l k).1 == (accAt l (k - 1)).1) = true then 8 else if clash l k k then 18 else 0 from rfl)
      obtain ⟨⟨a1, a2⟩, hacc⟩ : ∃ a, accAt l k = a := ⟨_, rfl⟩
      rw [hacc] at d1 d2
      have HACC := Lib.hid hacc
      clear hacc
      have hck := Lib.hid (fun w => rCheck_any a1 w (by have := hak.out; rw [HACC.out] at this; simp only at this; omega))
      go_wp2_with fail
      refine (hck.out _).mono ?_
      rintro e w1 ⟨rfl, hb1⟩
      have hfin : ∀ v : Int, v ≠ 0 → errAt l k = v → chkL l = v := fun v hv he => by rw [← he]; exact HAT.out k hlt hz.out (by rw [he]; exact hv)
      have HFIN := Lib.hid hfin
      have hB1 : Below w.heap.size w w1 := hbw.trans (hb1.mono hbw.size)
      rw [HACC.out] at herr
      clear hfin hb1 d1 d2
      obtain ⟨d1, d2⟩ := HA.out.cells hB1 hlt
      rw [HACC.out] at d1 d2
      cases hcb : codeB a1
      · have hv := Lib.hid (HFIN.out 3 (by decide) (by rw [herr.out, hcb]; rfl))
        rw [show chkA a1 = 3 by rw [chkA, hcb]; rfl]
        go_wp2_with fail
        go_ret
        exact ⟨by rw [hv.out]; rfl, hB1⟩
      · rw [show chkA a1 = 0 by rw [chkA, hcb]; rfl]
        by_cases k1 : a2 < 1
        · have kd1 : decide (a2 < 1) = true := by simp [k1]
          have hv := Lib.hid (HFIN.out 7 (by decide) (by rw [herr.out, hcb, if_neg (by decide), if_pos (.inl k1)]))
          go_wp2_with fail
          go_ret
          exact ⟨by rw [hv.out]; rfl, hB1⟩
        have kd1 : decide (a2 < 1) = false := by simp; omega
        by_cases k5 : 5 < a2
        · have kd : decide (5 < a2) = true := by simp [k5]
          have hv := Lib.hid (HFIN.out 7 (by decide) (by rw [herr.out, hcb, if_neg (by decide), if_pos (.inr k5)]))
          go_wp2_with fail
          go_ret
          exact ⟨by rw [hv.out]; rfl, hB1⟩
        have kd : decide (5 < a2) = false := by simp; omega
        have herr2 := Lib.hid (show errAt l k = if 0 < k ∧ (Op.bytesLess a1 (accAt l (k - 1)).1 || a1 == (accAt l (k - 1)).1) = true then 8 else if clash l k k then 18 else 0 by rw [herr.out, hcb, if_neg (by decide), if_neg (by omega)])
        by_cases k0 : 0 < k
        · obtain ⟨m, hm⟩ : ∃ m, m = k - 1 := ⟨_, rfl⟩
          obtain ⟨⟨p1, p2⟩, hpp⟩ : ∃ a, accAt l m = a := ⟨_, rfl⟩
          obtain ⟨e1, -⟩ := HA.out.cells hB1 (show m < n by omega)
          rw [hpp] at e1
          rw [← hm, hpp] at herr2
          have hw : IntKind.i64.wrap ((k : Int) - 1) = (m : Int) := by rw [IntWalk.i64_in _ (by omega)]; omega
          have g0 : decide (0 < (k : Int)) = true := by simp; omega
          have hmn : (m : Int) < (n : Int) := by omega
          have HM2 := Lib.hid (And.intro hm hpp)
          have hcomm := le_flip a1 p1
          rw [show ((p1, p2) : Acc).1 = p1 from rfl, hcomm] at herr2
          clear hm hpp hcomm
          cases hle : (!Op.bytesLess p1 a1)
          · have herr3 := Lib.hid (show errAt l k = if clash l k k then 18 else 0 by rw [herr2.out, hle, if_neg (by simp)])
            go_wp2_with fail
            go_quiet (fail)
            go_wp2_with fail
            have hB2 : Below w.heap.size w (w1.drewN nq) := below_drewN hB1 nq
            generalize w1.drewN nq = w2 at *
            clear hB1
            go_loopw [2, 4] (fun r i wi => ∃ j : Nat, j ≤ k ∧ r = .int .i64 0 ∧ i = .int .i64 (j : Int) ∧ Hid (clash l k j = false) ∧ Below w.heap.size w wi) (fun _ i _ => k - (intOf i).toNat)
            case atStart => exact ⟨0, by omega, rfl, rfl, Lib.hid rfl, hB2⟩
            case round =>
              obtain ⟨j, hj, rfl, rfl, hcl, hB3⟩ := hrel
              by_cases hjk : j < k
              · obtain ⟨⟨c1, c2⟩, hcc⟩ : ∃ a, accAt l j = a := ⟨_, rfl⟩
                obtain ⟨e1, e2⟩ := HA.out.cells hB3 (show j < n by omega)
                obtain ⟨x1, x2⟩ := HA.out.cells hB3 hlt
                rw [hcc] at e1 e2
                rw [HACC.out] at x1 x2
                have hjn : (j : Int) < (n : Int) := by omega
                have hund := Lib.hid (rUnder_q a1 c1)
                have hsucc := Lib.hid (show clash l k (j + 1) = (undB a1 c1 && decide (a2 ≠ c2)) by rw [clash_succ, hcl.out, HACC.out, hcc]; rfl)
                have hof := Lib.hid (fun h => @clash_of l k j k hjk (by rw [HACC.out, hcc]; exact h))
                clear hcc
                generalize undB a1 c1 = ub at *
                cases ub
                · go_wp2_with fail
                  go_quiet ((go_at_call 95; exact Calls.quiet_of_same (hund.out _)))
                  have hB4 := Lib.hid (below_drewN hB3 nq)
                  go_wp2_with fail
                  go_roundw
                  case rel => exact ⟨j + 1, by omega, rfl, by go_num, Lib.hid hsucc.out, hB4.out⟩
                  case measure => simp [intOf]; omega
                · by_cases hkk : a2 = c2
                  · have hne : (c2 != a2) = false := by simp [hkk]
                    have hs2 := Lib.hid (show clash l k (j + 1) = false by rw [hsucc.out]; simp [hkk])
                    clear hkk
                    go_wp2_with fail
                    go_quiet ((go_at_call 95; exact Calls.quiet_of_same (hund.out _)))
                    have hB4 := Lib.hid (below_drewN hB3 nq)
                    go_wp2_with fail
                    go_roundw
                    case rel => exact ⟨j + 1, by omega, rfl, by go_num, hs2, hB4.out⟩
                    case measure => simp [intOf]; omega
                  · have hne : (c2 != a2) = true := by simp [Ne.symm hkk]
                    have hv := Lib.hid (HFIN.out 18 (by decide) (by rw [herr3.out, hof.out (by simp [hkk])]; rfl))
                    clear hkk
                    go_wp2_with fail
                    go_quiet ((go_at_call 95; exact Calls.quiet_of_same (hund.out _)))
                    have hB4 := Lib.hid (below_drewN hB3 nq)
                    go_wp2_with fail
                    go_ret
                    exact ⟨congrArg (fun z => Ending.returned (.int .i64 z)) hv.out.symm, hB4.out⟩
              · have hjk' : j = k := by omega
                have he0 := Lib.hid (show errAt l k = 0 by
                  have := hcl.out
                  rw [hjk'] at this
                  rw [herr3.out, this]; rfl)
                clear hjk'
                go_wp2_with fail
                go_roundw
                case rel =>
                  refine ⟨k + 1, by omega, rfl, by go_num, Lib.hid ?_, hB3⟩
                  intro i hi
                  rcases Nat.lt_or_eq_of_le (Nat.le_of_lt_succ hi) with h | h
                  · exact hz.out i h
                  · rw [h]; exact he0.out
                case measure => simp [intOf]; omega
          · have hv := Lib.hid (HFIN.out 8 (by decide) (by rw [herr2.out, if_pos ⟨k0, hle⟩]))
            go_wp2_with fail
            go_quiet (fail)
            go_wp2_with fail
            go_ret
            exact ⟨by rw [hv.out]; rfl, below_drewN hB1 _⟩
        · have g0 : decide (0 < (k : Int)) = false := by simp; omega
          have herr3 := Lib.hid (show errAt l k = if clash l k k then 18 else 0 by rw [herr2.out, if_neg (by omega)])
          go_wp2_with fail
          go_quiet (fail)
          go_wp2_with fail
          have hB2 : Below w.heap.size w (w1.drewN nq) := below_drewN hB1 nq
          generalize w1.drewN nq = w2 at *
          clear hB1
          go_loopw [2, 4] (fun r i wi => ∃ j : Nat, j ≤ k ∧ r = .int .i64 0 ∧ i = .int .i64 (j : Int) ∧ Hid (clash l k j = false) ∧ Below w.heap.size w wi) (fun _ i _ => k - (intOf i).toNat)
          case atStart => exact ⟨0, by omega, rfl, rfl, Lib.hid rfl, hB2⟩
          case round =>
            obtain ⟨j, hj, rfl, rfl, hcl, hB3⟩ := hrel
            by_cases hjk : j < k
            · exfalso; omega
            · have hjk' : j = k := by omega
              have he0 := Lib.hid (show errAt l k = 0 by
                have := hcl.out
                rw [hjk'] at this
                rw [herr3.out, this]; rfl)
              clear hjk'
              go_wp2_with fail
              go_roundw
              case rel =>
                refine ⟨k + 1, by omega, rfl, by go_num, Lib.hid ?_, hB3⟩
                intro i hi
                rcases Nat.lt_or_eq_of_le (Nat.le_of_lt_succ hi) with h | h
                · exact hz.out i h
                · rw [h]; exact he0.out
              case measure => simp [intOf]; omega
    · have hkn : k = n := by omega
      have hv := Lib.hid (show chkL l = 0 from HOK.out (by rw [hlen.out, ← hkn]; exact hz.out))
      clear hkn
      go_wp2_with fail
      go_ret
      exact ⟨by rw [hv.out]; rfl, hbw⟩
end Go.Proofs.YtohdpidlilhnjaaGreatDoor

/- Charts and what is found in them, plain. -/
namespace Go.Proofs.YtohdpidlilhnjaaGreatDoor
open Go.RowKit


structure Chart (l : List Acc) : Prop where
  small : l.length ≤ 256
  code : ∀ i, i < l.length → codeB (accAt l i).1 = true
  kind : ∀ i, i < l.length → 1 ≤ (accAt l i).2 ∧ (accAt l i).2 ≤ 5
  ord : ∀ i j, j < i → i < l.length → (accAt l j).1 < (accAt l i).1
  cl : ∀ i j, j < i → i < l.length → undB (accAt l i).1 (accAt l j).1 = true → (accAt l i).2 = (accAt l j).2
theorem err_zero {l : List Acc} (h : chkL l = 0) : l.length ≤ 256 ∧ ∀ i, i < l.length → errAt l i = 0 := by
  have hn : l.length ≤ 256 := by
    rcases Nat.lt_or_ge 256 l.length with h' | h'
    · rw [chkL, if_pos h'] at h; cases h
    · exact h'
  refine ⟨hn, fun i => ?_⟩
  induction i using Nat.strongRecOn with
  | ind i ih =>
    intro hi
    by_cases he : errAt l i = 0
    · exact he
    · have := chk_at hn hi (fun j hj => ih j hj (by omega)) he
      rw [h] at this
      exact this.symm
theorem err_parts {l : List Acc} {i : Nat} (h : errAt l i = 0) : codeB (accAt l i).1 = true ∧ (1 ≤ (accAt l i).2 ∧ (accAt l i).2 ≤ 5) ∧ (0 < i → (accAt l (i - 1)).1 < (accAt l i).1) ∧ clash l i i = false := by
  unfold errAt at h
  split at h
  · cases h
  · rename_i h1
    split at h
    · cases h
    · rename_i h2
      split at h
      · cases h
      · rename_i h3
        split at h
        · cases h
        · rename_i h4
          refine ⟨by simpa using h1, by omega, fun h0 => ?_, by simpa using h4⟩
          have h5 : (Op.bytesLess (accAt l i).1 (accAt l (i - 1)).1 || (accAt l i).1 == (accAt l (i - 1)).1) = false := by
            cases h6 : (Op.bytesLess (accAt l i).1 (accAt l (i - 1)).1 || (accAt l i).1 == (accAt l (i - 1)).1)
            · rfl
            · exact absurd ⟨h0, h6⟩ h3
          rw [le_flip, bytesLess_eq] at h5
          simpa using h5
theorem chart_of {l : List Acc} (h : chkL l = 0) : Chart l := by
  obtain ⟨hn, he⟩ := err_zero h
  have ord : ∀ i j, j < i → i < l.length → (accAt l j).1 < (accAt l i).1 := by
    intro i
    induction i with
    | zero => intro j hj; omega
    | succ i ih =>
      intro j hj hi
      have h1 := (err_parts (he (i + 1) hi)).2.2.1 (by omega)
      rw [Nat.add_sub_cancel] at h1
      rcases Nat.eq_or_lt_of_le (Nat.le_of_lt_succ hj) with rfl | h2
      · exact h1
      · exact List.lt_trans (ih j h2 (by omega)) h1
  refine ⟨hn, fun i hi => (err_parts (he i hi)).1, fun i hi => (err_parts (he i hi)).2.1, ord, fun i j hj hi hu => ?_⟩
  have h1 := (err_parts (he i hi)).2.2.2
  by_cases hk : (accAt l i).2 = (accAt l j).2
  · exact hk
  · have := clash_of (l := l) (i := i) (k := j) (n := i) hj (by rw [hu]; simpa using hk)
    rw [h1] at this
    cases this
theorem lt_append (p r : List UInt8) (x : UInt8) : p < p ++ x :: r := by
  induction p with
  | nil => exact List.nil_lt_cons _ _
  | cons a p ih => rw [List.cons_append, List.cons_lt_cons_iff]; exact .inr ⟨rfl, ih⟩
theorem und_lt {c p : List UInt8} (h : undB c p = true) (hne : c ≠ p) : p < c := by
  rcases (und_iff c p).1 h with e | ⟨r, e⟩
  · exact absurd e hne
  · rw [e]; exact lt_append p r 46
theorem mem_at {l : List Acc} {a : Acc} (h : a ∈ l) : ∃ k, k < l.length ∧ accAt l k = a := by
  obtain ⟨k, hk, e⟩ := List.mem_iff_getElem.1 h
  exact ⟨k, hk, by rw [accAt, List.getD_eq_getElem?_getD, List.getElem?_eq_getElem hk]; exact e⟩
theorem at_mem {l : List Acc} {k : Nat} (hk : k < l.length) : accAt l k ∈ l := by
  rw [accAt, List.getD_eq_getElem?_getD, List.getElem?_eq_getElem hk]; exact List.getElem_mem _
/-- what the search knows -/
structure FndS (code : List UInt8) (p : List Acc) (s : Acc × Bool) : Prop where
  no : s.2 = false → s.1 = ([], 0) ∧ ∀ a ∈ p, undB code a.1 = false
  yes : s.2 = true → s.1 ∈ p ∧ undB code s.1.1 = true ∧ ∀ a ∈ p, undB code a.1 = true → a.1.length ≤ s.1.1.length
theorem FndS.step {code : List UInt8} {p : List Acc} {s : Acc × Bool} (h : FndS code p s) (a : Acc) : FndS code (p ++ [a]) (fStep code s a) := by
  unfold fStep
  cases hu : undB code a.1
  · simp only [Bool.false_and, Bool.false_eq_true, if_false]
    refine ⟨fun h2 => ⟨(h.no h2).1, fun x hx => ?_⟩, fun h2 => ⟨List.mem_append_left _ (h.yes h2).1, (h.yes h2).2.1, fun x hx hxu => ?_⟩⟩
    · rcases List.mem_append.1 hx with h3 | h3
      · exact (h.no h2).2 x h3
      · rw [List.mem_singleton] at h3; rw [h3]; exact hu
    · rcases List.mem_append.1 hx with h3 | h3
      · exact (h.yes h2).2.2 x h3 hxu
      · rw [List.mem_singleton] at h3; rw [h3, hu] at hxu; cases hxu
  · obtain ⟨s1, s2⟩ := s
    cases s2
    · simp only [Bool.not_false, Bool.true_or, Bool.and_true, if_true]
      refine ⟨(fun h2 => by cases h2), fun _ => ⟨by simp, hu, fun x hx hxu => ?_⟩⟩
      rcases List.mem_append.1 hx with h3 | h3
      · have := (h.no rfl).2 x h3; rw [this] at hxu; cases hxu
      · rw [List.mem_singleton] at h3; rw [h3]; exact Nat.le_refl _
    · obtain ⟨y1, y2, y3⟩ := h.yes rfl
      by_cases hl : s1.1.length < a.1.length
      · simp only [Bool.not_true, Bool.false_or, hl, decide_true, Bool.and_true, if_true]
        refine ⟨(fun h2 => by cases h2), fun _ => ⟨by simp, hu, fun x hx hxu => ?_⟩⟩
        rcases List.mem_append.1 hx with h3 | h3
        · have := y3 x h3 hxu
          simp only at this
          show x.1.length ≤ a.1.length
          omega
        · rw [List.mem_singleton] at h3; rw [h3]; exact Nat.le_refl _
      · simp only [Bool.not_true, Bool.false_or, hl, decide_false, Bool.and_false, Bool.false_eq_true, if_false]
        refine ⟨(fun h2 => by cases h2), fun _ => ⟨List.mem_append_left _ y1, y2, fun x hx hxu => ?_⟩⟩
        rcases List.mem_append.1 hx with h3 | h3
        · exact y3 x h3 hxu
        · rw [List.mem_singleton] at h3; rw [h3]; show a.1.length ≤ s1.1.length; omega
theorem FndS.fold {code : List UInt8} : ∀ (q p : List Acc) (s : Acc × Bool), FndS code p s → FndS code (p ++ q) (q.foldl (fStep code) s)
  | [], p, s, h => by rw [List.append_nil]; exact h
  | a :: q, p, s, h => by
    have := FndS.fold q (p ++ [a]) _ (h.step a)
    rw [List.append_assoc] at this
    exact this
theorem find_spec (l : List Acc) (code : List UInt8) : FndS code l (findL l code) := by
  have := FndS.fold l [] (([], 0), false) (code := code) ⟨fun _ => ⟨rfl, by simp⟩, (fun h => by cases h)⟩
  exact this
theorem find_self {l : List Acc} (hc : Chart l) {k : Nat} (hk : k < l.length) : findL l (accAt l k).1 = (accAt l k, true) := by
  have hs := find_spec l (accAt l k).1
  generalize findL l (accAt l k).1 = r at hs
  obtain ⟨r1, r2⟩ := r
  cases r2
  · have := (hs.no rfl).2 _ (at_mem hk)
    rw [und_refl] at this
    cases this
  · obtain ⟨h1, h2, h3⟩ := hs.yes rfl
    obtain ⟨m, hm, rfl⟩ := mem_at h1
    have h4 := h3 _ (at_mem hk) (und_refl _)
    have h5 : (accAt l k).1 = (accAt l m).1 := by
      rcases (und_iff _ _).1 h2 with e | ⟨r, e⟩
      · exact e
      · have := congrArg List.length e
        simp at this h4
        omega
    have : k = m := by
      rcases Nat.lt_trichotomy k m with h | h | h
      · have := hc.ord m k h hm; rw [h5] at this; exact absurd this (List.lt_irrefl _)
      · exact h
      · have := hc.ord k m h hk; rw [h5] at this; exact absurd this (List.lt_irrefl _)
    rw [this]
theorem kinds_eq {l : List Acc} (hc : Chart l) {m k : Nat} (hm : m < l.length) (hk : k < l.length) (h : undB (accAt l m).1 (accAt l k).1 = true) : (accAt l m).2 = (accAt l k).2 := by
  rcases Nat.lt_trichotomy k m with h1 | h1 | h1
  · exact hc.cl m k h1 hm h
  · rw [h1]
  · have h2 := hc.ord k m h1 hk
    have h3 := und_lt h (fun e => List.lt_irrefl _ (by rw [e] at h2; exact h2))
    exact absurd h3 (List.lt_asymm h2)
theorem find_kind {l : List Acc} (hc : Chart l) {code : List UInt8} {k : Nat} (hk : k < l.length) (h : undB code (accAt l k).1 = true) : (findL l code).2 = true ∧ (findL l code).1.2 = (accAt l k).2 := by
  have hs := find_spec l code
  generalize findL l code = r at hs
  obtain ⟨r1, r2⟩ := r
  cases r2
  · have := (hs.no rfl).2 _ (at_mem hk)
    rw [h] at this
    cases this
  · obtain ⟨h1, h2, h3⟩ := hs.yes rfl
    obtain ⟨m, hm, rfl⟩ := mem_at h1
    refine ⟨rfl, ?_⟩
    rcases und_linear h h2 with h4 | h4
    · exact (kinds_eq hc hk hm h4).symm
    · exact kinds_eq hc hm hk h4
theorem und_par {a b x : List UInt8} (hb : 46 ∉ b) (hx : x ≠ a ++ 46 :: b) : undB (a ++ 46 :: b) x = undB a x := by
  rw [Bool.eq_iff_iff, und_iff, und_iff]
  constructor
  · rintro (h | ⟨r, h⟩)
    · exact absurd h.symm hx
    · rcases List.append_eq_append_iff.1 h with ⟨c, h1, h2⟩ | ⟨c, h1, h2⟩
      · cases c with
        | nil => left; rw [h1]; simp
        | cons y c =>
          rw [List.cons_append, List.cons.injEq] at h2
          exact absurd (by rw [h2.2]; simp) hb
      · cases c with
        | nil => left; rw [h1]; simp
        | cons y c =>
          rw [List.cons_append, List.cons.injEq] at h2
          right; exact ⟨c, by rw [h1, h2.1]⟩
  · rintro (h | ⟨r, h⟩)
    · right; exact ⟨b, by rw [h]⟩
    · right; exact ⟨r ++ 46 :: b, by rw [h]; simp⟩
theorem fold_cong {s a : List UInt8} : ∀ (l : List Acc) (st : Acc × Bool), (∀ x ∈ l, undB s x.1 = undB a x.1) → l.foldl (fStep s) st = l.foldl (fStep a) st
  | [], _, _ => rfl
  | x :: l, st, h => by
    rw [List.foldl_cons, List.foldl_cons, show fStep s st x = fStep a st x by unfold fStep; rw [h x (by simp)]]
    exact fold_cong l _ (fun y hy => h y (by simp [hy]))
theorem find_par {l : List Acc} {a b : List UInt8} (hb : 46 ∉ b) (hx : ∀ x ∈ l, x.1 ≠ a ++ 46 :: b) : findL l (a ++ 46 :: b) = findL l a :=
  fold_cong l _ (fun x h => und_par hb (hx x h))
theorem find_none {l : List Acc} {s : List UInt8} (hs : 46 ∉ s) (hx : ∀ x ∈ l, x.1 ≠ s) : findL l s = (([], 0), false) := by
  have hf := find_spec l s
  generalize findL l s = r at hf
  obtain ⟨r1, r2⟩ := r
  cases r2
  · rw [show r1 = ([], 0) from (hf.no rfl).1]
  · obtain ⟨h1, h2, _⟩ := hf.yes rfl
    rcases (und_iff _ _).1 h2 with e | ⟨r, e⟩
    · exact absurd e.symm (hx _ h1)
    · exact absurd (by rw [e]; simp) hs
theorem par_step {s : List UInt8} (h : codeB s = true) : (parB s = false ∧ 46 ∉ s) ∨ (∃ a b, s = a ++ 46 :: b ∧ 46 ∉ b ∧ parS s = a ∧ parB s = true ∧ codeB a = true) := by
  rcases last_dot s with ⟨h1, _⟩ | ⟨a, b, h1, h2, _⟩
  · exact .inl ⟨(par_none h1).2, h1⟩
  · refine .inr ⟨a, b, h1, h2, ?_⟩
    subst h1
    obtain ⟨h3, h4⟩ := par_some h2 h
    refine ⟨h3, h4, ?_⟩
    unfold codeB at h ⊢
    rw [segs_snoc a h2] at h
    simp only [List.length_append, List.length_singleton, List.all_append, Bool.and_eq_true, decide_eq_true_eq] at h ⊢
    exact ⟨by omega, h.2.1⟩
/-- where the climb stands -/
structure Climb (l : List Acc) (code at_ : List UInt8) (is_ found : Bool) (want : Acc) : Prop where
  cod : codeB at_ = true ∨ (is_ = false ∧ found = false) ∨ found = true
  fnd : found = true → findL l code = (want, true)
  low : found = false → want = ([], 0)
  on : found = false → is_ = true → findL l at_ = findL l code
  off : found = false → is_ = false → findL l code = (([], 0), false)
  small : at_.length ≤ 120
theorem Climb.fin {l : List Acc} {code at_ : List UInt8} {is_ found : Bool} {want : Acc} (h : Climb l code at_ is_ found want) (hc : (is_ && !found) = false) : findL l code = (want, found) := by
  cases found
  · cases is_
    · rw [h.off rfl rfl, h.low rfl]
    · cases hc
  · exact h.fnd rfl
theorem Climb.hit {l : List Acc} {code at_ : List UInt8} {want : Acc} (hc : Chart l) (h : Climb l code at_ true false want) {k : Nat} (hk : k < l.length) (e : (accAt l k).1 = at_) (p : List UInt8) (b : Bool) (hp : p.length ≤ 120) : Climb l code p b true (accAt l k) :=
  ⟨.inr (.inr rfl), fun _ => by rw [← h.on rfl rfl, ← e]; exact find_self hc hk, (fun h => by cases h), (fun h => by cases h), (fun h => by cases h), hp⟩
theorem Climb.go {l : List Acc} {code at_ : List UInt8} {want : Acc} (h : Climb l code at_ true false want) (hno : ∀ x ∈ l, x.1 ≠ at_) : Climb l code (parS at_) (parB at_) false want ∧ (parB at_ = true → (parS at_).length < at_.length) := by
  have hcode : codeB at_ = true := by
    rcases h.cod with h1 | ⟨h1, _⟩ | h1
    · exact h1
    · cases h1
    · cases h1
  rcases par_step hcode with ⟨h1, h2⟩ | ⟨a, b, h1, h2, h3, h4, h5⟩
  · rw [h1, (par_none h2).1]
    exact ⟨⟨.inr (.inl ⟨rfl, rfl⟩), (fun h => by cases h), h.low, (fun _ h => by cases h), fun _ _ => by rw [← h.on rfl rfl]; exact find_none h2 hno, by simp⟩, (fun h => by cases h)⟩
  · rw [h3, h4]
    have hl : a.length < at_.length := by rw [h1]; simp
    exact ⟨⟨.inl h5, (fun h => by cases h), h.low, (fun _ _ => by rw [← h.on rfl rfl, h1]; exact (find_par h2 (by rw [← h1]; exact hno)).symm), (fun _ h => by cases h), by have := h.small; omega⟩, fun _ => hl⟩
theorem Climb.start {l : List Acc} {code : List UInt8} (hc : codeB code = true) (hl : code.length ≤ 120) : Climb l code code true false ([], 0) :=
  ⟨.inl hc, (fun h => by cases h), (fun _ => rfl), (fun _ _ => rfl), (fun _ h => by cases h), hl⟩
theorem par_short (s : List UInt8) (h : s.length ≤ 120) : (parS s).length ≤ 120 := by
  cases hc : codeB s
  · rw [(par_bad hc).1]; simp
  · rcases par_step hc with ⟨_, h2⟩ | ⟨a, b, h1, _, h3, _, _⟩
    · rw [(par_none h2).1]; simp
    · rw [h3]; rw [h1] at h; simp at h; omega
end Go.Proofs.YtohdpidlilhnjaaGreatDoor

/- Ledgers, plain: the codes above a code, the sums of all codes. -/
namespace Go.Proofs.YtohdpidlilhnjaaGreatDoor
open Go.RowKit Go.Maps Num

theorem parB_code {s : List UInt8} (h : parB s = true) : codeB s = true := by
  unfold parB at h
  exact (Bool.and_eq_true_iff.1 h).1
theorem par_len {s : List UInt8} (h : parB s = true) : (parS s).length < s.length := by
  rcases par_step (parB_code h) with ⟨h1, _⟩ | ⟨a, b, h1, _, h3, _, _⟩
  · rw [h] at h1; cases h1
  · rw [h3, h1]; simp
/-- a code, and the codes above it -/
def upsK : Nat → List UInt8 → List (List UInt8)
  | 0, s => [s]
  | k + 1, s => s :: if parB s then upsK k (parS s) else []
theorem upsK_more : ∀ (k : Nat) (s : List UInt8), s.length ≤ k → upsK k s = upsK s.length s
  | 0, s, h => by rw [show s.length = 0 by omega]
  | k + 1, s, h => by
    cases hl : s.length with
    | zero =>
      have : parB s = false := by
        cases hp : parB s
        · rfl
        · have := par_len hp; omega
      rw [upsK, upsK, this]; rfl
    | succ m =>
      rw [upsK, upsK]
      cases hp : parB s
      · rfl
      · have := par_len hp
        rw [if_pos rfl, if_pos rfl, upsK_more k (parS s) (by omega), upsK_more m (parS s) (by omega)]
def ups (s : List UInt8) : List (List UInt8) := upsK s.length s
theorem ups_step (s : List UInt8) : ups s = s :: if parB s then ups (parS s) else [] := by
  unfold ups
  cases hl : s.length with
  | zero =>
    have : parB s = false := by
      cases hp : parB s
      · rfl
      · have := par_len hp; omega
    rw [upsK, this]; rfl
  | succ m =>
    rw [upsK]
    cases hp : parB s
    · rfl
    · have := par_len hp
      rw [if_pos rfl, if_pos rfl, upsK_more m (parS s) (by omega)]
theorem ups_len : ∀ (n : Nat) (s : List UInt8), s.length = n → (ups s).length ≤ n + 1 := by
  intro n
  induction n using Nat.strongRecOn with
  | _ n ih =>
    intro s hs
    rw [ups_step]
    cases hp : parB s
    · simp
    · have h1 := par_len hp
      have := ih _ (by omega) (parS s) rfl
      rw [if_pos rfl, List.length_cons]; omega
theorem ups_segs : ∀ (n : Nat) (s : List UInt8), s.length = n → (ups s).length ≤ (segs s).length := by
  intro n
  induction n using Nat.strongRecOn with
  | _ n ih =>
    intro s hs
    rw [ups_step]
    cases hp : parB s
    · have := segs_pos s
      simp; omega
    · rcases par_step (parB_code hp) with ⟨h1, _⟩ | ⟨a, b, h1, h2, h3, _, _⟩
      · rw [hp] at h1; cases h1
      · have h4 := par_len hp
        have := ih _ (by omega) (parS s) rfl
        rw [if_pos rfl, List.length_cons, h3] at *
        rw [h1, segs_snoc a h2, List.length_append, List.length_singleton]
        omega
theorem ups_six {s : List UInt8} (h : codeB s = true) : (ups s).length ≤ 6 := by
  have h1 := ups_segs _ s rfl
  unfold codeB at h
  have := of_decide_eq_true (Bool.and_eq_true_iff.1 h).1
  omega
theorem ups_bd : ∀ (n : Nat) (s : List UInt8), s.length = n → ∀ a ∈ ups s, a.length ≤ n := by
  intro n
  induction n using Nat.strongRecOn with
  | _ n ih =>
    intro s hs a ha
    rw [ups_step] at ha
    rcases List.mem_cons.1 ha with rfl | ha
    · omega
    · cases hp : parB s
      · rw [hp] at ha; cases ha
      · rw [hp, if_pos rfl] at ha
        have h1 := par_len hp
        have := ih _ (by omega) (parS s) rfl a ha
        omega
theorem ups_code : ∀ (n : Nat) (s : List UInt8), s.length = n → codeB s = true → ∀ a ∈ ups s, codeB a = true := by
  intro n
  induction n using Nat.strongRecOn with
  | _ n ih =>
    intro s hs hc a ha
    rw [ups_step] at ha
    rcases List.mem_cons.1 ha with rfl | ha
    · exact hc
    · cases hp : parB s
      · rw [hp] at ha; cases ha
      · rw [hp, if_pos rfl] at ha
        have h1 := par_len hp
        rcases par_step hc with ⟨h2, _⟩ | ⟨a', b, h2, h3, h4, _, h5⟩
        · rw [hp] at h2; cases h2
        · exact ih _ (by omega) (parS s) rfl (by rw [h4]; exact h5) a ha
/-- the lines of a balance at all codes above -/
def upL (x : Ln) : List Ln := (ups x.1).map fun a => (a, x.2.1, x.2.2)
def roll (l : List Ln) : List Ln := l.flatMap upL
theorem roll_nil : roll [] = [] := rfl
theorem roll_cons (x : Ln) (l : List Ln) : roll (x :: l) = upL x ++ roll l := rfl
theorem roll_append (a b : List Ln) : roll (a ++ b) = roll a ++ roll b := List.flatMap_append
theorem roll_mem {l : List Ln} {z : Ln} (h : z ∈ roll l) : ∃ x ∈ l, ∃ a ∈ ups x.1, z = (a, x.2.1, x.2.2) := by
  obtain ⟨x, hx, hz⟩ := List.mem_flatMap.1 h
  obtain ⟨a, ha, rfl⟩ := List.mem_map.1 hz
  exact ⟨x, hx, a, ha, rfl⟩
theorem roll_ln {l : List Ln} (h : ∀ x ∈ l, lineI x = 0) : ∀ z ∈ roll l, lineI z = 0 := fun z hz => by
  obtain ⟨x, hx, a, ha, rfl⟩ := roll_mem hz
  obtain ⟨h1, h2, h3⟩ := lineI_iff.1 (h x hx)
  exact lineI_iff.2 ⟨ups_code _ _ rfl h1 a ha, h2, h3⟩
theorem roll_can {l : List Ln} (h : ∀ x ∈ l, canB x = true) : ∀ z ∈ roll l, canB z = true := fun z hz => by
  obtain ⟨x, hx, a, ha, rfl⟩ := roll_mem hz
  exact h x hx
theorem roll_sml {l : List Ln} (h : ∀ x ∈ l, Sml x) : ∀ z ∈ roll l, Sml z := fun z hz => by
  obtain ⟨x, hx, a, ha, rfl⟩ := roll_mem hz
  obtain ⟨h1, h2, h3⟩ := h x hx
  exact ⟨Nat.le_trans (ups_bd _ _ rfl a ha) h1, h2, h3⟩
theorem roll_len {l : List Ln} (h : ∀ x ∈ l, codeB x.1 = true) : (roll l).length ≤ 6 * l.length := by
  induction l with
  | nil => simp [roll]
  | cons x r ih =>
    have h1 := ih fun y hy => h y (by simp [hy])
    have h2 := ups_six (h x (by simp))
    rw [roll_cons, List.length_append, List.length_cons, upL, List.length_map]
    omega
/-- the sum of the lines whose keys are picked -/
def sumP (P : Ky → Bool) (l : List Ln) : Int := (l.map fun x => if P (key x) then val x.2.2 else 0).sum
theorem sumP_cons (P : Ky → Bool) (x : Ln) (l : List Ln) : sumP P (x :: l) = (if P (key x) then val x.2.2 else 0) + sumP P l := by simp [sumP]
theorem sumP_append (P : Ky → Bool) (a b : List Ln) : sumP P (a ++ b) = sumP P a + sumP P b := by simp [sumP]
theorem sumP_nil (P : Ky → Bool) : sumP P [] = 0 := rfl
theorem sumP_snoc (P : Ky → Bool) (a : List Ln) (x : Ln) : sumP P (a ++ [x]) = sumP P a + if P (key x) then val x.2.2 else 0 := by simp [sumP]
theorem sumP_putL (P : Ky → Bool) (l : List Ln) (x : Ln) : sumP P (putL l x) = sumP P l + if P (key x) then val x.2.2 else 0 := by
  induction l with
  | nil =>
    unfold putL
    split
    · rename_i h; rw [h, sumP_nil]; split <;> rfl
    · rw [sumP_cons, sumP_nil]; omega
  | cons y r ih =>
    unfold putL
    split
    · rw [sumP_cons, ih, sumP_cons]; omega
    · split
      · rename_i h
        have hk : key y = key x := cmpKy_zero.1 h
        split
        · rename_i h0
          rw [sumP_cons, hk]; split <;> omega
        · rw [sumP_cons, sumP_cons, hk]
          show (if P (key x) = true then val (txt (val y.2.2 + val x.2.2)) else 0) + _ = _
          rw [val_txt]; split <;> omega
      · split
        · rename_i h; rw [h]; split <;> omega
        · rw [sumP_cons, sumP_cons]; omega
theorem sumP_fold (P : Ky → Bool) (m l : List Ln) : sumP P (m.foldl putL l) = sumP P l + sumP P m := by
  induction m generalizing l with
  | nil => simp [sumP_nil]
  | cons x r ih => rw [List.foldl_cons, ih, sumP_putL, sumP_cons]; omega
theorem sumP_nrm (P : Ky → Bool) (l : List Ln) : sumP P (nrmL l) = sumP P l := by
  unfold nrmL
  rw [sumP_fold, sumP_nil]; omega
theorem sumP_tot (l : List Ln) (k : Ky) : tot l k = sumP (fun q => decide (q = k)) l := by
  unfold tot sumP
  congr 1
  refine List.map_congr_left fun x _ => ?_
  by_cases h : key x = k
  · rw [if_pos h, if_pos (decide_eq_true h)]
  · rw [if_neg h, if_neg (by show ¬ decide (key x = k) = true; rw [decide_eq_false h]; decide)]
theorem sumP_cur (l : List Ln) (c : List UInt8) : curT l c = sumP (fun q => decide (q.2 = c)) l := by
  unfold curT sumP
  congr 1
  refine List.map_congr_left fun x _ => ?_
  by_cases h : x.2.1 = c
  · rw [if_pos h, if_pos (by exact decide_eq_true h)]
  · rw [if_neg h, if_neg (by show ¬ decide (x.2.1 = c) = true; rw [decide_eq_false h]; decide)]
theorem sumP_filter (P Q : Ky → Bool) (l : List Ln) : sumP P (l.filter fun x => Q (key x)) = sumP (fun q => Q q && P q) l := by
  induction l with
  | nil => rfl
  | cons x r ih =>
    rw [List.filter_cons, sumP_cons]
    cases h : Q (key x)
    · rw [if_neg (by decide), ih]; simp
    · rw [if_pos rfl, sumP_cons, ih]; simp
/-- what picks one of the codes above picks the value once -/
theorem ups_sum (p : List UInt8 → Bool) (v : Int) (l : List (List UInt8)) : (l.map fun a => if p a then v else 0).sum = v * (l.countP p : Nat) := by
  induction l with
  | nil => simp
  | cons a r ih =>
    rw [List.map_cons, List.sum_cons, ih, List.countP_cons]
    cases p a
    · simp
    · rw [if_pos rfl, if_pos rfl, Int.natCast_add, Int.mul_add]
      show v + _ = _ + v * 1
      omega
theorem sumP_upL (P : Ky → Bool) (x : Ln) : sumP P (upL x) = val x.2.2 * ((ups x.1).countP fun a => P (a, x.2.1) : Nat) := by
  unfold sumP upL
  rw [List.map_map, ← ups_sum]
  rfl
theorem und_none {s c : List UInt8} (h : 46 ∉ s) : undB s c = decide (s = c) := by
  rw [Bool.eq_iff_iff, und_iff, decide_eq_true_iff]
  constructor
  · rintro (h1 | ⟨r, h1⟩)
    · exact h1
    · exact absurd (by rw [h1]; simp) h
  · exact .inl
theorem und_short {a c : List UInt8} (h : a.length < c.length) : undB a c = false := by
  cases hu : undB a c
  · rfl
  · rcases (und_iff _ _).1 hu with e | ⟨r, e⟩
    · rw [e] at h; omega
    · rw [e] at h; simp at h; omega
theorem ups_count : ∀ (n : Nat) (s : List UInt8), s.length = n → codeB s = true → ∀ c, (ups s).countP (fun a => decide (a = c)) = if undB s c then 1 else 0 := by
  intro n
  induction n using Nat.strongRecOn with
  | _ n ih =>
    intro s hs hc c
    rw [ups_step]
    rcases par_step hc with ⟨h1, h2⟩ | ⟨a, b, h1, h2, h3, h4, h5⟩
    · rw [h1, und_none h2, List.countP_cons]
      by_cases e : s = c
      · simp [e]
      · simp [e]
    · rw [h4, if_pos rfl, List.countP_cons, h3]
      have hl : a.length < s.length := by rw [h1]; simp
      rw [ih _ (by omega) a rfl h5 c]
      by_cases e : s = c
      · rw [e] at hl
        rw [und_short hl, e, und_refl]; simp
      · rw [decide_eq_false e]
        have h6 : undB s c = undB a c := by
          conv => lhs; rw [h1]
          exact und_par h2 (fun e' => e (by rw [h1]; exact e'.symm))
        rw [h6]; simp
theorem ups_top : ∀ (n : Nat) (s : List UInt8), s.length = n → codeB s = true → (ups s).countP (fun a => !parB a) = 1 := by
  intro n
  induction n using Nat.strongRecOn with
  | _ n ih =>
    intro s hs hc
    rw [ups_step]
    rcases par_step hc with ⟨h1, h2⟩ | ⟨a, b, h1, h2, h3, h4, h5⟩
    · rw [h1, List.countP_cons, h1]; simp
    · rw [h4, if_pos rfl, List.countP_cons, h3, h4]
      have hl : a.length < s.length := by rw [h1]; simp
      rw [ih _ (by omega) a rfl h5]; simp
/-- the sum of the balances in a currency under a code -/
def undT (t : List Ln) (c cu : List UInt8) : Int := (t.map fun x => if (decide (x.2.1 = cu) && undB x.1 c) then val x.2.2 else 0).sum
theorem undT_cons (x : Ln) (t : List Ln) (c cu : List UInt8) : undT (x :: t) c cu = (if (decide (x.2.1 = cu) && undB x.1 c) then val x.2.2 else 0) + undT t c cu := by simp [undT]
theorem undT_snoc (x : Ln) (t : List Ln) (c cu : List UInt8) : undT (t ++ [x]) c cu = undT t c cu + if (decide (x.2.1 = cu) && undB x.1 c) then val x.2.2 else 0 := by simp [undT]
theorem roll_tot {t : List Ln} (h : ∀ x ∈ t, codeB x.1 = true) (c cu : List UInt8) : tot (roll t) (c, cu) = undT t c cu := by
  induction t with
  | nil => rfl
  | cons x r ih =>
    rw [roll_cons, tot_append, ih fun y hy => h y (by simp [hy]), undT_cons, sumP_tot, sumP_upL]
    congr 1
    by_cases e : x.2.1 = cu
    · rw [decide_eq_true e, Bool.true_and]
      have h1 : (ups x.1).countP (fun a => decide ((a, x.2.1) = (c, cu))) = (ups x.1).countP (fun a => decide (a = c)) := by
        congr 1; funext a; rw [e]; simp
      rw [h1, ups_count _ _ rfl (h x (by simp))]
      split <;> simp
    · rw [decide_eq_false e, Bool.false_and, if_neg (by decide)]
      have h1 : (ups x.1).countP (fun a => decide ((a, x.2.1) = (c, cu))) = 0 := by
        rw [List.countP_eq_zero]
        intro a _
        simp [e]
      rw [h1]; simp
def topQ (q : Ky) : Bool := !parB q.1
theorem roll_top {t : List Ln} (h : ∀ x ∈ t, codeB x.1 = true) (cu : List UInt8) : sumP (fun q => topQ q && decide (q.2 = cu)) (roll t) = curT t cu := by
  induction t with
  | nil => rfl
  | cons x r ih =>
    rw [roll_cons, sumP_append, ih fun y hy => h y (by simp [hy]), curT_cons, sumP_upL]
    congr 1
    by_cases e : x.2.1 = cu
    · rw [if_pos e]
      have h1 : (ups x.1).countP (fun a => topQ (a, x.2.1) && decide (x.2.1 = cu)) = (ups x.1).countP (fun a => !parB a) := by
        congr 1; funext a; rw [decide_eq_true e, Bool.and_true]; rfl
      show val x.2.2 * (((ups x.1).countP (fun a => topQ (a, x.2.1) && decide (x.2.1 = cu)) : Nat) : Int) = _
      rw [h1, ups_top _ _ rfl (h x (by simp))]; simp
    · rw [if_neg e]
      have h1 : (ups x.1).countP (fun a => topQ (a, x.2.1) && decide (x.2.1 = cu)) = 0 := by
        rw [List.countP_eq_zero]
        intro a _
        simp [e]
      show val x.2.2 * (((ups x.1).countP (fun a => topQ (a, x.2.1) && decide (x.2.1 = cu)) : Nat) : Int) = _
      rw [h1]; simp
theorem listB_code {t : List Ln} (h : listB t = true) : ∀ x ∈ t, codeB x.1 = true := fun x hx => (lineI_iff.1 (listB_ln h x hx)).1
/-- what Rollup returns for a list -/
def rollN (t : List Ln) : List Ln := nrmL (roll t)
theorem rollN_of {t : List Ln} (h : listB t = true) : NormOf (roll t) (rollN t) := nrmL_of _ (roll_can (listB_can h))
theorem rollN_list {t : List Ln} (h : listB t = true) : listB (rollN t) = true := norm_listB (rollN_of h) (roll_ln (listB_ln h))
theorem rollN_amt {t : List Ln} (h : listB t = true) {b : Ln} (hb : b ∈ rollN t) : txt (undT t b.1 b.2.1) = b.2.2 := by
  have h1 := (((rollN_of h).mem b).1 hb).1
  rw [h1]
  exact congrArg txt (roll_tot (listB_code h) b.1 b.2.1).symm
theorem tops_cur {t : List Ln} (h : listB t = true) (cu : List UInt8) : curT ((rollN t).filter fun b => topQ (key b)) cu = curT t cu := by
  rw [sumP_cur, sumP_filter, rollN, sumP_nrm, roll_top (listB_code h)]
theorem alone_mem {t : List Ln} (h : listB t = true) {b : Ln} (hb : b ∈ t) (ha : ∀ x ∈ t, undB x.1 b.1 = true → x.1 = b.1) : b ∈ rollN t := by
  have h1 := ((listB_of h).mem b).1 hb
  refine ((rollN_of h).mem b).2 ?_
  have e : tot (roll t) (key b) = tot t (key b) := by
    show tot (roll t) (b.1, b.2.1) = _
    rw [roll_tot (listB_code h)]
    unfold undT tot
    congr 1
    refine List.map_congr_left fun x hx => ?_
    by_cases hk : key x = key b
    · have h2 : x.1 = b.1 ∧ x.2.1 = b.2.1 := by simpa [key] using hk
      rw [if_pos hk, if_pos (by rw [decide_eq_true h2.2, h2.1, und_refl]; rfl)]
    · rw [if_neg hk, if_neg]
      intro h2
      obtain ⟨h3, h4⟩ := Bool.and_eq_true_iff.1 h2
      exact hk (by unfold key; rw [ha x hx h4, of_decide_eq_true h3])
  rw [e]
  exact h1
end Go.Proofs.YtohdpidlilhnjaaGreatDoor

/- Contracts of ledger.above and of its iterator. -/
namespace Go.Proofs.YtohdpidlilhnjaaGreatDoor
open Go.RowKit Go.Shelf Num
attribute [local go_sem] Oper.semAt_some

theorem above_any (s : ByteArray) (w : World) : Calls Tryz.prog 70 #[.string s] w fun e w' => e = .returned (.func (.func 127) #[] #[.pointer (some ⟨w.heap.size, 0, none⟩)]) ∧ w' = w.alloc (.cells #[.string s] 9) := by
  go_enter Tryz.func70, Tryz.ntmps70
  go_wp2_with fail
  go_ret
  exact ⟨rfl, rfl⟩
/-- a code that is not too long -/
abbrev Cod := { x : List UInt8 // x.length ≤ 1000 }
def onLen (bs : Nat) (v : Value) (w : World) : Nat := match v with
  | .bool true => boxLen bs w + 1
  | _ => 0
theorem par_le (s : List UInt8) : (parS s).length ≤ s.length := by
  cases h : parB s
  · unfold parB at h
    unfold parS
    rw [h]; simp
  · exact Nat.le_of_lt (par_len h)
set_option maxRecDepth 100000 in
set_option maxHeartbeats 2000000 in
theorem above_stops (d bs : Nat) (l : List UInt8) (w : World) (hbox : Boxed w bs 9 (.string ⟨l.toArray⟩)) (hlen : l.length ≤ 1000) (hm : ML w) (hbl : bs < w.heap.size) (hb0 : bs ≠ 0) :
    SeqBox Fence.wide d Tryz.prog 127 #[.pointer (some ⟨bs, 0, none⟩)] (fun x : Cod => #[.string ⟨x.1.toArray⟩]) bs (fun xs => xs.map (·.1) = ups l) (fun pre => pre.map (·.1) <+: ups l) (ups l).length w := by
  intro lp J Jx W hW hJ hJx hY h0
  have hboxW : Boxed W bs 9 (.string ⟨l.toArray⟩) := (hW.block bs hbl).trans hbox
  have hmW : ML W := hm.below hW
  refine callsIn_of_wp Tryz.func127 rfl trivial ?_ rfl
  simp only [Tryz.ntmps127, List.size_toArray, List.length_cons, List.length_nil, Nat.reduceAdd, Nat.reduceSub, Array.replicate_succ, Array.replicate_zero, List.push_toArray, List.append_toArray, List.nil_append, List.cons_append]
  gi_wp2
  gi_loopw [3] (fun v wr => ∃ (pre : List Cod) (rest : List UInt8) (on : Bool), v = .bool on ∧ Hid (ups l = pre.map (·.1) ++ if on then ups rest else []) ∧ rest.length ≤ 1000 ∧ Boxed wr bs 9 (.string ⟨rest.toArray⟩) ∧ ML wr ∧ J pre wr) (fun v wr => onLen bs v wr)
  case atStart => exact ⟨[], l, true, rfl, rfl, hlen, hboxW, hmW, h0⟩
  case round =>
    obtain ⟨pre, rest, on, rfl, hseg, hrl, hbx, hml, hj⟩ := hrel
    cases on
    · have HS := Lib.hid (show pre.map (·.1) = ups l by rw [hseg.out]; simp)
      clear hJ hJx hY hbox hboxW hmW hm hbx
      gi_wp2
      go_end0
      exact ⟨⟨_, rfl⟩, .inl ⟨_, HS.out, hj⟩⟩
    · have hcell := hbx.cell
      have hlt : pre.length < (ups l).length := by
        rw [hseg.out, if_pos rfl, List.length_append, List.length_map, ups_step, List.length_cons]
        omega
      have hbxl := Lib.hid (boxLen_eq hbx)
      have hyy : YieldAt Fence.wide (d - 1) Tryz.prog lp #[.string ⟨rest.toArray⟩] wr fun e A' => (e = .returned (.bool true) ∧ J (pre ++ [⟨rest, hrl⟩]) A' ∧ Boxed A' bs 9 (.string ⟨rest.toArray⟩) ∧ ML A') ∨ (e = .returned (.bool false) ∧ Jx (pre ++ [⟨rest, hrl⟩]) A') := by
        refine YieldAt.mono (hY pre ⟨rest, hrl⟩ wr hj hlt) ?_
        rintro e A' (⟨h1, h2, h3⟩ | h)
        · exact .inl ⟨h1, h2, h3.1.trans hbx, ML.same hml h3.2⟩
        · exact .inr h
      obtain ⟨fn, tmps, assign, body, hy, hR⟩ := hyy
      have HS := Lib.hid (show ups l = (pre ++ [(⟨rest, hrl⟩ : Cod)]).map (·.1) ++ if parB rest then ups (parS rest) else [] by rw [hseg.out, if_pos rfl, ups_step rest]; simp)
      have HJ := Lib.hid hJ
      have hpl := Lib.hid (show (parS rest).length ≤ 1000 from Nat.le_trans (par_le rest) hrl)
      have hpm := Lib.hid (@par_len rest)
      clear hJ hJx hY hbox hboxW hmW hm hbx hj hml hseg
      gi_wp2
      refine ⟨fun h => (by cases h), ?_⟩
      refine hR.mono ?_
      clear hR
      rintro e W2 (⟨rfl, h1, h2, h3⟩ | ⟨rfl, h1⟩)
      · have hc2 := h2.cell
        have hpar := (callsIn_wide (n := d - 1)).2 (Parent_any rest W2 (by omega) h3)
        unfold RetSB at hpar
        have HPAR := Lib.hid hpar
        clear hpar
        generalize parS rest = pr at *
        generalize parB rest = pb at *
        gi_wp2
        refine ⟨trivial, fun h => (by cases h), ?_⟩
        refine HPAR.out.mono ?_
        rintro e W3 ⟨rfl, hb3⟩
        have hbx3 : Boxed W3 bs 9 (.string ⟨rest.toArray⟩) := (hb3.block bs h2.lt).trans h2
        have hc3 := hbx3.cell
        have hf3 := hbx3.frozen
        gi_wp2
        go_roundw
        case rel =>
          have hbx4 := hbx3.set (Value.string ⟨pr.toArray⟩)
          exact ⟨pre ++ [⟨rest, hrl⟩], pr, pb, rfl, Lib.hid HS.out, hpl.out, hbx4, (h3.below hb3).same ((grownBy_setCell' W3 bs _).block 0 (h3.below hb3).lt (fun e => hb0 (by cases e; rfl))), HJ.out _ _ _ (HJ.out _ _ _ h1 ⟨hb3.os, hb3.tape, hb3.output, hb3.size, fun k hk _ => hb3.block k hk⟩) (grownBy_setCell' W3 bs _)⟩
        case measure =>
          have hbx4 := hbx3.set (Value.string ⟨pr.toArray⟩)
          cases pb
          · show 0 < boxLen bs wr + 1
            omega
          · show boxLen bs _ + 1 < boxLen bs wr + 1
            rw [boxLen_eq hbx4, hbxl.out]
            have := hpm.out rfl
            show pr.length + 1 < rest.length + 1
            omega
      · gi_wp2
        refine bodyPost_ret (results_none rfl _ _ _) rfl ?_
        exact ⟨⟨_, rfl⟩, .inr ⟨_, ⟨_, HS.out.symm⟩, h1⟩⟩
end Go.Proofs.YtohdpidlilhnjaaGreatDoor

/- The contract of the iterator over two bags, of which the first one is empty and the second one has one money of any amount. -/
namespace Go.Proofs.YtohdpidlilhnjaaGreatDoor
open Go.RowKit Go.Shelf
attribute [local go_sem] Oper.semAt_some

set_option maxRecDepth 100000 in
set_option maxHeartbeats 4000000 in
theorem both2_stops (d ba bb bm : Nat) (l m : List UInt8) (w : World) (ha : Boxed w ba 154 (.slice none 0 0)) (hb : Boxed w bb 154 (.slice (some ⟨bm, 0, none⟩) 1 1))
    (m0 : w.cell? ⟨bm, 0, none⟩ = some (.string ⟨l.toArray⟩)) (m1 : w.cell? ⟨bm, 1, none⟩ = some (.string ⟨m.toArray⟩)) (hab : ba ≠ bb) (hbm : bm ≠ bb) (lm : bm < w.heap.size) :
    SeqBoxC ba Fence.wide d Tryz.prog 235 #[.pointer (some ⟨ba, 0, none⟩), .pointer (some ⟨bb, 0, none⟩)] (fun _ : Unit => #[.string ⟨l.toArray⟩, (.agg #[.string ⟨#[]⟩, .string ⟨m.toArray⟩])]) bb (fun xs => xs = [()]) (fun _ => True) 1 w := by
  intro lp J Jx W hW hJ hJx hY h0
  have la := ha.lt
  have lb := hb.lt
  have haW : Boxed W ba 154 (.slice none 0 0) := (hW.block ba la).trans ha
  have hbW : Boxed W bb 154 (.slice (some ⟨bm, 0, none⟩) 1 1) := (hW.block bb lb).trans hb
  have m0W : W.cell? ⟨bm, 0, none⟩ = some (.string ⟨l.toArray⟩) := (hW.cell (p := ⟨bm, 0, none⟩) lm).trans m0
  have m1W : W.cell? ⟨bm, 1, none⟩ = some (.string ⟨m.toArray⟩) := (hW.cell (p := ⟨bm, 1, none⟩) lm).trans m1
  refine callsIn_of_wp Tryz.func235 rfl trivial ?_ rfl
  simp only [Tryz.ntmps235, List.size_toArray, List.length_cons, List.length_nil, Nat.reduceAdd, Nat.reduceSub, Array.replicate_succ, Array.replicate_zero, List.push_toArray, List.append_toArray, List.nil_append, List.cons_append]
  gi_wp2
  gi_loopw [4, 5] (fun _ _ wr => (Boxed wr bb 154 (.slice (some ⟨bm, 0, none⟩) 1 1) ∧ Boxed wr ba 154 (.slice none 0 0) ∧ wr.cell? ⟨bm, 0, none⟩ = some (.string ⟨l.toArray⟩) ∧ wr.cell? ⟨bm, 1, none⟩ = some (.string ⟨m.toArray⟩) ∧ J [] wr) ∨ (Boxed wr bb 154 (.slice (some ⟨bm, 0, none⟩) 0 0) ∧ Boxed wr ba 154 (.slice none 0 0) ∧ J [()] wr)) (fun _ _ wr => bagLen bb wr)
  case atStart => exact .inl ⟨hbW, haW, m0W, m1W, h0⟩
  case round =>
    rcases hrel with ⟨hbx, hax, c0, c1, hj⟩ | ⟨hbx, hax, hj⟩
    · have cb := hbx.cell
      have fb := hbx.frozen
      have ca := hax.cell
      have HY := Lib.hid hY
      have HJ := Lib.hid hJ
      have HX := Lib.hid hJx
      clear hY hJ hJx
      have hlt := hbx.lt
      have hbx2 := hbx.alloc (.cells #[.string ⟨#[]⟩, .string ⟨#[]⟩] 238)
      have hax2 := hax.alloc (.cells #[.string ⟨#[]⟩, .string ⟨#[]⟩] 238)
      have hal : Below wr.heap.size wr (wr.alloc (.cells #[.string ⟨#[]⟩, .string ⟨#[]⟩] 238)) := (Below.refl _ _).alloc (Nat.le_refl _) _
      have e0 := (hal.cell (p := ⟨bm, 0, none⟩) (block_lt_of_cell c0)).trans c0
      have e1 := (hal.cell (p := ⟨bm, 1, none⟩) (block_lt_of_cell c1)).trans c1
      have n1 : (wr.alloc (.cells #[.string ⟨#[]⟩, .string ⟨#[]⟩] 238)).cell? ⟨wr.heap.size, 1, none⟩ = some (.string ⟨#[]⟩) := by go_simp
      have n0 : (wr.alloc (.cells #[.string ⟨#[]⟩, .string ⟨#[]⟩] 238)).cell? ⟨wr.heap.size, 0, none⟩ = some (.string ⟨#[]⟩) := by go_simp
      have k1 : (wr.alloc (.cells #[.string ⟨#[]⟩, .string ⟨#[]⟩] 238)).frozen? ⟨wr.heap.size, 1, none⟩ = false := by go_simp
      have hnb := heap_alloc_new wr (.cells #[.string ⟨#[]⟩, .string ⟨#[]⟩] 238)
      have cb2 := hbx2.cell
      have fb2 := hbx2.frozen
      have ca2 := hax2.cell
      have HB2 := Lib.hid hbx2
      have HA2 := Lib.hid hax2
      have HN := Lib.hid hnb
      have HG := Lib.hid (fun n x y => grown_both wr (.cells #[.string ⟨#[]⟩, .string ⟨#[]⟩] 238) n bb x y)
      have HAL := Lib.hid hal
      have hne1 : wr.heap.size ≠ bb := by omega
      have hne2 : bb ≠ wr.heap.size := by omega
      clear hnb hbx2 hax2 hal c0 c1 fb
      gi_wp2
      clear ca cb
      generalize wr.alloc (.cells #[.string ⟨#[]⟩, .string ⟨#[]⟩] 238) = W2 at *
      gi_quiet (fail)
      gi_wp2
      gi_region
      have hgr := HG.out (nq + 1) (.string ⟨m.toArray⟩) (.slice (some ⟨bm, 0, none⟩) 0 0)
      have hbY : Boxed (((W2.drewN (nq + 1)).setCell ⟨wr.heap.size, 1, none⟩ (.string ⟨m.toArray⟩)).setCell ⟨bb, 0, none⟩ (.slice (some ⟨bm, 0, none⟩) 0 0)) bb 154 (.slice (some ⟨bm, 0, none⟩) 0 0) :=
        Boxed.set _ (Boxed.kept (W := W2.drewN (nq + 1)) HB2.out (grown_set _ wr.heap.size 1 _) (fun e => hne2 (by cases e; rfl)))
      have haY : Boxed (((W2.drewN (nq + 1)).setCell ⟨wr.heap.size, 1, none⟩ (.string ⟨m.toArray⟩)).setCell ⟨bb, 0, none⟩ (.slice (some ⟨bm, 0, none⟩) 0 0)) ba 154 (.slice none 0 0) :=
        (Boxed.kept (W := W2.drewN (nq + 1)) HA2.out (grown_set _ wr.heap.size 1 _) (fun e => by have := hax.lt; cases e; omega)).kept (grown_set _ bb 0 _) (fun e => hab (by cases e; rfl))
      have hjY := HJ.out _ _ _ hj hgr
      have y0 : (((W2.drewN (nq + 1)).setCell ⟨wr.heap.size, 1, none⟩ (.string ⟨m.toArray⟩)).setCell ⟨bb, 0, none⟩ (.slice (some ⟨bm, 0, none⟩) 0 0)).cell? ⟨wr.heap.size, 0, none⟩ = some (.string ⟨#[]⟩) := by
        rw [World.cell?_setCell_other _ _ _ _ (by simp), World.cell?_setCell_other _ _ _ _ (by simp)]; exact n0
      have y1 : (((W2.drewN (nq + 1)).setCell ⟨wr.heap.size, 1, none⟩ (.string ⟨m.toArray⟩)).setCell ⟨bb, 0, none⟩ (.slice (some ⟨bm, 0, none⟩) 0 0)).cell? ⟨wr.heap.size, 1, none⟩ = some (.string ⟨m.toArray⟩) := by
        rw [World.cell?_setCell_other _ _ _ _ (by simp)]; exact World.cell?_setCell_same (W2.drewN (nq + 1)) _ _ n1
      generalize ((W2.drewN (nq + 1)).setCell ⟨wr.heap.size, 1, none⟩ (.string ⟨m.toArray⟩)).setCell ⟨bb, 0, none⟩ (.slice (some ⟨bm, 0, none⟩) 0 0) = WY at *
      obtain ⟨fn, tmps, assign, body, hy, hR⟩ := HY.out [] () WY hjY (by simp)
      have HBY := Lib.hid hbY
      have HAY := Lib.hid haY
      clear hbY haY cb2 fb2 ca2 e0 e1 n0 n1 k1
      gi_wp2
      refine ⟨fun h => (by cases h), ?_⟩
      refine hR.mono ?_
      clear hR
      rintro e W5 (⟨rfl, h1, h2⟩ | ⟨rfl, h1⟩)
      · have hb5 : Boxed W5 bb 154 (.slice (some ⟨bm, 0, none⟩) 0 0) := h2.1.trans HBY.out
        have ha5 : Boxed W5 ba 154 (.slice none 0 0) := h2.2.trans HAY.out
        have hbl := Lib.hid hbx.cell
        gi_wp2
        go_roundw
        case rel => exact .inr ⟨hb5, ha5, h1⟩
        case measure => rw [bagLen, bagLen, hb5.cell, hbl.out]; exact Nat.zero_lt_one
      · gi_wp2
        refine bodyPost_ret (results_none rfl _ _ _) rfl ?_
        exact ⟨⟨_, rfl⟩, .inr ⟨_, trivial, h1⟩⟩
    · have cb := hbx.cell
      have ca := hax.cell
      clear hY hJ hJx
      gi_wp2
      go_end0
      exact ⟨⟨_, rfl⟩, .inl ⟨_, rfl, hj⟩⟩
end Go.Proofs.YtohdpidlilhnjaaGreatDoor

/- Contracts of money.sum and money.Put at no money and one of any amount. -/
namespace Go.Proofs.YtohdpidlilhnjaaGreatDoor
open Go.RowKit Go.Shelf Num
attribute [local go_sem] Oper.semAt_some

abbrev rowM : Row (List UInt8 × List UInt8) := ⟨154, 158, .agg #[.string ⟨#[]⟩, .string ⟨#[]⟩], 2, 32, fun q => [.string ⟨q.1.toArray⟩, .string ⟨q.2.toArray⟩]⟩
theorem rowM_ok : rowM.Ok where
  hS := Tryz.underlying154
  info := by kernel_rfl
  zc := rfl
  k0 := by decide
  b1 := by decide
  hk _ := rfl
  h1 x v hv := by
    simp only [List.mem_cons, List.not_mem_nil, or_false] at hv
    rcases hv with rfl | rfl <;> rfl
/-- what the loop in sum keeps in memory -/
structure SJ (w : World) (pre : List Unit) (W : World) : Prop where
  ho : ∃ A c, Boxed W w.heap.size 154 (.slice A pre.length c) ∧ (pre = [] → A = none ∧ c = 0)
  bel : Below w.heap.size w W
  sz : w.heap.size + 3 ≤ W.heap.size
theorem SJ.grown {w W W' : World} {pre : List Unit} {row : Option Nat} (h : SJ w pre W) (hg : W.grownBy W' row) (hrow : ∀ r, row = some r → w.heap.size < r) : SJ w pre W' := by
  obtain ⟨A, c, hb, hn⟩ := h.ho
  exact ⟨⟨A, c, hb.kept hg (fun e => by have := hrow _ e.symm; omega), hn⟩, h.bel.grown hg h.bel.size (fun k e => Nat.le_of_lt (hrow k e)), Nat.le_trans h.sz hg.size⟩
theorem SJ.below {w W W' : World} {pre : List Unit} (h : SJ w pre W) (hb : Below W.heap.size W W') : SJ w pre W' := by
  obtain ⟨A, c, hx, hn⟩ := h.ho
  exact ⟨⟨A, c, (hb.block _ hx.lt).trans hx, hn⟩, h.bel.trans (hb.mono h.bel.size), Nat.le_trans h.sz hb.size⟩
def AmJ (m : List UInt8) (_ : Unit) (W0 W : World) : Prop := W.cell? ⟨W0.heap.size, 0, none⟩ = some (.string ⟨#[]⟩) ∧ W.cell? ⟨W0.heap.size, 1, none⟩ = some (.string ⟨m.toArray⟩)
theorem AmJ.put {m : List UInt8} {x : Unit} {W0 W : World} (h : AmJ m x W0 W) {b : Nat} (hb : b < W0.heap.size) (o : Obj) : AmJ m x W0 (W.putObj b o) :=
  ⟨(World.cell?_of_block (a := ⟨W0.heap.size, 0, none⟩) (World.putObj_heap_other (by simp; omega))).trans h.1, (World.cell?_of_block (a := ⟨W0.heap.size, 1, none⟩) (World.putObj_heap_other (by simp; omega))).trans h.2⟩
set_option maxRecDepth 100000 in
set_option maxHeartbeats 4000000 in
theorem sum_two (d : Nat) (hd : 1 ≤ d) (bm : Nat) (l m : List UInt8) (w : World) (m0 : w.cell? ⟨bm, 0, none⟩ = some (.string ⟨l.toArray⟩)) (m1 : w.cell? ⟨bm, 1, none⟩ = some (.string ⟨m.toArray⟩)) (ht : Tab w) (hml : m.length ≤ 120) (hcan : txt (val m) = m) (hne : m ≠ []) :
    CallsIn Fence.wide d Tryz.prog 178 #[.slice none 0 0, .slice (some ⟨bm, 0, none⟩) 1 1] w fun e w' => (∃ v, e = .returned (.tuple #[v, .int .i64 0])) ∧ Below w.heap.size w w' := by
  refine callsIn_of_wp_marks Tryz.func178 rfl trivial ?_ rfl
  simp only [Tryz.ntmps178, List.size_toArray, List.length_cons, List.length_nil, Nat.reduceAdd, Nat.reduceSub, Array.replicate_succ, Array.replicate_zero, List.push_toArray, List.append_toArray, List.nil_append, List.cons_append]
  gi_wp2_with (refine ⟨trivial, ?_⟩; refine (callsIn_wide.2 (both_any _ _ _ _)).mono ?_; rintro e w' ⟨rfl, rfl⟩)
  have hbl : bm < w.heap.size := block_lt_of_cell m0
  have b0 := Boxed.new w 154 (.slice none 0 0)
  have b1 := Boxed.new (w.alloc (.cells #[.slice none 0 0] 154)) 154 (.slice none 0 0)
  have b2 := Boxed.new ((w.alloc (.cells #[.slice none 0 0] 154)).alloc (.cells #[.slice none 0 0] 154)) 154 (.slice (some ⟨bm, 0, none⟩) 1 1)
  simp only [World.size_alloc] at b1 b2 ⊢
  have hB0 : Below w.heap.size w (((w.alloc (.cells #[.slice none 0 0] 154)).alloc (.cells #[.slice none 0 0] 154)).alloc (.cells #[.slice (some ⟨bm, 0, none⟩) 1 1] 154)) := ex_alloc3 w _ _ _
  have hF0 : SJ w [] (((w.alloc (.cells #[.slice none 0 0] 154)).alloc (.cells #[.slice none 0 0] 154)).alloc (.cells #[.slice (some ⟨bm, 0, none⟩) 1 1] 154)) := ⟨⟨none, 0, (b0.alloc _).alloc _, fun _ => ⟨rfl, rfl⟩⟩, hB0, by simp⟩
  have b1' := b1.alloc (.cells #[.slice (some ⟨bm, 0, none⟩) 1 1] 154)
  have hsz : (((w.alloc (.cells #[.slice none 0 0] 154)).alloc (.cells #[.slice none 0 0] 154)).alloc (.cells #[.slice (some ⟨bm, 0, none⟩) 1 1] 154)).heap.size = w.heap.size + 3 := by simp
  clear b0 b1
  generalize (((w.alloc (.cells #[.slice none 0 0] 154)).alloc (.cells #[.slice none 0 0] 154)).alloc (.cells #[.slice (some ⟨bm, 0, none⟩) 1 1] 154)) = W0 at *
  have n0 := (hB0.cell (p := ⟨bm, 0, none⟩) hbl).trans m0
  have n1 := (hB0.cell (p := ⟨bm, 1, none⟩) hbl).trans m1
  refine range_boxA (w.heap.size + 1) rfl hd (gf := 235) (lb := #[.pointer (some ⟨w.heap.size + 1, 0, none⟩), .pointer (some ⟨w.heap.size + 1 + 1, 0, none⟩)]) rfl trivial (enters_of Tryz.func235 (by kernel_rfl) rfl) (w.heap.size + 1 + 1) (by omega) (by omega)
    (both2_stops (d - 1) (w.heap.size + 1) (w.heap.size + 1 + 1) bm l m W0 b1' b2 n0 n1 (by omega) (by omega) (by omega)) (fun _ => rfl)
    (fun s W => SJ w s W) (fun _ _ => False)
    (fun s A B row hs hg hr => hs.grown hg (fun r e => by have := (hr r e).1; omega))
    (fun s A B row hs hg hr => hs)
    (fun s A B hs hg => hs.grown hg (fun r e => by cases e; omega))
    (fun s A B hs hg => hs)
    hF0
    (fun _ Wp => { tmps := #[.slice none 0 0, .slice (some ⟨bm, 0, none⟩) 1 1, undef, undef, .slice none 0 0, .int .i64 0, .pointer (some ⟨w.heap.size, 0, none⟩), .string ⟨l.toArray⟩, .pointer (some ⟨Wp.heap.size, 0, none⟩), undef, .slice none 0 0, .slice (some ⟨bm, 0, none⟩) 1 1, .func (.func 235) #[] #[.pointer (some ⟨w.heap.size + 1, 0, none⟩), .pointer (some ⟨w.heap.size + 1 + 1, 0, none⟩)], .string ⟨l.toArray⟩, .agg #[.string ⟨#[]⟩, .string ⟨m.toArray⟩], undef, undef, undef, undef, undef, undef, undef, undef, undef, undef, undef, undef, undef, undef, undef, undef, undef], defers := [] })
    (AmJ m) (fun x W0 W' o hlt h => h.put hlt o) ?assign ?body ?done ?stop
  case assign =>
    intro lp x W K hK
    gi_wp2
    exact hK _ (World.grownBy_alloc _ _ _) ⟨by go_simp, by go_simp⟩
  case body =>
    rintro lp pre x Wp W hWp hF ⟨p0, p1⟩ hpre
    obtain rfl : pre = [] := List.eq_nil_of_length_eq_zero (by omega)
    have htW : Tab W := ht.below hF.bel
    have hadd : CallsIn (Fence.wide.inRound lp) (d - 1 - 1 - 1) Tryz.prog 21 #[.string ⟨#[]⟩, .string ⟨m.toArray⟩] W fun e w' => e = .returned (.string ⟨m.toArray⟩) ∧ Below W.heap.size W w' := by
      refine CallsIn.inRound lp (callsIn_wide.2 ?_)
      refine (Add_any ⟨#[]⟩ ⟨m.toArray⟩ W (by decide) (by show m.toArray.size ≤ 120; rw [List.size_toArray]; exact hml) htW).mono ?_
      rintro e w' ⟨he, hb⟩
      refine ⟨?_, hb⟩
      have e0 : txt (val (⟨#[]⟩ : ByteArray).data.toList + val (⟨m.toArray⟩ : ByteArray).data.toList) = m := by
        have e1 : val (⟨#[]⟩ : ByteArray).data.toList = 0 := by rfl
        rw [e1, Int.zero_add]
        exact hcan
      rw [he, e0]
    have HA := Lib.hid hadd
    obtain ⟨A, c, hbx, hn⟩ := hF.ho
    obtain ⟨rfl, rfl⟩ := hn rfl
    have HF := Lib.hid hF
    have HX := Lib.hid hbx
    clear hadd b1' b2 hF0 hB0 n0 n1 m0 m1 hn hF hbx
    obtain ⟨v0, vr, rfl⟩ : ∃ v0 vr, m = v0 :: vr := by
      cases m with
      | nil => exact absurd rfl hne
      | cons v0 vr => exact ⟨v0, vr, rfl⟩
    gi_wp2_with (first
      | (refine ⟨trivial, fun h => (by cases h), ?_⟩; refine HA.out.mono ?_; rintro e W3 ⟨rfl, hb3⟩; have HF3 := Lib.hid (HF.out.below hb3); have HX3 := Lib.hid (show Boxed W3 w.heap.size 154 (.slice none 0 0) from (hb3.block _ HX.out.lt).trans HX.out); have HB3 := Lib.hid hb3; have cb := HX3.out.cell; have fb := HX3.out.frozen; clear hb3)
      | (gi_at_builtin; refine wpIn_append1 rowM_ok rfl (.tmp 22) (.tmp 26) rfl w.heap.size _ [] W3 (l, v0 :: vr) _ _ rfl rfl rfl (Row.Own.nil _ _) rfl HF3.out.bel.size (by decide) ?_; intro v1 w5 ho5 hg5; obtain ⟨A5, c5, rfl⟩ := ho5.slice; obtain ⟨k1, k2, k3, k4, k5⟩ := HX3.out.appended (by decide) (Row.Own.nil (R := rowM) w.heap.size W3) HF3.out.bel.size (Nat.le_refl _) ho5 hg5; have hc5 := k1.cell; have hf5 := k1.frozen)
      | gi_in)
    have hb6 : ∀ b, b ≠ w.heap.size → b < W.heap.size → (w5.setCell ⟨w.heap.size, 0, none⟩ (.slice A5 1 c5)).heap[b]? = W.heap[b]? := fun b h1 h2 => by
      rw [Below.heap_setCell _ _ _ _ h1, hg5.block b (by rw [World.size_alloc]; have := HB3.out.size; omega) (fun e => by have e2 : some b = none := e; cases e2), heap_alloc_old _ _ (by have := HB3.out.size; omega)]
      exact HB3.out.block b h2
    have hsW := HF.out.sz
    refine ⟨((keeps_of_below HB3.out).trans k4).from _, ⟨hb6 _ (by omega) (by omega), hb6 _ (by omega) (by omega)⟩, ⟨⟨A5, c5, k2, fun h => by cases h⟩, HF3.out.bel.trans k5, Nat.le_trans HF3.out.sz k4.size⟩⟩
  case done =>
    rintro D ys W hD hys hF hK
    obtain ⟨A, c, hbx, _⟩ := hF.ho
    subst hys
    have c0 := hbx.cell
    clear b1' b2 hF0 hB0 n0 n1 m0 m1
    gi_wp2
    refine ⟨by simp, .inl ⟨_, _, rfl, run_takeDeferred hK, ?_⟩⟩
    refine ⟨.tuple #[.slice A 1 c, .int .i64 0], ?_, ⟨_, rfl⟩, hF.bel.trans (belowK_b (w := w) (Nat.le_refl _) W D _ _ (by omega) hK rfl rfl)⟩
    simp [results, Tryz.f178, go_sem]
  case stop =>
    rintro D pre W hD hpre hF hK
    exact hF.elim
def PutQ (l m : List UInt8) (w : World) (e : Ending) (w' : World) : Prop := (∃ v, e = .returned (.tuple #[v, .int .i64 (if curB l = false then 23 else chkI m)])) ∧ Below w.heap.size w w'
theorem PutQ.of {l m : List UInt8} {w W : World} {v : Value} {i : Int} (hb : Below w.heap.size w W) (h : (if curB l = false then 23 else chkI m) = i) : PutQ l m w (.returned (.tuple #[v, .int .i64 i])) W := ⟨⟨v, by rw [h]⟩, hb⟩
set_option maxRecDepth 100000 in
set_option maxHeartbeats 4000000 in
theorem Put2_any (l m : List UInt8) (w : World) (hl : l.length ≤ maxLen) (hm : m.length ≤ 120) (ht : Tab w) : Calls Tryz.prog 125 #[.slice none 0 0, .agg #[.string ⟨l.toArray⟩, .string ⟨m.toArray⟩]] w (PutQ l m w) := by
  by_cases hme : m = []
  · subst hme
    refine (Put_any l w hl ht).mono ?_
    rintro e w' ⟨rfl, hb⟩
    refine PutQ.of hb ?_
    rw [chkI_nil]
    cases curB l <;> rfl
  have h1 := fun W => isCode_any ⟨l.toArray⟩ W hl
  have e1 : (⟨l.toArray⟩ : ByteArray).data.toList = l := rfl
  rw [e1] at h1
  have h2 := fun W => Check_any ⟨m.toArray⟩ W (by show m.toArray.size ≤ _; rw [List.size_toArray]; first | exact hm | omega)
  have e2 : (⟨m.toArray⟩ : ByteArray).data.toList = m := rfl
  rw [e2] at h2
  unfold IntPost at h2
  have H1 := Lib.hid h1
  have H2 := Lib.hid h2
  have hq := Lib.hid (fun W v i (hb : Below w.heap.size w W) (h : (if curB l = false then 23 else chkI m) = i) => PutQ.of (v := v) hb h)
  have hck := Lib.hid (show chkI m = if can m = m then 0 else 1 from rfl)
  clear h1 h2 e1 e2
  have hbx : Below w.heap.size w (w.alloc (.cells #[.string ⟨l.toArray⟩, .string ⟨m.toArray⟩] 158)) := (Below.refl _ w).alloc (Nat.le_refl _) _
  have x0 : (w.alloc (.cells #[.string ⟨l.toArray⟩, .string ⟨m.toArray⟩] 158)).cell? ⟨w.heap.size, 0, none⟩ = some (.string ⟨l.toArray⟩) := by go_simp
  have x1 : (w.alloc (.cells #[.string ⟨l.toArray⟩, .string ⟨m.toArray⟩] 158)).cell? ⟨w.heap.size, 1, none⟩ = some (.string ⟨m.toArray⟩) := by go_simp
  generalize PutQ l m w = Post at *
  cases hc : curB l
  · have H1' := Lib.hid (by have := H1.out; rw [hc] at this; exact this)
    have hv := Lib.hid (hq.out _ (.slice none 0 0) 23 hbx (by rw [hc, if_pos rfl]))
    clear hq
    go_enter Tryz.func125, Tryz.ntmps125
    go_wp2_with fail
    refine (MCheck_nil _).mono ?_
    rintro e w1 ⟨rfl, rfl⟩
    go_wp2_with fail
    refine (H1'.out _).mono ?_
    rintro e w1 ⟨rfl, rfl⟩
    go_wp2_with fail
    exact hv.out
  have H1' := Lib.hid (by have := H1.out; rw [hc] at this; exact this)
  have hq2 := Lib.hid (fun W v i hb (h : chkI m = i) => hq.out W v i hb (by rw [hc, if_neg (by decide)]; exact h))
  clear hq
  generalize chkI m = ck at *
  go_enter Tryz.func125, Tryz.ntmps125
  go_wp2_with fail
  refine (MCheck_nil _).mono ?_
  rintro e w1 ⟨rfl, rfl⟩
  go_wp2_with fail
  refine (H1'.out _).mono ?_
  rintro e w1 ⟨rfl, rfl⟩
  go_wp2_with fail
  refine (H2.out _).mono ?_
  rintro e w1 ⟨rfl, hb1⟩
  have x0' := (hb1.cell (p := ⟨w.heap.size, 0, none⟩) (by simp)).trans x0
  have x1' := (hb1.cell (p := ⟨w.heap.size, 1, none⟩) (by simp)).trans x1
  have B1 := Lib.hid (hbx.trans (hb1.mono (by simp)))
  clear x0 x1 hb1
  by_cases hz : ck = 0
  case neg =>
    have hzb : (ck != 0) = true := by rw [bne_iff_ne]; exact hz
    have h1 : ck = 1 := by
      rw [hck.out] at hz ⊢
      split at hz
      · exact absurd rfl hz
      · rw [if_neg (by assumption)]
    have hv := Lib.hid (hq2.out w1 (.slice none 0 0) 1 B1.out h1)
    go_wp2_with fail
    exact hv.out
  have hcm : can m = m := by
    have := hck.out
    rw [hz] at this
    by_cases e : can m = m
    · exact e
    · rw [if_neg e] at this; cases this
  subst hz
  go_wp2_with fail
  have hal : Below w1.heap.size w1 (w1.alloc (.cells #[.string ⟨l.toArray⟩, .string ⟨m.toArray⟩] 158)) := (Below.refl _ _).alloc (Nat.le_refl _) _
  have B2 := Lib.hid (B1.out.trans (hal.mono B1.out.size))
  have hs := (callsIn_wide (n := 5)).1 (sum_two 5 (by omega) w1.heap.size l m (w1.alloc (.cells #[.string ⟨l.toArray⟩, .string ⟨m.toArray⟩] 158)) (by go_simp) (by go_simp) (ht.below B2.out) hm hcm hme)
  refine hs.mono ?_
  rintro e w2 ⟨⟨v, rfl⟩, hb2⟩
  have B3 := Lib.hid (B2.out.trans (hb2.mono B2.out.size))
  have hv := Lib.hid (hq2.out w2 v 0 B3.out rfl)
  clear hs hal hb2
  go_wp2_with fail
  exact hv.out
end Go.Proofs.YtohdpidlilhnjaaGreatDoor

/- The ledger's sums: contract of add. -/
namespace Go.Proofs.YtohdpidlilhnjaaGreatDoor
open Go.RowKit Go.Maps Num

theorem bd_txt4 {v : Int} {n : Nat} (h : v.natAbs ≤ n * big) (hn : n ≤ 10000) : (txt v).length ≤ 110 := by
  have h1 : n * big ≤ 10000 * big := Nat.mul_le_mul_right _ hn
  have h2 : 10000 * big < 10 ^ 109 := by decide
  have := txt_bd (k := 109) (show v.natAbs < 10 ^ 109 by omega)
  omega
/-- the map holds the sums of the lines L -/
def SumM (L : List Ln) (bm : Nat) (W : World) : Prop := NmR L bm L.length W
theorem NmR.ext {l l' : List Ln} {bm k : Nat} {W : World} (h : NmR l bm k W) (e : l'.take k = l.take k) : NmR l' bm k W := by
  obtain ⟨f, ks, h1, h2, h3⟩ := h
  exact ⟨f, ks, h1, fun q hq => by rw [e]; exact h2 q hq, fun s => by rw [e]; exact h3 s⟩
theorem SumM.zero (w : World) : SumM [] w.heap.size (w.alloc (.map #[] 0)) := NmR.zero [] w
theorem SumM.below {L : List Ln} {bm : Nat} {W W' : World} (h : SumM L bm W) (hb : Below W.heap.size W W') : SumM L bm W' := NmR.below h hb
theorem SumM.kept {L : List Ln} {bm : Nat} {W W' : World} {row : Option Nat} (h : SumM L bm W) (hg : W.grownBy W' row) (hne : some bm ≠ row) : SumM L bm W' := NmR.kept h hg hne
theorem take_all (L : List Ln) (x : Ln) : (L ++ [x]).take L.length = L := by rw [List.take_append_of_le_length (Nat.le_refl _), List.take_length]
set_option maxRecDepth 100000 in
set_option maxHeartbeats 4000000 in
theorem add_s (bm : Nat) (L : List Ln) (a c m : List UInt8) (w : World) (h : SumM L bm w) (hsm : ∀ x ∈ L ++ [(a, c, m)], Sml x) (hL : L.length < 10000) (ht : Tab w) :
    Calls Tryz.prog 71 #[.map (some bm), .agg #[.string ⟨a.toArray⟩, .string ⟨c.toArray⟩], .string ⟨m.toArray⟩] w fun e w' => e = .returned (.tuple #[]) ∧ SumM (L ++ [(a, c, m)]) bm w' ∧ w.grownBy w' (some bm) := by
  have hx : Sml (a, c, m) := hsm _ (by simp)
  have hq : SmK (a, c) := smK_of hx
  have hbm := NmR.lt h
  have h' : NmR (L ++ [(a, c, m)]) bm L.length w := NmR.ext h (by rw [take_all, List.take_length])
  have hl1 := bd_txt4 (tot_bd L (fun x hx => hsm x (List.mem_append_left _ hx)) (a, c)) (by omega)
  have hl2 : (txt (val (txt (tot L (a, c))) + val m)).length ≤ 100000 := by
    have e := tot_bd (L ++ [(a, c, m)]) hsm (a, c)
    rw [tot_snoc, if_pos (show key (a, c, m) = (a, c) from rfl), List.length_append, List.length_singleton] at e
    rw [val_txt]
    exact Nat.le_trans (bd_txt4 e (by omega)) (by omega)
  have htk : (L ++ [(a, c, m)]).take (L.length + 1) = (L ++ [(a, c, m)]).take L.length ++ [(a, c, m)] := by
    rw [take_all, List.take_of_length_le (by rw [List.length_append, List.length_singleton]; exact Nat.le_refl _)]
  have hB0 : Below w.heap.size w (w.alloc (.cells #[.string ⟨a.toArray⟩, .string ⟨c.toArray⟩] 111)) := (Below.refl _ w).alloc (Nat.le_refl _) _
  have hK := Lib.hid (fun W (hb : Below w.heap.size w W) => h'.below hb)
  have hlk := (h'.below (hB0.trans ((Below.drew (Below.refl _ (w.alloc (.cells #[.string ⟨a.toArray⟩, .string ⟨c.toArray⟩] 111)))).mono hB0.size))).look a c hq
  rw [take_all] at hlk
  have x0 : (w.alloc (.cells #[.string ⟨a.toArray⟩, .string ⟨c.toArray⟩] 111)).cell? ⟨w.heap.size, 0, none⟩ = some (.string ⟨a.toArray⟩) := by go_simp
  have x1 : (w.alloc (.cells #[.string ⟨a.toArray⟩, .string ⟨c.toArray⟩] 111)).cell? ⟨w.heap.size, 1, none⟩ = some (.string ⟨c.toArray⟩) := by go_simp
  have HP := Lib.hid (fun W (h1 : NmR (L ++ [(a, c, m)]) bm (L.length + 1) W) (h2 : w.grownBy W (some bm)) => (show (Ending.returned (.tuple #[]) = Ending.returned (.tuple #[]) ∧ SumM (L ++ [(a, c, m)]) bm W ∧ w.grownBy W (some bm)) from ⟨rfl, by unfold SumM; rw [List.length_append, List.length_singleton]; exact h1, h2⟩))
  have HT := Lib.hid ht
  have HL1 := Lib.hid hl1
  have HL2 := Lib.hid hl2
  have HM := Lib.hid hx.2.2
  have HSM := Lib.hid hsm
  have HTK := Lib.hid htk
  have HQ := Lib.hid hq
  have B0 := Lib.hid hB0
  have hsz : (w.alloc (.cells #[.string ⟨a.toArray⟩, .string ⟨c.toArray⟩] 111)).heap.size = w.heap.size + 1 := by simp
  clear h h' hx hq hl1 hl2 hsm ht hB0 htk
  go_enter Tryz.func71, Tryz.ntmps71
  go_upto_region 1 with fail
  generalize w.alloc (.cells #[.string ⟨a.toArray⟩, .string ⟨c.toArray⟩] 111) = w1 at *
  have lw : w.heap.size < w1.heap.size := by omega
  have hne : some w.heap.size ≠ some bm := fun e => by have := Option.some.inj e; omega
  have HX := Lib.hid (And.intro x0 x1)
  have HBr := Lib.hid (Below.refl w1.heap.size w1)
  have HS1 := Lib.hid hsz
  clear hsz
  go_region_held3 (fun w' => w'.cell? ⟨w.heap.size, 0, none⟩ = some (.string ⟨a.toArray⟩) ∧ w'.cell? ⟨w.heap.size, 1, none⟩ = some (.string ⟨c.toArray⟩))
    (first | exact ⟨e0, e1⟩ | exact ⟨d0, d1⟩ | exact ⟨x0, x1⟩ | go_keep)
    (first
      | (go_at_call 21; refine (Add_any ⟨(txt (tot L (a, c))).toArray⟩ ⟨m.toArray⟩ _ (by show (txt (tot L (a, c))).toArray.size ≤ 120; rw [List.size_toArray]; exact Nat.le_trans HL1.out (by decide)) (by show m.toArray.size ≤ 120; rw [List.size_toArray]; exact Nat.le_trans HM.out (by decide)) (HT.out.below (B0.out.trans (((HBr.out.trans ((Below.drew (Below.refl _ _)).mono (Nat.le_refl _))).mono (by rw [HS1.out]; omega)))))).mono ?_; rintro e w' ⟨rfl, hb⟩; have HBr := Lib.hid (below_next HBr.out hb ⟨rfl, rfl, rfl, rfl⟩); have d0 := (HBr.out.cell (p := ⟨w.heap.size, 0, none⟩) lw).trans HX.out.1; have d1 := (HBr.out.cell (p := ⟨w.heap.size, 1, none⟩) lw).trans HX.out.2; clear hb; obtain ⟨wU, hrU, hnU, hgU⟩ := (hK.out w' (B0.out.trans (HBr.out.mono (by rw [HS1.out]; omega)))).put a c m HQ.out (by omega) HTK.out HSM.out (by rw [take_all]; exact HL2.out); rw [take_all] at hrU; have HNU := Lib.hid hnU; have HGU := Lib.hid hgU; have e0 := hgU.cell (a := ⟨w.heap.size, 0, none⟩) d0 hne; have e1 := hgU.cell (a := ⟨w.heap.size, 1, none⟩) d1 hne; clear hnU hgU))
  have hgr := Lib.hid (grown_tr (grown_below (grown_refl w (some bm)) (B0.out.trans (HBr.out.mono (by rw [HS1.out]; omega)))) HGU.out)
  go_wp2_with fail
  go_end0
  exact ⟨rfl, (HP.out _ HNU.out hgr.out).2⟩
end Go.Proofs.YtohdpidlilhnjaaGreatDoor
