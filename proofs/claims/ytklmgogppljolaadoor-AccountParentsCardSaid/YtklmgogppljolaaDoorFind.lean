/- Charts in memory; the contract of Find. -/
import Derived.Test.YtklmgogppljolaaDoorUnd
import Derived.Deep.OwnRows
namespace Go.Proofs.YtklmgogppljolaaDoor
open Go.RowKit

abbrev Acc := List UInt8 × Int
/-- a slice of accounts in memory -/
structure Accs (w : World) (A : Option Addr) (n c : Nat) (l : List Acc) : Prop where
  len : l.length = n
  cap : n ≤ c
  top : c ≤ 9223372036854775807
  at_ : 0 < n → ∃ b o, A = some ⟨b, o, none⟩ ∧ b < w.heap.size ∧ ∀ k, k < n → w.cell? ⟨b, o + k * 2, none⟩ = some (.string ⟨(l.getD k ([], 0)).1.toArray⟩) ∧ w.cell? ⟨b, o + k * 2 + 1, none⟩ = some (.int .i64 (l.getD k ([], 0)).2)
theorem Accs.below {w w' : World} {A : Option Addr} {n c : Nat} {l : List Acc} (h : Accs w A n c l) (hb : Below w.heap.size w w') : Accs w' A n c l :=
  ⟨h.len, h.cap, h.top, fun h0 => by
    obtain ⟨b, o, e, hlt, hc⟩ := h.at_ h0
    exact ⟨b, o, e, Nat.lt_of_lt_of_le hlt hb.size, fun k hk => ⟨(hb.cell (p := ⟨b, o + k * 2, none⟩) hlt).trans (hc k hk).1, (hb.cell (p := ⟨b, o + k * 2 + 1, none⟩) hlt).trans (hc k hk).2⟩⟩⟩
def AV (a : Acc) : Nat → Value := fun j => if j = 0 then .string ⟨a.1.toArray⟩ else .int .i64 a.2
/-- a step of the search -/
def fStep (code : List UInt8) (s : Acc × Bool) (a : Acc) : Acc × Bool := if undB code a.1 && (!s.2 || decide (s.1.1.length < a.1.length)) then (a, true) else s
def findL (l : List Acc) (code : List UInt8) : Acc × Bool := l.foldl (fStep code) (([], 0), false)
theorem fold_snoc (code : List UInt8) (l : List Acc) (k : Nat) (h : k < l.length) : (l.take (k + 1)).foldl (fStep code) (([], 0), false) = fStep code ((l.take k).foldl (fStep code) (([], 0), false)) (l.getD k ([], 0)) := by
  rw [List.take_succ_eq_append_getElem h, List.foldl_append, List.getD_eq_getElem?_getD, List.getElem?_eq_getElem h]
  rfl
structure FR (w : World) (s : Acc × Bool) (wr : World) : Prop where
  bel : Below w.heap.size w wr
  res : wr.rowIs w.heap.size 38 2 (AV ([], 0))
  bst : wr.rowIs (w.heap.size + 1) 38 2 (AV s.1)
  sz : w.heap.size + 2 ≤ wr.heap.size
theorem FR.alloc {w wr : World} {s : Acc × Bool} (h : FR w s wr) (o : Obj) : FR w s (wr.alloc o) := ⟨h.bel.alloc h.bel.size _, h.res.alloc _, h.bst.alloc _, by have := h.sz; simp; omega⟩
theorem FR.put {w wr : World} {s : Acc × Bool} (h : FR w s wr) (a : Acc) (f : Bool) : FR w (a, f) ((wr.setCell ⟨w.heap.size + 1, 0, none⟩ (.string ⟨a.1.toArray⟩)).setCell ⟨w.heap.size + 1, 1, none⟩ (.int .i64 a.2)) :=
  ⟨(h.bel.setCell (p := ⟨w.heap.size + 1, 0, none⟩) (by simp) _).setCell (p := ⟨w.heap.size + 1, 1, none⟩) (by simp) _, (h.res.setOther (by simp) _).setOther (by simp) _,
    ((h.bst.set 0 _).set 1 _).congr fun j hj => by
      rcases j with _ | _ | j
      · rfl
      · rfl
      · omega, by have := h.sz; simpa using this⟩
theorem FR.start (w : World) : FR w (([], 0), false) ((w.alloc (.cells #[.string ⟨#[]⟩, .int .i64 0] 38)).alloc (.cells #[.string ⟨#[]⟩, .int .i64 0] 38)) := by
  have r0 := World.rowIs_alloc w #[.string ⟨#[]⟩, .int .i64 0] 38 (AV ([], 0)) (fun i hi => by
    rcases i with _ | _ | i
    · rfl
    · rfl
    · simp at hi; omega)
  have r1 := World.rowIs_alloc (w.alloc (.cells #[.string ⟨#[]⟩, .int .i64 0] 38)) #[.string ⟨#[]⟩, .int .i64 0] 38 (AV ([], 0)) (fun i hi => by
    rcases i with _ | _ | i
    · rfl
    · rfl
    · simp at hi; omega)
  rw [World.size_alloc] at r1
  exact ⟨((Below.refl _ w).alloc (Nat.le_refl _) _).alloc (by simp) _, r0.alloc _, r1, by simp⟩
def RetA (a : Acc) (f : Bool) (w : World) (e : Ending) (w' : World) : Prop := e = .returned (.tuple #[.agg #[.string ⟨a.1.toArray⟩, .int .i64 a.2], .bool f]) ∧ Below w.heap.size w w'
set_option maxHeartbeats 2000000 in
set_option maxRecDepth 100000 in
theorem Find_any (A : Option Addr) (n c : Nat) (l : List Acc) (code : List UInt8) (w : World) (h : Accs w A n c l) (hn : ∀ a ∈ l, a.1.length ≤ 140737488355328) : Calls Tryd.prog 15 #[.slice A n c, .string ⟨code.toArray⟩] w (RetA (findL l code).1 (findL l code).2 w) := by
  have htop := h.top
  have hcap := h.cap
  have hlen := Lib.hid h.len
  have HA := Lib.hid h
  have hn := Lib.hid hn
  go_enter Tryd.func15, Tryd.ntmps15
  go_wp2_with fail
  go_loopw [7, 9, 12] (fun f _ i wr => ∃ k : Nat, k ≤ n ∧ i = .int .i64 (k : Int) ∧ f = .bool ((l.take k).foldl (fStep code) (([], 0), false)).2 ∧ FR w ((l.take k).foldl (fStep code) (([], 0), false)) wr) (fun _ _ i _ => n - (intOf i).toNat)
  case atStart =>
    refine ⟨0, by omega, rfl, rfl, ?_⟩
    exact FR.start w
  case round =>
    obtain ⟨k, hk, rfl, rfl, hfr⟩ := hrel
    by_cases hlt : k < n
    · have hfold := Lib.hid (fold_snoc code l k (by rw [hlen.out]; exact hlt))
      obtain ⟨b, o, rfl, hb, hc⟩ := HA.out.at_ (by omega)
      obtain ⟨c1, c2⟩ := hc k hlt
      have d1 := (hfr.bel.cell (p := ⟨b, o + k * 2, none⟩) hb).trans c1
      have d2 := (hfr.bel.cell (p := ⟨b, o + k * 2 + 1, none⟩) hb).trans c2
      clear hc c1 c2
      obtain ⟨st, hst⟩ : ∃ st, st = (l.take k).foldl (fStep code) (([], 0), false) := ⟨_, rfl⟩
      obtain ⟨a, ha⟩ : ∃ a, a = l.getD k ([], 0) := ⟨_, rfl⟩
      rw [← ha] at d1 d2
      rw [← hst] at hfr ⊢
      have HST := Lib.hid (And.intro hst ha)
      clear hst ha
      have f0 := hfr.bst.frozen 0
      have f1 := hfr.bst.frozen 1
      have hsz : w.heap.size + 1 < wr.heap.size := by have := hfr.sz; omega
      have hsne : ¬ (w.heap.size + 1 = wr.heap.size) := by omega
      obtain ⟨a1, a2⟩ := a
      obtain ⟨⟨s1, s2⟩, s3⟩ := st
      have e0 : wr.cell? ⟨w.heap.size + 1, 0, none⟩ = some (.string ⟨s1.toArray⟩) := hfr.bst.cell (i := 0) (by omega)
      have e1 : wr.cell? ⟨w.heap.size + 1, 1, none⟩ = some (.int .i64 s2) := hfr.bst.cell (i := 1) (by omega)
      have hund := Lib.hid (Under_any code a1)
      have hl1 : a1.length ≤ 140737488355328 := by
        have := HST.out.2
        exact hn.out (a1, a2) (by rw [this, List.getD_eq_getElem?_getD, List.getElem?_eq_getElem (by rw [hlen.out]; exact hlt)]; exact List.getElem_mem _)
      have hstep := Lib.hid (show fStep code ((s1, s2), s3) (a1, a2) = if undB code a1 && (!s3 || decide (s1.length < a1.length)) then ((a1, a2), true) else ((s1, s2), s3) from rfl)
      have hnew := hfr.alloc (.cells #[.string ⟨a1.toArray⟩, .int .i64 a2] 38)
      have HNEW := Lib.hid hnew
      have HPUT := Lib.hid ((hfr.put (a1, a2) true).alloc (.cells #[.string ⟨a1.toArray⟩, .int .i64 a2] 38))
      clear hnew
      generalize hub : undB code a1 = ub at *
      have HUB := Lib.hid hub
      clear hub
      cases ub
      · go_wp2_with fail
        refine (hund.out _).mono ?_
        rintro e w1 ⟨rfl, rfl⟩
        go_wp2_with fail
        go_roundw
        case rel =>
          have e : (l.take (k + 1)).foldl (fStep code) (([], 0), false) = ((s1, s2), s3) := by rw [hfold.out, ← HST.out.1, ← HST.out.2, hstep.out]; rfl
          exact ⟨k + 1, by omega, by go_num, by rw [e], by rw [e]; exact HNEW.out⟩
        case measure => simp [intOf]; omega
      · cases s3
        · go_wp2_with fail
          refine (hund.out _).mono ?_
          rintro e w1 ⟨rfl, rfl⟩
          go_wp2_with fail
          go_roundw
          case rel =>
            have e : (l.take (k + 1)).foldl (fStep code) (([], 0), false) = ((a1, a2), true) := by rw [hfold.out, ← HST.out.1, ← HST.out.2, hstep.out]; rfl
            exact ⟨k + 1, by omega, by go_num, by rw [e], by rw [e]; exact HPUT.out⟩
          case measure => simp [intOf]; omega
        · by_cases hll : s1.length < a1.length
          · have hd : decide ((s1.length : Int) < (a1.length : Int)) = true := by simp; omega
            have hd2 : decide (s1.length < a1.length) = true := by simp [hll]
            go_wp2_with fail
            refine (hund.out _).mono ?_
            rintro e w1 ⟨rfl, rfl⟩
            go_wp2_with fail
            go_roundw
            case rel =>
              have e : (l.take (k + 1)).foldl (fStep code) (([], 0), false) = ((a1, a2), true) := by rw [hfold.out, ← HST.out.1, ← HST.out.2, hstep.out, hd2]; rfl
              exact ⟨k + 1, by omega, by go_num, by rw [e], by rw [e]; exact HPUT.out⟩
            case measure => simp [intOf]; omega
          · have hd : decide ((s1.length : Int) < (a1.length : Int)) = false := by simp; omega
            have hd2 : decide (s1.length < a1.length) = false := by simp; omega
            go_wp2_with fail
            refine (hund.out _).mono ?_
            rintro e w1 ⟨rfl, rfl⟩
            go_wp2_with fail
            go_roundw
            case rel =>
              have e : (l.take (k + 1)).foldl (fStep code) (([], 0), false) = ((s1, s2), true) := by rw [hfold.out, ← HST.out.1, ← HST.out.2, hstep.out, hd2]; rfl
              exact ⟨k + 1, by omega, by go_num, by rw [e], by rw [e]; exact HNEW.out⟩
            case measure => simp [intOf]; omega
    · have hfin := Lib.hid (show l.take k = l from List.take_of_length_le (by rw [hlen.out]; omega))
      have r0 : wr.cell? ⟨w.heap.size, 0, none⟩ = some (.string ⟨#[]⟩) := hfr.res.cell (i := 0) (by omega)
      have r1 : wr.cell? ⟨w.heap.size, 1, none⟩ = some (.int .i64 0) := hfr.res.cell (i := 1) (by omega)
      have f0 := hfr.res.frozen 0
      have f1 := hfr.res.frozen 1
      obtain ⟨st, hst⟩ : ∃ st, st = (l.take k).foldl (fStep code) (([], 0), false) := ⟨_, rfl⟩
      rw [← hst] at hfr ⊢
      rw [hfin.out] at hst
      have HST := Lib.hid hst
      clear hst
      obtain ⟨⟨s1, s2⟩, s3⟩ := st
      have e0 : wr.cell? ⟨w.heap.size + 1, 0, none⟩ = some (.string ⟨s1.toArray⟩) := hfr.bst.cell (i := 0) (by omega)
      have e1 : wr.cell? ⟨w.heap.size + 1, 1, none⟩ = some (.int .i64 s2) := hfr.bst.cell (i := 1) (by omega)
      go_wp2_with fail
      have q0 : ((wr.setCell ⟨w.heap.size, 0, none⟩ (.string ⟨s1.toArray⟩)).setCell ⟨w.heap.size, 1, none⟩ (.int .i64 s2)).cell? ⟨w.heap.size, 0, none⟩ = some (.string ⟨s1.toArray⟩) :=
        ((hfr.res.set 0 (.string ⟨s1.toArray⟩)).set 1 (.int .i64 s2)).cell (i := 0) (by omega)
      have q1 : ((wr.setCell ⟨w.heap.size, 0, none⟩ (.string ⟨s1.toArray⟩)).setCell ⟨w.heap.size, 1, none⟩ (.int .i64 s2)).cell? ⟨w.heap.size, 1, none⟩ = some (.int .i64 s2) :=
        ((hfr.res.set 0 (.string ⟨s1.toArray⟩)).set 1 (.int .i64 s2)).cell (i := 1) (by omega)
      refine bodyPost_ret (v := .tuple #[.agg #[.string ⟨s1.toArray⟩, .int .i64 s2], .bool s3]) (by simp [results, Tryd.results15, go_sem, q0, q1]) rfl ⟨?_, (hfr.bel.setCell (p := ⟨w.heap.size, 0, none⟩) (by simp) _).setCell (p := ⟨w.heap.size, 1, none⟩) (by simp) _⟩
      have := HST.out
      rw [findL, ← this]
end Go.Proofs.YtklmgogppljolaaDoor
