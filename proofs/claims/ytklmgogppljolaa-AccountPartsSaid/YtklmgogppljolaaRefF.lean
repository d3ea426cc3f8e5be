/- The contract of the reference's Find. -/
import Derived.Test.YtklmgogppljolaaRefU
namespace Go.Proofs.Ytklmgogppljolaa
open Go.RowKit

theorem FR.drewN {w wr : World} {s : Acc × Bool} (h : FR w s wr) (n : Nat) : FR w s (wr.drewN n) := ⟨below_drewN h.bel n, h.res, h.bst, h.sz⟩
theorem rUnder_q (c p : List UInt8) (w : World) : Calls Try.prog 26 #[.string ⟨c.toArray⟩, .string ⟨p.toArray⟩] w fun e w' => e = .returned (.bool (undB c p)) ∧ w' = w := (rUnder_walk c p w).mono fun _ _ ⟨h, g⟩ => ⟨h, g.symm⟩
set_option maxHeartbeats 2000000 in
set_option maxRecDepth 100000 in
theorem rFind_any (A : Option Addr) (n c : Nat) (l : List Acc) (code : List UInt8) (w : World) (h : Accs w A n c l) (hn : ∀ a ∈ l, a.1.length ≤ 140737488355328) : Calls Try.prog 11 #[.slice A n c, .string ⟨code.toArray⟩] w (RetA (findL l code).1 (findL l code).2 w) := by
  have htop := h.top
  have hcap := h.cap
  have hlen := Lib.hid h.len
  have HA := Lib.hid h
  have HN := Lib.hid hn
  clear hn
  go_enter Try.func11, Try.ntmps11
  go_wp2_with fail
  go_loopw [7, 8] (fun f i wr => ∃ k : Nat, k ≤ n ∧ i = .int .i64 (k : Int) ∧ f = .bool ((l.take k).foldl (fStep code) (([], 0), false)).2 ∧ FR w ((l.take k).foldl (fStep code) (([], 0), false)) wr) (fun _ i _ => n - (intOf i).toNat)
  case atStart =>
    refine ⟨0, by omega, rfl, rfl, ?_⟩
    exact FR.start w
  case round =>
    obtain ⟨k, hk, rfl, rfl, hfr⟩ := hrel
    by_cases hlt : k < n
    · have hfold := Lib.hid (fold_snoc code l k (by rw [hlen.out]; exact hlt))
      obtain ⟨b, o, rfl, hb, hc⟩ := HA.out.at_ (by omega)
      obtain ⟨c1, c2⟩ := hc k hlt
      have d1 := (hfr.bel.cell (p := ⟨b, o + k * 2, none⟩) hb).trans c1
      have d2 := (hfr.bel.cell (p := ⟨b, o + k * 2 + 1, none⟩) hb).trans c2
      clear hc c1 c2
      obtain ⟨st, hst⟩ : ∃ st, st = (l.take k).foldl (fStep code) (([], 0), false) := ⟨_, rfl⟩
      obtain ⟨a, ha⟩ : ∃ a, a = l.getD k ([], 0) := ⟨_, rfl⟩
      rw [← ha] at d1 d2
      rw [← hst] at hfr ⊢
      have HST := Lib.hid (And.intro hst ha)
      clear hst ha
      obtain ⟨a1, a2⟩ := a
      obtain ⟨⟨s1, s2⟩, s3⟩ := st
      have e0 : wr.cell? ⟨w.heap.size + 1, 0, none⟩ = some (.string ⟨s1.toArray⟩) := hfr.bst.cell (i := 0) (by omega)
      have e1 : wr.cell? ⟨w.heap.size + 1, 1, none⟩ = some (.int .i64 s2) := hfr.bst.cell (i := 1) (by omega)
      have hl1 : a1.length ≤ 140737488355328 := by
        have := HST.out.2
        exact HN.out (a1, a2) (by rw [this, List.getD_eq_getElem?_getD, List.getElem?_eq_getElem (by rw [hlen.out]; exact hlt)]; exact List.getElem_mem _)
      have hstep := Lib.hid (show fStep code ((s1, s2), s3) (a1, a2) = if undB code a1 && (!s3 || decide (s1.length < a1.length)) then ((a1, a2), true) else ((s1, s2), s3) from rfl)
      have hund := Lib.hid (rUnder_q code a1)
      cases hub : undB code a1
      · rw [hub] at hstep hund
        clear hub
        go_wp2_with fail
        go_quiet ((go_at_call 26; exact Calls.quiet_of_same (hund.out _)))
        have HNEW := Lib.hid (hfr.drewN nq)
        go_wp2_with fail
        go_roundw
        case rel =>
          have e : (l.take (k + 1)).foldl (fStep code) (([], 0), false) = ((s1, s2), s3) := by rw [hfold.out, ← HST.out.1, ← HST.out.2, hstep.out]; rfl
          exact ⟨k + 1, by omega, by go_num, by rw [e], by rw [e]; exact HNEW.out⟩
        case measure => simp [intOf]; omega
      · rw [hub] at hstep hund
        clear hub
        have f0 := hfr.bst.frozen 0
        have f1 := hfr.bst.frozen 1
        have hsz : w.heap.size + 1 < wr.heap.size := by have := hfr.sz; omega
        cases s3
        · go_wp2_with fail
          go_quiet ((go_at_call 26; exact Calls.quiet_of_same (hund.out _)))
          have HPUT := Lib.hid ((hfr.drewN nq).put (a1, a2) true)
          go_wp2_with fail
          go_roundw
          case rel =>
            have e : (l.take (k + 1)).foldl (fStep code) (([], 0), false) = ((a1, a2), true) := by rw [hfold.out, ← HST.out.1, ← HST.out.2, hstep.out]; rfl
            exact ⟨k + 1, by omega, by go_num, by rw [e], by rw [e]; exact HPUT.out⟩
          case measure => simp [intOf]; omega
        · by_cases hll : s1.length < a1.length
          · have hd : decide ((s1.length : Int) < (a1.length : Int)) = true := by simp; omega
            have hd2 : decide (s1.length < a1.length) = true := by simp [hll]
            go_wp2_with fail
            go_quiet ((go_at_call 26; exact Calls.quiet_of_same (hund.out _)))
            have HPUT := Lib.hid ((hfr.drewN nq).put (a1, a2) true)
            go_wp2_with fail
            go_roundw
            case rel =>
              have e : (l.take (k + 1)).foldl (fStep code) (([], 0), false) = ((a1, a2), true) := by rw [hfold.out, ← HST.out.1, ← HST.out.2, hstep.out, hd2]; rfl
              exact ⟨k + 1, by omega, by go_num, by rw [e], by rw [e]; exact HPUT.out⟩
            case measure => simp [intOf]; omega
          · have hd : decide ((s1.length : Int) < (a1.length : Int)) = false := by simp; omega
            have hd2 : decide (s1.length < a1.length) = false := by simp; omega
            go_wp2_with fail
            go_quiet ((go_at_call 26; exact Calls.quiet_of_same (hund.out _)))
            have HNEW := Lib.hid (hfr.drewN nq)
            go_wp2_with fail
            go_roundw
            case rel =>
              have e : (l.take (k + 1)).foldl (fStep code) (([], 0), false) = ((s1, s2), true) := by rw [hfold.out, ← HST.out.1, ← HST.out.2, hstep.out, hd2]; rfl
              exact ⟨k + 1, by omega, by go_num, by rw [e], by rw [e]; exact HNEW.out⟩
            case measure => simp [intOf]; omega
    · have hfin := Lib.hid (show l.take k = l from List.take_of_length_le (by rw [hlen.out]; omega))
      have r0 : wr.cell? ⟨w.heap.size, 0, none⟩ = some (.string ⟨#[]⟩) := hfr.res.cell (i := 0) (by omega)
      have r1 : wr.cell? ⟨w.heap.size, 1, none⟩ = some (.int .i64 0) := hfr.res.cell (i := 1) (by omega)
      have f0 := hfr.res.frozen 0
      have f1 := hfr.res.frozen 1
      obtain ⟨st, hst⟩ : ∃ st, st = (l.take k).foldl (fStep code) (([], 0), false) := ⟨_, rfl⟩
      rw [← hst] at hfr ⊢
      rw [hfin.out] at hst
      have HST := Lib.hid hst
      clear hst
      obtain ⟨⟨s1, s2⟩, s3⟩ := st
      have e0 : wr.cell? ⟨w.heap.size + 1, 0, none⟩ = some (.string ⟨s1.toArray⟩) := hfr.bst.cell (i := 0) (by omega)
      have e1 : wr.cell? ⟨w.heap.size + 1, 1, none⟩ = some (.int .i64 s2) := hfr.bst.cell (i := 1) (by omega)
      go_wp2_with fail
      have q0 : ((wr.setCell ⟨w.heap.size, 0, none⟩ (.string ⟨s1.toArray⟩)).setCell ⟨w.heap.size, 1, none⟩ (.int .i64 s2)).cell? ⟨w.heap.size, 0, none⟩ = some (.string ⟨s1.toArray⟩) :=
        ((hfr.res.set 0 (.string ⟨s1.toArray⟩)).set 1 (.int .i64 s2)).cell (i := 0) (by omega)
      have q1 : ((wr.setCell ⟨w.heap.size, 0, none⟩ (.string ⟨s1.toArray⟩)).setCell ⟨w.heap.size, 1, none⟩ (.int .i64 s2)).cell? ⟨w.heap.size, 1, none⟩ = some (.int .i64 s2) :=
        ((hfr.res.set 0 (.string ⟨s1.toArray⟩)).set 1 (.int .i64 s2)).cell (i := 1) (by omega)
      refine bodyPost_ret (v := .tuple #[.agg #[.string ⟨s1.toArray⟩, .int .i64 s2], .bool s3]) (by simp [results, Try.results11, go_sem, q0, q1]) rfl ⟨?_, (hfr.bel.setCell (p := ⟨w.heap.size, 0, none⟩) (by simp) _).setCell (p := ⟨w.heap.size, 1, none⟩) (by simp) _⟩
      have := HST.out
      rw [findL, ← this]
end Go.Proofs.Ytklmgogppljolaa
