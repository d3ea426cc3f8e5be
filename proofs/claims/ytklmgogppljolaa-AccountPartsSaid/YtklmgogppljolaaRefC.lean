/- The contract of the reference's Check. -/
import Derived.Test.YtklmgogppljolaaRefS
namespace Go.Proofs.Ytklmgogppljolaa
open Go.RowKit

theorem segs_mem : ∀ (l x : List UInt8), x ∈ segs l → x.length ≤ l.length
  | [], x, h => by simp [segs] at h; simp [h]
  | c :: r, x, h => by
    rw [segs] at h
    split at h
    · rcases List.mem_cons.1 h with rfl | h
      · simp
      · have := segs_mem r x h; simp; omega
    · split at h
      · simp at h; simp [h]
      · rename_i a t e
        rcases List.mem_cons.1 h with rfl | h
        · have := segs_mem r a (by rw [e]; simp); simp; omega
        · have := segs_mem r x (by rw [e]; simp [h]); simp; omega
theorem all_snoc (l : List (List UInt8)) (k : Nat) (h : k < l.length) : (l.take (k + 1)).all nameB = ((l.take k).all nameB && nameB (l.getD k [])) := by
  rw [List.take_succ_eq_append_getElem h, List.all_append, List.getD_eq_getElem?_getD, List.getElem?_eq_getElem h]
  simp
set_option maxHeartbeats 1000000 in
set_option maxRecDepth 100000 in
theorem rCheck_any (s : List UInt8) (w : World) (hs : s.length ≤ 4294967296) : Calls Try.prog 25 #[.string ⟨s.toArray⟩] w fun e w' => e = .returned (.int .i64 (chk s)) ∧ Below w.heap.size w w' := by
  have hc := Lib.hid (show chk s = if codeB s then 0 else 3 from rfl)
  have hcb := Lib.hid (show codeB s = (decide ((segs s).length ≤ 6) && (segs s).all nameB) from rfl)
  have HSEG := Lib.hid (fun w => rSegs_any s w hs)
  have HMEM := Lib.hid (segs_mem s)
  have hsl := Lib.hid hs
  have HSL := Lib.hid (segs_len s)
  clear hs
  go_enter Try.func25, Try.ntmps25
  go_wp2_with fail
  refine (HSEG.out _).mono ?_
  rintro e w1 ⟨v, rfl, hown, hb1⟩
  generalize segs s = l at *
  obtain ⟨A, c, rfl, hlc, hct, hcell⟩ := hown.cells
  obtain ⟨n, hn⟩ : ∃ n, n = l.length := ⟨_, rfl⟩
  rw [← hn] at hlc hcell ⊢
  have HN := Lib.hid hn
  have HCELL := Lib.hid hcell
  clear hn hcell hown
  go_wp2_with fail
  go_loop [4] (fun i => ∃ k : Nat, k ≤ n ∧ i = .int .i64 (k : Int) ∧ Hid ((l.take k).all nameB = true)) (fun i => n - (intOf i).toNat)
  case atStart => exact ⟨0, by omega, rfl, Lib.hid rfl⟩
  case round =>
    obtain ⟨k, hk, rfl, ha⟩ := hrel
    by_cases hlt : k < n
    · have hsn := Lib.hid (all_snoc l k (by rw [← HN.out]; exact hlt))
      obtain ⟨g, rfl, hg, hcell⟩ := HCELL.out (by omega)
      have h1 := hcell k hlt
      clear hcell
      have hmem := Lib.hid (show l.getD k [] ∈ l by rw [List.getD_eq_getElem?_getD, List.getElem?_eq_getElem (by rw [← HN.out]; exact hlt)]; exact List.getElem_mem _)
      generalize l.getD k [] = x at *
      have hnm := Lib.hid (fun w => rname_any ⟨x.toArray⟩ w (by have := HMEM.out x hmem.out; have := hsl.out; unfold maxLen; show x.length ≤ _; omega))
      cases hx : nameB x
      · have hv := Lib.hid (show (3 : Int) = chk s by
          rw [hc.out, hcb.out, show l.all nameB = false from List.all_eq_false.2 ⟨x, hmem.out, by rw [hx]; decide⟩, Bool.and_false]; rfl)
        have HX := Lib.hid hx
        clear hx
        go_wp2_with fail
        refine (hnm.out _).mono ?_
        rintro e w2 ⟨rfl, rfl⟩
        rw [show nameB (ByteArray.mk x.toArray).data.toList = false from HX.out]
        go_wp2_with fail
        go_ret
        exact ⟨congrArg (fun z => Ending.returned (.int .i64 z)) hv.out, hb1⟩
      · have HX := Lib.hid hx
        clear hx
        go_wp2_with fail
        refine (hnm.out _).mono ?_
        rintro e w2 ⟨rfl, rfl⟩
        rw [show nameB (ByteArray.mk x.toArray).data.toList = true from HX.out]
        go_wp2_with fail
        go_round
        case rel => exact ⟨k + 1, by omega, by go_num, Lib.hid (by rw [hsn.out, ha.out, HX.out]; rfl)⟩
        case measure => simp [intOf]; omega
    · have hfin := Lib.hid (show l.all nameB = true by
        have := ha.out
        rwa [List.take_of_length_le (by rw [← HN.out]; omega)] at this)
      by_cases h6 : 6 < n
      · have hd : decide (6 < (n : Int)) = true := by simp; omega
        have hv := Lib.hid (show (3 : Int) = chk s by rw [hc.out, hcb.out, ← HN.out, decide_eq_false (by omega)]; rfl)
        go_wp2_with fail
        go_ret
        exact ⟨congrArg (fun z => Ending.returned (.int .i64 z)) hv.out, hb1⟩
      · have hd : decide (6 < (n : Int)) = false := by simp; omega
        have hv := Lib.hid (show (0 : Int) = chk s by rw [hc.out, hcb.out, ← HN.out, decide_eq_true (by omega), hfin.out]; rfl)
        go_wp2_with fail
        go_ret
        exact ⟨congrArg (fun z => Ending.returned (.int .i64 z)) hv.out, hb1⟩
end Go.Proofs.Ytklmgogppljolaa
