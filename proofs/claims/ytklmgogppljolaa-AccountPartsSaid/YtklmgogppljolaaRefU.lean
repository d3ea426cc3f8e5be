/- Contracts of the reference's Great and Under. -/
import Derived.Test.YtklmgogppljolaaOrder
namespace Go.Proofs.Ytklmgogppljolaa
open Go.RowKit

theorem ext_take (c : List UInt8) (n : Nat) : ((⟨c.toArray⟩ : ByteArray).extract 0 n).toList = c.take n := by
  rw [ByteArray.toList_eq, ByteArray.data_extract]
  simp
theorem ba_get (c : List UInt8) (n : Nat) (h : n < c.length) : (⟨c.toArray⟩ : ByteArray)[n]'h = c[n] := rfl
theorem rUnder_walk (c p : List UInt8) (w : World) : Calls Try.prog 26 #[.string ⟨c.toArray⟩, .string ⟨p.toArray⟩] w fun e w' => e = .returned (.bool (undB c p)) ∧ w = w' := by
  by_cases e1 : c = p
  · have hv := Lib.hid (show true = undB c p from ((und_iff c p).2 (.inl e1)).symm)
    have q1 : (c == p) = true := by simpa using e1
    clear e1
    go_enter Try.func26, Try.ntmps26
    go_wp2_with fail
    go_ret
    exact ⟨ret_bool hv.out, rfl⟩
  have q1 : (c == p) = false := by simpa using e1
  have hno : undB c p = true → ∃ r, c = p ++ 46 :: r := fun h => ((und_iff c p).1 h).resolve_left e1
  by_cases h1 : p.length < c.length
  · have d1 : decide ((p.length : Int) < (c.length : Int)) = true := by simp; omega
    by_cases e2 : c.take p.length = p
    · have q2 : (((⟨c.toArray⟩ : ByteArray).extract 0 p.length).toList == p) = true := by rw [ext_take]; simpa using e2
      have hcp : c = p ++ c[p.length] :: c.drop (p.length + 1) := by
        conv => lhs; rw [← List.take_append_drop p.length c, e2, List.drop_eq_getElem_cons h1]
      have hv := Lib.hid (show (((⟨c.toArray⟩ : ByteArray)[p.length]'h1).toNat == (46 : Int)) = undB c p by
        rw [ba_get, Bool.eq_iff_iff, und_iff]
        constructor
        · intro h
          have h : c[p.length] = 46 := UInt8.toNat_inj.1 (by have := beq_iff_eq.1 h; rw [show (46 : UInt8).toNat = 46 from rfl]; omega)
          exact .inr ⟨c.drop (p.length + 1), by rw [← h]; exact hcp⟩
        · rintro (h | ⟨r, h⟩)
          · exact absurd h e1
          · have h2 : c[p.length] = 46 := by
              have h3 := congrArg (fun l => l[p.length]?) h
              simpa [h1] using h3
            rw [h2]; rfl)
      clear e1 e2 hno hcp
      go_enter Try.func26, Try.ntmps26
      go_wp2_with fail
      go_ret
      exact ⟨ret_bool hv.out, rfl⟩
    · have q2 : (((⟨c.toArray⟩ : ByteArray).extract 0 p.length).toList == p) = false := by rw [ext_take]; simpa using e2
      have hv := Lib.hid (show false = undB c p by
        cases h : undB c p
        · rfl
        · obtain ⟨r, hr⟩ := hno h
          exact absurd (by rw [hr, List.take_left]) e2)
      clear e1 e2 hno
      go_enter Try.func26, Try.ntmps26
      go_wp2_with fail
      go_ret
      exact ⟨ret_bool hv.out, rfl⟩
  · have d1 : decide ((p.length : Int) < (c.length : Int)) = false := by simp; omega
    have hv := Lib.hid (show false = undB c p by
      cases h : undB c p
      · rfl
      · obtain ⟨r, hr⟩ := hno h
        have := congrArg List.length hr
        simp at this
        omega)
    clear e1 hno
    go_enter Try.func26, Try.ntmps26
    go_wp2_with fail
    go_ret
    exact ⟨ret_bool hv.out, rfl⟩
def greatB (l : List Acc) : Bool := l.any (fun a => decide (120 < a.1.length)) || (decide (12 < l.length) && decide (l.length ≤ 256)) || decide (259 < l.length)
theorem any_snoc (l : List Acc) (k : Nat) (h : k < l.length) : (l.take (k + 1)).any (fun a => decide (120 < a.1.length)) = ((l.take k).any (fun a => decide (120 < a.1.length)) || decide (120 < (accAt l k).1.length)) := by
  rw [List.take_succ_eq_append_getElem h, List.any_append, accAt, List.getD_eq_getElem?_getD, List.getElem?_eq_getElem h]
  simp
set_option maxHeartbeats 1000000 in
theorem Great_any (A : Option Addr) (n c : Nat) (l : List Acc) (w : World) (h : Accs w A n c l) (hn : ∀ a ∈ l, a.1.length ≤ 9223372036854775807) : Calls Try.prog 8 #[.slice A n c] w fun e w' => e = .returned (.bool (greatB l)) ∧ w = w' := by
  have htop := h.top
  have hcap := h.cap
  have hlen := Lib.hid h.len
  have HA := Lib.hid h
  have hn := Lib.hid hn
  have hg := Lib.hid (show greatB l = (l.any (fun a => decide (120 < a.1.length)) || (decide (12 < l.length) && decide (l.length ≤ 256)) || decide (259 < l.length)) from rfl)
  clear h
  go_enter Try.func8, Try.ntmps8
  go_wp2_with fail
  go_loop [2, 3] (fun r i => ∃ k : Nat, k ≤ n ∧ r = .bool false ∧ i = .int .i64 (k : Int) ∧ Hid ((l.take k).any (fun a => decide (120 < a.1.length)) = false)) (fun _ i => n - (intOf i).toNat)
  case atStart => exact ⟨0, by omega, rfl, rfl, Lib.hid rfl⟩
  case round =>
    obtain ⟨k, hk, rfl, rfl, ha⟩ := hrel
    by_cases hlt : k < n
    · have hs := Lib.hid (any_snoc l k (by rw [hlen.out]; exact hlt))
      obtain ⟨b, o, rfl, hb, hc⟩ := HA.out.at_ (by omega)
      have c1 : w.cell? ⟨b, o + k * 2, none⟩ = some (.string ⟨(accAt l k).1.toArray⟩) := (hc k hlt).1
      clear hc
      have hlk : (accAt l k).1.length ≤ 9223372036854775807 := hn.out _ (by rw [accAt, List.getD_eq_getElem?_getD, List.getElem?_eq_getElem (by rw [hlen.out]; exact hlt)]; exact List.getElem_mem _)
      have hmem := Lib.hid (show accAt l k ∈ l by rw [accAt, List.getD_eq_getElem?_getD, List.getElem?_eq_getElem (by rw [hlen.out]; exact hlt)]; exact List.getElem_mem _)
      generalize accAt l k = a at *
      by_cases hl : 120 < a.1.length
      · have hd : decide (120 < (a.1.length : Int)) = true := by simp; omega
        have hv := Lib.hid (show true = greatB l by
          rw [hg.out, List.any_eq_true.2 ⟨a, hmem.out, decide_eq_true hl⟩]; rfl)
        go_wp2_with fail
        go_ret
        exact ⟨ret_bool hv.out, rfl⟩
      · have hd : decide (120 < (a.1.length : Int)) = false := by simp; omega
        have hz := Lib.hid (show (l.take (k + 1)).any (fun a => decide (120 < a.1.length)) = false by rw [hs.out, ha.out, decide_eq_false hl]; rfl)
        go_wp2_with fail
        go_round
        case rel => exact ⟨k + 1, by omega, rfl, by go_num, hz⟩
        case measure => simp [intOf]; omega
    · have hfin : l.any (fun a => decide (120 < a.1.length)) = false := by
        have := ha.out
        rwa [List.take_of_length_le (by rw [hlen.out]; omega)] at this
      have hv := hg.out
      rw [hfin, hlen.out, Bool.false_or] at hv
      have HV := Lib.hid hv
      clear hfin hv hg
      by_cases x1 : 12 < n
      · have d1 : decide (12 < (n : Int)) = true := by simp; omega
        by_cases x2 : n ≤ 256
        · have d2 : decide ((n : Int) ≤ 256) = true := by simp; omega
          go_wp2_with fail
          go_ret
          exact ⟨ret_bool (by rw [HV.out, decide_eq_true x1, decide_eq_true x2]; rfl), rfl⟩
        · have d2 : decide ((n : Int) ≤ 256) = false := by simp; omega
          go_wp2_with fail
          go_ret
          exact ⟨ret_bool (by rw [HV.out, decide_eq_true x1, decide_eq_false x2, Bool.and_false, Bool.false_or, Bool.eq_iff_iff]; simp; omega), rfl⟩
      · have d1 : decide (12 < (n : Int)) = false := by simp; omega
        go_wp2_with fail
        go_ret
        exact ⟨ret_bool (by rw [HV.out, decide_eq_false x1, Bool.false_and, Bool.false_or, Bool.eq_iff_iff]; simp; omega), rfl⟩
end Go.Proofs.Ytklmgogppljolaa
