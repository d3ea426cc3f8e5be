/- The contract of slices.IndexFunc with the closure of AccountFinds. -/
import Derived.Test.YtklmgogppljolaaFindP
namespace Go.Proofs.Ytklmgogppljolaa
open Go.RowKit

theorem same_any (a : Acc) (at_ : List UInt8) (ba : Nat) (w : World) (h : w.cell? ⟨ba, 0, none⟩ = some (.string ⟨at_.toArray⟩)) (hlt : ba < w.heap.size) :
    Calls Try.prog 19 #[.agg #[.string ⟨a.1.toArray⟩, .int .i64 a.2], .pointer (some ⟨ba, 0, none⟩)] w fun e w' => e = .returned (.bool (a.1 == at_)) ∧ Below w.heap.size w w' := by
  obtain ⟨a1, a2⟩ := a
  have hne : ¬ (ba = w.heap.size) := by omega
  go_enter Try.func19, Try.ntmps19
  go_wp2_with fail
  go_ret
  exact ⟨rfl, (Below.refl _ _).alloc (Nat.le_refl _) _⟩
def IdxP (l : List Acc) (at_ : List UInt8) (i : Int) : Prop := (i = -1 ∧ ∀ x ∈ l, x.1 ≠ at_) ∨ ∃ k : Nat, i = (k : Int) ∧ k < l.length ∧ (accAt l k).1 = at_
set_option maxHeartbeats 1000000 in
set_option maxRecDepth 100000 in
theorem index_any (A : Option Addr) (n c : Nat) (l : List Acc) (at_ : List UInt8) (ba : Nat) (w : World) (h : Accs w A n c l) (hb : w.cell? ⟨ba, 0, none⟩ = some (.string ⟨at_.toArray⟩)) (hlt : ba < w.heap.size) :
    Calls Try.prog 18 #[.slice A n c, .func (.func 19) #[] #[.pointer (some ⟨ba, 0, none⟩)]] w fun e w' => ∃ i : Int, e = .returned (.int .i64 i) ∧ IdxP l at_ i ∧ Below w.heap.size w w' := by
  have htop := h.top
  have hcap := h.cap
  have hlen := Lib.hid h.len
  have HA := Lib.hid h
  have HBA := Lib.hid hb
  have HLT := Lib.hid hlt
  clear h hb hlt
  go_enter Try.func18, Try.ntmps18
  go_wp2_with fail
  go_loopw [8] (fun i wr => ∃ k : Nat, k ≤ n ∧ i = .int .i64 (k : Int) ∧ Hid (∀ j, j < k → (accAt l j).1 ≠ at_) ∧ Hid (Below w.heap.size w wr)) (fun i _ => n - (intOf i).toNat)
  case atStart => exact ⟨0, by omega, rfl, Lib.hid (fun j hj => by omega), Lib.hid (Below.refl _ _)⟩
  case round =>
    obtain ⟨k, hk, rfl, hno, hbw⟩ := hrel
    by_cases hlt : k < n
    · obtain ⟨b, o, rfl, hbl, hc⟩ := HA.out.at_ (by omega)
      obtain ⟨c1, c2⟩ := (HA.out).cells hbw.out hlt
      clear hc
      have HS := Lib.hid (fun a => same_any a at_ ba wr ((hbw.out.cell (p := ⟨ba, 0, none⟩) HLT.out).trans HBA.out) (Nat.lt_of_lt_of_le HLT.out hbw.out.size))
      obtain ⟨x, hx⟩ : ∃ x, accAt l k = x := ⟨_, rfl⟩
      rw [hx] at c1 c2
      have HX := Lib.hid hx
      clear hx
      obtain ⟨x1, x2⟩ := x
      cases he : x1 == at_
      · have HE := Lib.hid he
        clear he
        go_wp2_with fail
        refine (HS.out (x1, x2)).mono ?_
        rintro e w2 ⟨rfl, hb2⟩
        rw [show (((x1, x2) : Acc).1 == at_) = false from HE.out]
        go_wp2_with fail
        go_roundw
        case rel =>
          refine ⟨k + 1, by omega, by go_num, Lib.hid (fun j hj => ?_), Lib.hid (hbw.out.trans (hb2.mono hbw.out.size))⟩
          rcases Nat.eq_or_lt_of_le (Nat.le_of_lt_succ hj) with rfl | h2
          · rw [HX.out]; exact beq_eq_false_iff_ne.1 HE.out
          · exact hno.out j h2
        case measure => simp [intOf]; omega
      · have HE := Lib.hid he
        clear he
        go_wp2_with fail
        refine (HS.out (x1, x2)).mono ?_
        rintro e w2 ⟨rfl, hb2⟩
        rw [show (((x1, x2) : Acc).1 == at_) = true from HE.out]
        go_wp2_with fail
        go_ret
        exact ⟨_, rfl, .inr ⟨k, rfl, by rw [hlen.out]; exact hlt, by rw [HX.out]; exact eq_of_beq HE.out⟩, hbw.out.trans (hb2.mono hbw.out.size)⟩
    · go_wp2_with fail
      go_ret
      refine ⟨_, rfl, .inl ⟨rfl, fun x hx => ?_⟩, hbw.out⟩
      obtain ⟨j, hj, rfl⟩ := mem_at hx
      exact hno.out j (by have := hlen.out; omega)
end Go.Proofs.Ytklmgogppljolaa
