/- Slices of strings; contracts of great and its callees. -/
import Derived.Test.YtlgpdmejnabinaaAwake
namespace Go.Proofs.Ytlgpdmejnabinaa
open Go.RowKit

/-- The slice value '.slice A n c' reads as the list l in w. -/
structure Strs (w : World) (A : Option Addr) (n c : Nat) (l : List ByteArray) : Prop where
  len : l.length = n
  cap : n ≤ c
  top : n ≤ 9223372036854775807
  at_ : 0 < n → ∃ b o, A = some ⟨b, o, none⟩ ∧ b < w.heap.size ∧ ∀ k, k < n → w.cell? ⟨b, o + k, none⟩ = some (.string (l.getD k ByteArray.empty))
theorem Strs.below {w w' : World} {A : Option Addr} {n c : Nat} {l : List ByteArray} (h : Strs w A n c l) (hb : Below w.heap.size w w') : Strs w' A n c l :=
  ⟨h.len, h.cap, h.top, fun h0 => by
    obtain ⟨b, o, e, hlt, hc⟩ := h.at_ h0
    exact ⟨b, o, e, Nat.lt_of_lt_of_le hlt hb.size, fun k hk => by rw [hb.cell (by simpa using hlt)]; exact hc k hk⟩⟩

def big (s : ByteArray) : Bool := decide (200 < s.size)
theorem dec_int (a b : Nat) : decide ((a : Int) < (b : Int)) = decide (a < b) := by simp
set_option maxRecDepth 100000 in
theorem great1_any (s : ByteArray) (w : World) (_hs : s.size ≤ 9223372036854775807) : Calls Try.prog 36 #[.string s] w fun e w' => e = .returned (.bool (big s)) ∧ w = w' := by
  go_enter Try.func36, Try.ntmps36
  go_wp2
  go_ret
  exact ⟨congrArg (fun b => Ending.returned (.bool b)) (dec_int 200 s.size), rfl⟩
/-- an index that says whether q -/
def IdxPost (q : Bool) (w : World) (e : Ending) (w' : World) : Prop := ∃ i : Int, e = .returned (.int .i64 i) ∧ decide (0 ≤ i) = q ∧ w = w'
theorem getD_mem (l : List ByteArray) (k : Nat) (h : k < l.length) : l.getD k ByteArray.empty ∈ l := by
  rw [List.getD_eq_getElem?_getD, List.getElem?_eq_getElem h]
  exact List.getElem_mem h
theorem any_take_succ (p : ByteArray → Bool) (l : List ByteArray) (k : Nat) (h : k < l.length) : (l.take (k + 1)).any p = ((l.take k).any p || p (l.getD k ByteArray.empty)) := by
  rw [List.take_succ_eq_append_getElem h, List.any_append]
  simp [List.getD_eq_getElem?_getD, h]
theorem any_of_take (p : ByteArray → Bool) (l : List ByteArray) (k : Nat) (h : (l.take k).any p = true) : l.any p = true := by
  rw [List.any_eq_true] at h ⊢
  obtain ⟨x, hx, hp⟩ := h
  exact ⟨x, List.mem_of_mem_take hx, hp⟩
set_option maxRecDepth 100000 in
theorem index36 (A : Option Addr) (n c : Nat) (l : List ByteArray) (w : World) (h : Strs w A n c l) (hl : ∀ s ∈ l, s.size ≤ 9223372036854775807) :
    Calls Try.prog 53 #[.slice A n c, .func (.func 36) #[] #[]] w (IdxPost (l.any big) w) := by
  have hn := h.top
  have hlen := Lib.hid h.len
  have HL := Lib.hid hl
  clear hl
  go_enter Try.func53, Try.ntmps53
  go_wp2_with fail
  go_loop [8] (fun i => ∃ k : Nat, k ≤ n ∧ i = .int .i64 (k : Int) ∧ Hid ((l.take k).any big = false)) (fun i => n - (intOf i).toNat)
  case atStart => exact ⟨0, by omega, rfl, rfl⟩
  case round =>
    obtain ⟨k, hk, rfl, hno⟩ := hrel
    by_cases hlt : k < n
    · obtain ⟨b, o, rfl, hb, hcell⟩ := h.at_ (by omega)
      have hc := hcell k hlt
      have hki : (k : Int) < (n : Int) := by omega
      have hsz := HL.out _ (getD_mem l k (by rw [hlen.out]; omega))
      have hstep := any_take_succ big l k (by rw [hlen.out]; omega)
      generalize hs : l.getD k ByteArray.empty = s at *
      have HS := Lib.hid (And.intro hs hstep)
      clear hs hstep hcell
      cases hbig : big s
      · go_wp2_with (go_at_call 36; refine (great1_any s _ hsz).mono ?_; rintro e w' ⟨rfl, rfl⟩)
        go_round
        case rel => exact ⟨k + 1, by omega, by go_num, by
          show _ = false
          rw [HS.out.2, hno.out, hbig]; rfl⟩
        case measure => simp [intOf]; omega
      · go_wp2_with (go_at_call 36; refine (great1_any s _ hsz).mono ?_; rintro e w' ⟨rfl, rfl⟩)
        go_ret
        exact ⟨_, rfl, by
          have : l.any big = true := any_of_take big l (k + 1) (by rw [HS.out.2, hbig]; simp)
          rw [this]; simp, rfl⟩
    · go_wp2_with fail
      go_ret
      exact ⟨_, rfl, by
        have : l.any big = false := by rw [← hno.out, List.take_of_length_le (by rw [hlen.out]; omega)]
        rw [this]; rfl, rfl⟩
theorem contains36 (A : Option Addr) (n c : Nat) (l : List ByteArray) (w : World) (h : Strs w A n c l) (hl : ∀ s ∈ l, s.size ≤ 9223372036854775807) :
    Calls Try.prog 35 #[.slice A n c, .func (.func 36) #[] #[]] w fun e w' => e = .returned (.bool (l.any big)) ∧ w = w' := by
  go_enter Try.func35, Try.ntmps35
  go_wp2_with fail
  refine (index36 A n c l w h hl).mono ?_
  rintro e w' ⟨i, rfl, hi, rfl⟩
  have HI := Lib.hid hi
  clear hi
  go_wp2_with fail
  go_ret
  exact ⟨congrArg (fun b => Ending.returned (.bool b)) HI.out, rfl⟩
def greatB (l : List ByteArray) : Bool := decide (12 < l.length) || l.any big
theorem great_any (A : Option Addr) (n c : Nat) (l : List ByteArray) (w : World) (h : Strs w A n c l) (hl : ∀ s ∈ l, s.size ≤ 9223372036854775807) :
    Calls Try.prog 11 #[.slice A n c] w fun e w' => e = .returned (.bool (greatB l)) ∧ w = w' := by
  have hn := h.top
  have hlen := Lib.hid h.len
  by_cases h12 : 12 < n
  · have hd : decide (12 < (n : Int)) = true := by simp; omega
    go_enter Try.func11, Try.ntmps11
    go_wp2_with fail
    go_ret
    exact ⟨by rw [greatB, hlen.out]; simp [h12], rfl⟩
  · have hd : decide (12 < (n : Int)) = false := by simp; omega
    go_enter Try.func11, Try.ntmps11
    go_wp2_with fail
    refine (contains36 A n c l w h hl).mono ?_
    rintro e w' ⟨rfl, rfl⟩
    go_wp2_with fail
    go_ret
    exact ⟨by rw [greatB, hlen.out]; simp [h12], rfl⟩
end Go.Proofs.Ytlgpdmejnabinaa
