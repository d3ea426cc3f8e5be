/- Contracts of the reference's Hex and Chain; of many. -/
import Derived.Test.YtlgpdmejnabinaaRefSum
import Derived.Test.YtlgpdmejnabinaaChain
namespace Go.Proofs.Ytlgpdmejnabinaa
open Go.RowKit

set_option maxHeartbeats 2000000 in
set_option maxRecDepth 100000 in
theorem refHex_any (s : ByteArray) (w : World) (hs : s.size ≤ 1000000) :
    Calls Try.prog 20 #[.string s] w fun e w' => e = .returned (.string ⟨(hexL s.data.toList).toArray⟩) ∧ Below w.heap.size w w' := by
  go_enter Try.func20, Try.ntmps20
  go_wp2_with fail
  go_loopw [3, 4] (fun v i wr => ∃ (k : Nat), k ≤ s.size ∧ i = .int .i64 (k : Int) ∧ OwnB w.heap.size wr v (hexOf s.data.toList k) ∧ Below w.heap.size w wr) (fun _ i _ => s.size - (intOf i).toNat)
  case atStart => exact ⟨0, by omega, rfl, OwnB.nil _ _, Below.refl _ _⟩
  case round =>
    obtain ⟨k, hk, rfl, hown, hbw⟩ := hrel
    by_cases hlk : k < s.size
    · have hd : decide ((k : Int) < (s.size : Int)) = true := by simp; omega
      have hki : (k : Int) < (s.size : Int) := by omega
      obtain ⟨p, hp⟩ : ∃ p : Nat, p = s[k].toNat / 16 := ⟨_, rfl⟩
      obtain ⟨q, hq⟩ : ∃ q : Nat, q = s[k].toNat % 16 := ⟨_, rfl⟩
      have hb := s[k].toNat_lt
      have hp1 : (s[k].toNat : Int) / 16 = (p : Int) := by omega
      have hq1 : bits .and .u8 (s[k].toNat : Int) 15 = (q : Int) := by
        rw [show (15 : Int) = ((15 : Nat) : Int) from rfl, u8_and_nat _ _ (by omega) (by omega), nat_mask4, hq]
      have ip := index_digit p (by omega)
      have iq := index_digit q (by omega)
      have hol := hexOf_len s.data.toList k
      generalize ho : hexOf s.data.toList k = O at *
      have HX := Lib.hid (And.intro ho (And.intro hol (And.intro hp hq)))
      clear ho hol hp hq hb
      go_wp2_with fail
      go_region_law (refine step_append_bytes rfl (.tmp 11) (.tmp 22) rfl w.heap.size u3 O wr.drew [digitOf p, digitOf q] rfl hown rfl hbw.size (by have := HX.out.2.1; simp; omega) ?_; intro v' w5 hown' hbw')
      all_goals go_wp2_with fail
      all_goals
        refine ⟨⟨k + 1, by omega, by go_num, ?_, hbw.drew.trans hbw'⟩, by simp [intOf]; omega⟩
        rw [hexOf, HX.out.1, byteArray_getD s k hlk, ← HX.out.2.2.1, ← HX.out.2.2.2]
        exact hown'
    · have hcv := conv_own _ _ _ _ hown
      go_wp2_with fail
      go_ret
      refine ⟨?_, hbw⟩
      have e : strOfNums (hexOf s.data.toList k) = ⟨(hexL s.data.toList).toArray⟩ := by
        obtain rfl : k = s.size := by omega
        rfl
      exact congrArg (fun b => Ending.returned (.string b)) e
theorem refSum_dig (s : ByteArray) (w : World) (hs : s.size ≤ 140737488000000) :
    Calls Try.prog 19 #[.string s] w fun e w' => e = .returned (.string (dig s)) ∧ Below w.heap.size w w' := refSum_any s w hs
set_option maxHeartbeats 1000000 in
set_option maxRecDepth 100000 in
theorem refChain_any (s : ByteArray) (A : Option Addr) (n c : Nat) (l : List ByteArray) (w : World) (h : Strs w A n c l) (hs : s.size ≤ 1000000) (hl : ∀ x ∈ l, x.size ≤ 1000000) (hn : n ≤ 10000) :
    Calls Try.prog 18 #[.string s, .slice A n c] w (RetS (chainL s l) 0 w) := by
  have hlen := Lib.hid h.len
  have HL := Lib.hid hl
  clear hl
  have hd : decide (10000 < (n : Int)) = false := by simp; omega
  go_enter Try.func18, Try.ntmps18
  go_wp2_with fail
  go_loopw [0, 6, 7] (fun t v i wr => ∃ (k : Nat) (q : ByteArray) (O : List ByteArray), k ≤ n ∧ i = .int .i64 (k : Int) ∧ t = .string q ∧ Hid (chainTo s l k = (q, O)) ∧ OwnS w.heap.size wr v O ∧ Below w.heap.size w wr) (fun _ _ i _ => n - (intOf i).toNat)
  case atStart => exact ⟨0, s, [], by omega, rfl, rfl, rfl, OwnS.nil _ _, Below.refl _ _⟩
  case round =>
    obtain ⟨k, q, O, hk, rfl, rfl, HQ, hown, hbw⟩ := hrel
    by_cases hlt : k < n
    · obtain ⟨b, o, rfl, hb, hcell⟩ := (h.below hbw).at_ (by omega)
      have hc := hcell k hlt
      have hki : (k : Int) < (n : Int) := by omega
      have hdk : decide ((k : Int) < (n : Int)) = true := by simp; omega
      have hsz := HL.out _ (getD_mem l k (by rw [hlen.out]; omega))
      have hqs : q.size ≤ 1000000 := by have := chainTo_size s l k hs; rw [HQ.out] at this; exact this
      have hOl : O.length ≤ 10000 := by have := chainTo_len s l k; rw [HQ.out] at this; simp at this; omega
      generalize hx : l.getD k ByteArray.empty = x at *
      have HX := Lib.hid hx
      clear hx hcell
      go_wp2_with fail
      refine (refSum_dig (q ++ x) _ (by rw [append_size]; omega)).mono ?_
      rintro e w1 ⟨rfl, hb1⟩
      have hown1 := hown.below hb1
      have hbw1 : Below w.heap.size w w1 := hbw.trans (hb1.mono hbw.size)
      clear hown hb1
      go_wp2_with (at_builtin; go_must (refine wp_append_strs rfl (.tmp 24) (.tmp 26) rfl w.heap.size _ O w1 [dig (q ++ x)] rfl hown1 rfl hbw1.size (by simp; omega) ?_); intro v' w5 hown' hbw')
      go_roundw
      case rel =>
        refine ⟨k + 1, _, _, by omega, by go_num, rfl, ?_, hown', hbw1.trans hbw'⟩
        show chainTo s l (k + 1) = _
        rw [chainTo, HQ.out, HX.out]
      case measure => simp [intOf]; omega
    · go_wp2_with fail
      go_ret2
      refine ⟨_, rfl, ?_, hbw⟩
      have : chainL s l = O := by
        rw [chainL, hlen.out, show n = k by omega, HQ.out]
      rw [this]
      exact hown
theorem refChain_many (s : ByteArray) (A : Option Addr) (n c : Nat) (w : World) (hn : 10000 < n) (hm : n ≤ 9223372036854775807) :
    Calls Try.prog 18 #[.string s, .slice A n c] w (RetS [] 4 w) := by
  have hd : decide (10000 < (n : Int)) = true := by simp; omega
  go_enter Try.func18, Try.ntmps18
  go_wp2_with fail
  go_ret2
  exact ⟨_, rfl, OwnS.nil _ _, Below.refl _ _⟩
def filled (s : ByteArray) : Bool := !s.toList.isEmpty
set_option maxRecDepth 100000 in
theorem many1_any (s : ByteArray) (w : World) (_hs : s.size ≤ 9223372036854775807) : Calls Try.prog 41 #[.string s] w fun e w' => e = .returned (.bool (filled s)) ∧ w = w' := by
  go_enter Try.func41, Try.ntmps41
  go_wp2
  go_ret
  exact ⟨rfl, rfl⟩
set_option maxRecDepth 100000 in
theorem index41 (A : Option Addr) (n c : Nat) (l : List ByteArray) (w : World) (h : Strs w A n c l) (hl : ∀ s ∈ l, s.size ≤ 9223372036854775807) :
    Calls Try.prog 53 #[.slice A n c, .func (.func 41) #[] #[]] w (IdxPost (l.any filled) w) := by
  have hn := h.top
  have hlen := Lib.hid h.len
  have HL := Lib.hid hl
  clear hl
  go_enter Try.func53, Try.ntmps53
  go_wp2_with fail
  go_loop [8] (fun i => ∃ k : Nat, k ≤ n ∧ i = .int .i64 (k : Int) ∧ Hid ((l.take k).any filled = false)) (fun i => n - (intOf i).toNat)
  case atStart => exact ⟨0, by omega, rfl, rfl⟩
  case round =>
    obtain ⟨k, hk, rfl, hno⟩ := hrel
    by_cases hlt : k < n
    · obtain ⟨b, o, rfl, hb, hcell⟩ := h.at_ (by omega)
      have hc := hcell k hlt
      have hki : (k : Int) < (n : Int) := by omega
      have hsz := HL.out _ (getD_mem l k (by rw [hlen.out]; omega))
      have hstep := any_take_succ filled l k (by rw [hlen.out]; omega)
      generalize hs : l.getD k ByteArray.empty = s at *
      have HS := Lib.hid (And.intro hs hstep)
      clear hs hstep hcell
      cases hbig : filled s
      · go_wp2_with (go_at_call 41; refine (many1_any s _ hsz).mono ?_; rintro e w' ⟨rfl, rfl⟩)
        go_round
        case rel => exact ⟨k + 1, by omega, by go_num, by
          show _ = false
          rw [HS.out.2, hno.out, hbig]; rfl⟩
        case measure => simp [intOf]; omega
      · go_wp2_with (go_at_call 41; refine (many1_any s _ hsz).mono ?_; rintro e w' ⟨rfl, rfl⟩)
        go_ret
        exact ⟨_, rfl, by
          have : l.any filled = true := any_of_take filled l (k + 1) (by rw [HS.out.2, hbig]; simp)
          rw [this]; simp, rfl⟩
    · go_wp2_with fail
      go_ret
      exact ⟨_, rfl, by
        have : l.any filled = false := by rw [← hno.out, List.take_of_length_le (by rw [hlen.out]; omega)]
        rw [this]; rfl, rfl⟩
theorem contains41 (A : Option Addr) (n c : Nat) (l : List ByteArray) (w : World) (h : Strs w A n c l) (hl : ∀ s ∈ l, s.size ≤ 9223372036854775807) :
    Calls Try.prog 35 #[.slice A n c, .func (.func 41) #[] #[]] w fun e w' => e = .returned (.bool (l.any filled)) ∧ w = w' := by
  go_enter Try.func35, Try.ntmps35
  go_wp2_with fail
  refine (index41 A n c l w h hl).mono ?_
  rintro e w' ⟨i, rfl, hi, rfl⟩
  have HI := Lib.hid hi
  clear hi
  go_wp2_with fail
  go_ret
  exact ⟨congrArg (fun b => Ending.returned (.bool b)) HI.out, rfl⟩
def manyB (l : List ByteArray) (limit : Nat) : Bool := greatB l && (decide (l.length ≤ limit) || decide (limit + 2 < l.length) || l.any filled)
theorem many_any (A : Option Addr) (n c : Nat) (l : List ByteArray) (w : World) (h : Strs w A n c l) (hl : ∀ s ∈ l, s.size ≤ 9223372036854775807) (limit : Nat) (hlim : limit ≤ 1000000) :
    Calls Try.prog 16 #[.slice A n c, .int .i64 (limit : Int)] w fun e w' => e = .returned (.bool (manyB l limit)) ∧ w = w' := by
  have hn := h.top
  have hlen := Lib.hid h.len
  have hq : manyB l limit = (greatB l && (decide (n ≤ limit) || decide (limit + 2 < n) || l.any filled)) := by rw [manyB, h.len]
  rw [hq]
  clear hq
  cases hg : greatB l
  · go_enter Try.func16, Try.ntmps16
    go_wp2_with fail
    refine (great_any A n c l w h hl).mono ?_
    rintro e w' ⟨rfl, rfl⟩
    rw [hg]
    go_wp2_with fail
    go_ret
    exact ⟨rfl, rfl⟩
  · by_cases h1 : n ≤ limit
    · have d1 : decide (n ≤ limit) = true := by simpa using h1
      have d1' : decide ((n : Int) ≤ (limit : Int)) = true := by simp; omega
      go_enter Try.func16, Try.ntmps16
      go_wp2_with fail
      refine (great_any A n c l w h hl).mono ?_
      rintro e w' ⟨rfl, rfl⟩
      rw [hg]
      go_wp2_with fail
      go_ret
      exact ⟨by simp [d1], rfl⟩
    · have d1 : decide (n ≤ limit) = false := by simp; omega
      have d1' : decide ((n : Int) ≤ (limit : Int)) = false := by simp; omega
      by_cases h2 : limit + 2 < n
      · have d2 : decide (limit + 2 < n) = true := by simpa using h2
        have d2' : decide ((limit : Int) + 2 < (n : Int)) = true := by simp; omega
        go_enter Try.func16, Try.ntmps16
        go_wp2_with fail
        refine (great_any A n c l w h hl).mono ?_
        rintro e w' ⟨rfl, rfl⟩
        rw [hg]
        go_wp2_with fail
        go_ret
        exact ⟨by simp [d2], rfl⟩
      · have d2 : decide (limit + 2 < n) = false := by simp; omega
        have d2' : decide ((limit : Int) + 2 < (n : Int)) = false := by simp; omega
        go_enter Try.func16, Try.ntmps16
        go_wp2_with fail
        refine (great_any A n c l w h hl).mono ?_
        rintro e w' ⟨rfl, rfl⟩
        rw [hg]
        go_wp2_with fail
        refine (contains41 A n c l w h hl).mono ?_
        rintro e w' ⟨rfl, rfl⟩
        go_wp2_with fail
        go_ret
        exact ⟨by simp [d1, d2], rfl⟩
theorem equal_any (A B : Option Addr) (n c m d : Nat) (l r : List ByteArray) (w : World) (h : Strs w A n c l) (k : Strs w B m d r) :
    Calls Try.prog 21 #[.slice A n c, .slice B m d] w fun e w' => e = .returned (.bool (decide (l = r))) ∧ Below w.heap.size w w' := by
  by_cases hnm : n = m
  · subst hnm
    rcases Nat.eq_zero_or_pos n with h0 | h0
    · subst h0
      refine (Try.slices_Equal_string_empty A B c 0 d w (by omega)).mono ?_
      rintro e w' ⟨rfl, rfl⟩
      have e1 : l = [] := List.eq_nil_of_length_eq_zero h.len
      have e2 : r = [] := List.eq_nil_of_length_eq_zero k.len
      subst e1 e2
      exact ⟨rfl, Below.refl _ _⟩
    · obtain ⟨b, o, rfl, _, hc⟩ := h.at_ h0
      obtain ⟨b', o', rfl, _, hc'⟩ := k.at_ h0
      refine (Try.slices_Equal_string b o n c b' o' n d l r w (by rw [h.len]; omega) (by rw [k.len]; omega) h.top k.top (fun j hj => hc j (by rw [← h.len]; exact hj)) (fun j hj => hc' j (by rw [← k.len]; exact hj))).mono ?_
      rintro e w' ⟨rfl, q, rfl⟩
      refine ⟨?_, below_drewN (Below.refl _ _) q⟩
      rw [List.take_of_length_le (by rw [h.len]; omega), List.take_of_length_le (by rw [k.len]; omega)]
  · refine (Try.slices_Equal_string_lens A B n c m d w hnm).mono ?_
    rintro e w' ⟨rfl, rfl⟩
    refine ⟨?_, Below.refl _ _⟩
    have : ¬ l = r := fun e => hnm (by rw [← h.len, ← k.len, e])
    simp [this]
end Go.Proofs.Ytlgpdmejnabinaa
