/- The contracts of the reference's Template, Expand, and of both Debit. -/
import Derived.Test.YtklmgogppljolaaRefJ
namespace Go.Proofs.Ytklmgogppljolaa
open Go.RowKit

theorem allT_snoc (l : List (List UInt8)) (k : Nat) (h : k < l.length) : (l.take (k + 1)).all tc = ((l.take k).all tc && tc (l.getD k [])) := by
  rw [List.take_succ_eq_append_getElem h, List.all_append, List.getD_eq_getElem?_getD, List.getElem?_eq_getElem h]
  simp
theorem tc_else {x : List UInt8} (h1 : ¬ x = [42]) (h2 : ¬ x = [43]) : tc x = nameB x := by simp [tc, h1, h2]
set_option maxHeartbeats 1000000 in
set_option maxRecDepth 100000 in
theorem rTemplate_any (s : List UInt8) (w : World) (hs : s.length ≤ 4294967296) : Calls Try.prog 43 #[.string ⟨s.toArray⟩] w fun e w' => e = .returned (.bool (codeT s)) ∧ Below w.heap.size w w' := by
  have hcb := Lib.hid (show codeT s = (decide ((segs s).length ≤ 6) && (segs s).all tc) from rfl)
  have HSEG := Lib.hid (fun w => rSegs_any s w hs)
  have HMEM := Lib.hid (segs_mem s)
  have hsl := Lib.hid hs
  clear hs
  go_enter Try.func43, Try.ntmps43
  go_wp2_with fail
  refine (HSEG.out _).mono ?_
  rintro e w1 ⟨v, rfl, hown, hb1⟩
  generalize segs s = l at *
  obtain ⟨A, c, rfl, hlc, hct, hcell⟩ := hown.cells
  obtain ⟨n, hn⟩ : ∃ n, n = l.length := ⟨_, rfl⟩
  rw [← hn] at hlc hcell ⊢
  have HN := Lib.hid hn
  have HCELL := Lib.hid hcell
  clear hn hcell hown
  go_wp2_with fail
  go_loop [4] (fun i => ∃ k : Nat, k ≤ n ∧ i = .int .i64 (k : Int) ∧ Hid ((l.take k).all tc = true)) (fun i => n - (intOf i).toNat)
  case atStart => exact ⟨0, by omega, rfl, Lib.hid rfl⟩
  case round =>
    obtain ⟨k, hk, rfl, ha⟩ := hrel
    by_cases hlt : k < n
    · have hsn := Lib.hid (allT_snoc l k (by rw [← HN.out]; exact hlt))
      obtain ⟨g, rfl, hg, hcell⟩ := HCELL.out (by omega)
      have h1 := hcell k hlt
      clear hcell
      have hmem := Lib.hid (show l.getD k [] ∈ l by rw [List.getD_eq_getElem?_getD, List.getElem?_eq_getElem (by rw [← HN.out]; exact hlt)]; exact List.getElem_mem _)
      generalize l.getD k [] = x at *
      by_cases e1 : x = [42]
      · subst e1
        go_wp2_with fail
        go_round
        case rel => exact ⟨k + 1, by omega, by go_num, Lib.hid (by rw [hsn.out, ha.out]; rfl)⟩
        case measure => simp [intOf]; omega
      by_cases e2 : x = [43]
      · subst e2
        go_wp2_with fail
        go_round
        case rel => exact ⟨k + 1, by omega, by go_num, Lib.hid (by rw [hsn.out, ha.out]; rfl)⟩
        case measure => simp [intOf]; omega
      have d1 : (x == [42]) = false := by simp [e1]
      have d2 : (x == [43]) = false := by simp [e2]
      have htc := Lib.hid (tc_else e1 e2)
      have hnm := Lib.hid (fun w => rname_any ⟨x.toArray⟩ w (by have := HMEM.out x hmem.out; have := hsl.out; unfold maxLen; show x.length ≤ _; omega))
      clear e1 e2
      cases hx : nameB x
      · have hv := Lib.hid (show false = codeT s by
          rw [hcb.out, show l.all tc = false from List.all_eq_false.2 ⟨x, hmem.out, by rw [htc.out, hx]; decide⟩, Bool.and_false])
        have HX := Lib.hid hx
        clear hx
        go_wp2_with fail
        refine (hnm.out _).mono ?_
        rintro e w2 ⟨rfl, rfl⟩
        rw [show nameB (ByteArray.mk x.toArray).data.toList = false from HX.out]
        go_wp2_with fail
        go_ret
        exact ⟨ret_bool hv.out, hb1⟩
      · have HX := Lib.hid hx
        clear hx
        go_wp2_with fail
        refine (hnm.out _).mono ?_
        rintro e w2 ⟨rfl, rfl⟩
        rw [show nameB (ByteArray.mk x.toArray).data.toList = true from HX.out]
        go_wp2_with fail
        go_round
        case rel => exact ⟨k + 1, by omega, by go_num, Lib.hid (by rw [hsn.out, ha.out, htc.out, HX.out]; rfl)⟩
        case measure => simp [intOf]; omega
    · have hfin := Lib.hid (show l.all tc = true by
        have := ha.out
        rwa [List.take_of_length_le (by rw [← HN.out]; omega)] at this)
      by_cases h6 : n ≤ 6
      · have hd : decide ((n : Int) ≤ 6) = true := by simp; omega
        have hv := Lib.hid (show true = codeT s by rw [hcb.out, ← HN.out, decide_eq_true h6, hfin.out]; rfl)
        go_wp2_with fail
        go_ret
        exact ⟨ret_bool hv.out, hb1⟩
      · have hd : decide ((n : Int) ≤ 6) = false := by simp; omega
        have hv := Lib.hid (show false = codeT s by rw [hcb.out, ← HN.out, decide_eq_false h6]; rfl)
        go_wp2_with fail
        go_ret
        exact ⟨ret_bool hv.out, hb1⟩
theorem OwnS.rowIs {B : Nat} {w : World} {v : Value} {l : List (List UInt8)} (h : OwnS B w v l) (h0 : 0 < l.length) : ∃ g c f, v = .slice (some ⟨g, 0, none⟩) l.length c ∧ B ≤ g ∧ l.length ≤ c ∧ c ≤ 9223372036854775807 ∧ w.rowIs g 9 c f ∧ ∀ k, k < l.length → f k = .string ⟨(l.getD k []).toArray⟩ := by
  rcases h.2 with ⟨rfl, h0'⟩ | ⟨g, cap, cur, rfl, hB, hg, hc, hm, hsz, htake⟩
  · omega
  · refine ⟨g, cap, fun i => cur[i]!, rfl, hB, hc, by unfold maxLen at hm; omega, ⟨cur, hg, by omega, fun i hi => ?_⟩, fun k hk => ?_⟩
    · have : i < cur.size := by omega
      simp [this]
    · have h1 : (cur.toList.take (l.length * 1))[k]? = (SVs l)[k]? := by rw [htake]
      rw [List.getElem?_take, if_pos (by omega)] at h1
      have hk' : k < cur.size := by omega
      have h2 : cur[k]! = cur[k] := by simp [hk']
      show cur[k]! = _
      rw [h2]
      have h3 : cur.toList[k]? = some cur[k] := by simp [hk']
      rw [h3] at h1
      have h4 : (SVs l)[k]? = some (.string ⟨(l.getD k []).toArray⟩) := by simp [SVs, hk]
      rw [h4] at h1
      exact Option.some.inj h1
/-- the place of a name is empty -/
def mis (one two x : List UInt8) : Bool := (x == [42] && one == []) || (x == [43] && two == [])
theorem mis_rep {one two x : List UInt8} (h : tc x = true) : (rep one two x).isEmpty = mis one two x := by
  by_cases e1 : x = [42]
  · subst e1; cases one <;> simp [rep, mis]
  by_cases e2 : x = [43]
  · subst e2; cases two <;> simp [rep, mis]
  rw [tc_else e1 e2] at h
  have : x ≠ [] := by rintro rfl; simp [nameB] at h
  cases x with
  | nil => exact absurd rfl this
  | cons a r =>
    have d1 : (a :: r == [42]) = false := by rw [beq_eq_false_iff_ne]; exact e1
    have d2 : (a :: r == [43]) = false := by rw [beq_eq_false_iff_ne]; exact e2
    rw [mis, d1, d2, rep, if_neg e1, if_neg e2]; rfl
theorem anyE_mis {t one two : List UInt8} (h : codeT t = true) : anyE t one two = (segs t).any (mis one two) := by
  unfold codeT at h
  have h2 := (Bool.and_eq_true_iff.1 h).2
  unfold anyE
  rw [Bool.eq_iff_iff, List.any_eq_true, List.any_eq_true]
  constructor
  · rintro ⟨x, hx, e⟩; exact ⟨x, hx, by rw [← mis_rep (List.all_eq_true.1 h2 x hx)]; exact e⟩
  · rintro ⟨x, hx, e⟩; exact ⟨x, hx, by rw [mis_rep (List.all_eq_true.1 h2 x hx)]; exact e⟩
theorem any_take_succ (p : List UInt8 → Bool) (l : List (List UInt8)) (k : Nat) (h : k < l.length) : (l.take (k + 1)).any p = ((l.take k).any p || p (l.getD k [])) := by
  rw [List.take_succ_eq_append_getElem h, List.any_append, List.getD_eq_getElem?_getD, List.getElem?_eq_getElem h]
  simp
theorem exS_len {t one two : List UInt8} (ht : t.length ≤ 120) (h1 : one.length ≤ 120) (h2 : two.length ≤ 120) : (Lib.join ((segs t).map (rep one two)) [46]).length ≤ 4294967296 := by
  have h := join_len [46] 120 ((segs t).map (rep one two)) (by
    intro x hx
    obtain ⟨y, hy, rfl⟩ := List.mem_map.1 hx
    exact rep_len h1 h2 (Nat.le_trans (seg_len_le t y hy) ht))
  have h3 := segs_len t
  rw [List.length_map] at h
  refine Nat.le_trans h (Nat.le_trans (Nat.mul_le_mul_right _ (Nat.le_trans h3 (Nat.add_le_add_right ht 1))) (by decide))
/-- where the second loop stands -/
structure XI (w : World) (g c n : Nat) (l : List (List UInt8)) (one two : List UInt8) (k : Nat) (wr : World) : Prop where
  row : ∃ f, wr.rowIs g 9 c f ∧ ∀ j, j < n → f j = .string ⟨(if j < k then rep one two (l.getD j []) else l.getD j []).toArray⟩
  bel : Below w.heap.size w wr
theorem XI.keep {w wr : World} {g c n : Nat} {l : List (List UInt8)} {one two : List UInt8} {k : Nat} (h : XI w g c n l one two k wr) (e : rep one two (l.getD k []) = l.getD k []) : XI w g c n l one two (k + 1) wr := by
  obtain ⟨f, h1, h2⟩ := h.row
  refine ⟨⟨f, h1, fun j hj => ?_⟩, h.bel⟩
  rw [h2 j hj]
  by_cases hjk : j < k
  · rw [if_pos hjk, if_pos (by omega)]
  · rw [if_neg hjk]
    by_cases hj' : j < k + 1
    · obtain rfl : j = k := by omega
      rw [if_pos hj', e]
    · rw [if_neg hj']
theorem XI.put {w wr : World} {g c n : Nat} {l : List (List UInt8)} {one two : List UInt8} {k : Nat} (h : XI w g c n l one two k wr) (hg : w.heap.size ≤ g) (x : List UInt8) (e : rep one two (l.getD k []) = x) : XI w g c n l one two (k + 1) (wr.setCell ⟨g, k, none⟩ (.string ⟨x.toArray⟩)) := by
  obtain ⟨f, h1, h2⟩ := h.row
  refine ⟨⟨_, h1.set k _, fun j hj => ?_⟩, h.bel.setCell (p := ⟨g, k, none⟩) hg _⟩
  by_cases hjk : j = k
  · subst hjk
    simp only [if_true]
    rw [if_pos (by omega), e]
  · simp only [hjk, if_false]
    rw [h2 j hj]
    by_cases hj' : j < k
    · rw [if_pos hj', if_pos (by omega)]
    · rw [if_neg hj', if_neg (by omega)]
theorem RetSE.of {s s' : List UInt8} {n n' : Int} {w : World} {e : Ending} {w' : World} (h : RetSE s n w e w') (h1 : s = s') (h2 : n = n') : RetSE s' n' w e w' := by
  subst h1 h2; exact h
end Go.Proofs.Ytklmgogppljolaa
