/- The parent of a code: plain laws, and the contract of Parent. -/
import Derived.Test.YtklmgogppljolaaDoorAwake
import Derived.Lib.LastIndexByte
namespace Go.Proofs.YtklmgogppljolaaDoor
open Go.RowKit

theorem segs_snoc : ∀ (a : List UInt8) {b : List UInt8}, 46 ∉ b → segs (a ++ 46 :: b) = segs a ++ [b]
  | [], b, h => by rw [List.nil_append, segs_dot, segs_none h]; rfl
  | c :: a, b, h => by
    have ih := segs_snoc a h
    by_cases hc : c = 46
    · subst hc
      rw [List.cons_append, segs_dot, segs_dot, ih]; rfl
    · obtain ⟨x, t, e⟩ : ∃ x t, segs a = x :: t := by
        cases h' : segs a with
        | nil => exact absurd h' (segs_ne a)
        | cons x t => exact ⟨x, t, rfl⟩
      rw [e] at ih
      rw [List.cons_append, segs_cons hc ih, segs_cons hc e]; rfl
theorem segs_no : ∀ (l x : List UInt8), x ∈ segs l → 46 ∉ x
  | [], x, h => by simp [segs] at h; simp [h]
  | c :: r, x, h => by
    by_cases hc : c = 46
    · subst hc
      rw [segs_dot] at h
      rcases List.mem_cons.1 h with rfl | h
      · simp
      · exact segs_no r x h
    · obtain ⟨y, t, e⟩ : ∃ x t, segs r = x :: t := by
        cases h' : segs r with
        | nil => exact absurd h' (segs_ne r)
        | cons x t => exact ⟨x, t, rfl⟩
      rw [segs_cons hc e] at h
      rcases List.mem_cons.1 h with rfl | h
      · intro h'
        rcases List.mem_cons.1 h' with h' | h'
        · exact hc h'.symm
        · exact segs_no r y (by rw [e]; simp) h'
      · exact segs_no r x (by rw [e]; simp [h])
theorem join_segs : ∀ (l : List UInt8), Lib.join (segs l) [46] = l
  | [] => by simp [segs, Lib.join_one]
  | c :: r => by
    obtain ⟨y, t, e⟩ : ∃ x t, segs r = x :: t := by
      cases h' : segs r with
      | nil => exact absurd h' (segs_ne r)
      | cons x t => exact ⟨x, t, rfl⟩
    have ih := join_segs r
    rw [e] at ih
    by_cases hc : c = 46
    · subst hc
      rw [segs_dot, e, join_cons, ih]; rfl
    · rw [segs_cons hc e, Lib.join_cons]
      rw [Lib.join_cons] at ih
      rw [List.cons_append, ih]
/-- the last dot -/
theorem last_dot (s : List UInt8) : (46 ∉ s ∧ Lib.lastIndexByte ⟨s.toArray⟩ 46 = -1) ∨ (∃ a b, s = a ++ 46 :: b ∧ 46 ∉ b ∧ Lib.lastIndexByte ⟨s.toArray⟩ 46 = (a.length : Int)) := by
  rcases Lib.lastIdx_spec ⟨s.toArray⟩ 46 s.length with ⟨e, hn⟩ | ⟨i, hi, e, hc, hn⟩
  · refine .inl ⟨fun h => ?_, e⟩
    obtain ⟨j, hj, e'⟩ := List.mem_iff_getElem.1 h
    refine hn j hj ?_
    have : (s.toArray[j]!) = 46 := by simp [hj, e']
    show ((s.toArray[j]!).toNat : Int) = 46
    rw [this]; rfl
  · refine .inr ⟨s.take i, s.drop (i + 1), ?_, fun h => ?_, ?_⟩
    · have h1 : (s.toArray[i]!) = s[i] := by simp [hi]
      have h2 : s[i] = 46 := UInt8.toNat_inj.1 (by
        have : ((s.toArray[i]!).toNat : Int) = 46 := hc
        rw [h1] at this
        rw [show (46 : UInt8).toNat = 46 from rfl]; omega)
      conv => lhs; rw [← List.take_append_drop i s, List.drop_eq_getElem_cons hi, h2]
    · obtain ⟨j, hj, e'⟩ := List.mem_iff_getElem.1 h
      rw [List.getElem_drop] at e'
      have hj' : i + 1 + j < s.length := by simp at hj; omega
      refine hn (i + 1 + j) (by omega) hj' ?_
      have : (s.toArray[i + 1 + j]!) = 46 := by simp [hj', e']
      show ((s.toArray[i + 1 + j]!).toNat : Int) = 46
      rw [this]; rfl
    · rw [List.length_take, Nat.min_eq_left (by omega)]; exact e
/-- the parent, and whether there is one -/
def parS (s : List UInt8) : List UInt8 := if codeB s && decide (1 < (segs s).length) then Lib.join (segs s).dropLast [46] else []
def parB (s : List UInt8) : Bool := codeB s && decide (1 < (segs s).length)
theorem segs_pos (s : List UInt8) : 0 < (segs s).length := List.length_pos_iff.2 (segs_ne s)
theorem par_none {s : List UInt8} (h : 46 ∉ s) : parS s = [] ∧ parB s = false := by
  have : parB s = false := by unfold parB; rw [segs_none h]; simp
  refine ⟨?_, this⟩
  unfold parS
  unfold parB at this
  rw [this]; rfl
theorem par_bad {s : List UInt8} (h : codeB s = false) : parS s = [] ∧ parB s = false := by
  have : parB s = false := by unfold parB; rw [h]; rfl
  refine ⟨?_, this⟩
  unfold parS
  unfold parB at this
  rw [this]; rfl
theorem par_some {a b : List UInt8} (hb : 46 ∉ b) (hc : codeB (a ++ 46 :: b) = true) : parS (a ++ 46 :: b) = a ∧ parB (a ++ 46 :: b) = true := by
  have : parB (a ++ 46 :: b) = true := by
    have := segs_pos a
    unfold parB; rw [hc, segs_snoc a hb]; simp; omega
  refine ⟨?_, this⟩
  unfold parS
  unfold parB at this
  rw [this, segs_snoc a hb, if_pos rfl, List.dropLast_concat, join_segs]
def RetSB (s : List UInt8) (b : Bool) (w : World) (e : Ending) (w' : World) : Prop := e = .returned (.tuple #[.string ⟨s.toArray⟩, .bool b]) ∧ Below w.heap.size w w'
theorem take_ext (a b : List UInt8) : (⟨(a ++ 46 :: b).toArray⟩ : ByteArray).extract 0 a.length = ⟨a.toArray⟩ := by
  apply ByteArray.ext
  rw [ByteArray.data_extract]
  simp
set_option maxHeartbeats 1000000 in
set_option maxRecDepth 100000 in
theorem Parent_any (s : List UInt8) (w : World) (hs : s.length < 4294967281) (hm : ML w) : Calls Tryd.prog 10 #[.string ⟨s.toArray⟩] w (RetSB (parS s) (parB s) w) := by
  have HL := Lib.hid (fun w => Tryd.strings_LastIndexByte ⟨s.toArray⟩ 46 (by show s.length < _; omega) w)
  have HC := Lib.hid (fun w hm => Check_any ⟨s.toArray⟩ w (by exact hs) hm)
  have HM := Lib.hid hm
  clear hm
  have hchk := Lib.hid (show chk s = if codeB s then 0 else 3 from rfl)
  rcases last_dot s with ⟨h1, h2⟩ | ⟨a, b, h1, h2, h3⟩
  · rw [h2] at HL
    have hv := Lib.hid (par_none h1)
    clear h1 h2
    go_enter Tryd.func10, Tryd.ntmps10
    go_wp2_with fail
    refine (HL.out _).mono ?_
    rintro e w1 ⟨rfl, rfl⟩
    go_wp2_with fail
    go_ret2
    exact ⟨by rw [hv.out.1, hv.out.2]; rfl, Below.refl _ _⟩
  · rw [h3] at HL
    have e1 : decide ((a.length : Int) < 0) = false := by simp
    cases hcb : codeB s
    · have hk := Lib.hid (show chk s = 3 by rw [hchk.out, hcb]; rfl)
      have hv := Lib.hid (par_bad hcb)
      clear h1 h2 h3 hcb
      go_enter Tryd.func10, Tryd.ntmps10
      go_wp2_with fail
      refine (HL.out _).mono ?_
      rintro e w1 ⟨rfl, rfl⟩
      go_wp2_with fail
      refine (HC.out _ HM.out).mono ?_
      rintro e w2 ⟨rfl, hb2⟩
      rw [show chk (ByteArray.mk s.toArray).data.toList = 3 from hk.out]
      go_wp2_with fail
      go_ret2
      exact ⟨by rw [hv.out.1, hv.out.2]; rfl, hb2⟩
    · have hk := Lib.hid (show chk s = 0 by rw [hchk.out, hcb]; rfl)
      have hv := Lib.hid (show parS s = a ∧ parB s = true by rw [h1] at hcb ⊢; exact par_some h2 hcb)
      have hx : (⟨s.toArray⟩ : ByteArray).extract 0 a.length = ⟨a.toArray⟩ := by rw [h1]; exact take_ext a b
      have hle : a.length ≤ s.length := by rw [h1]; simp
      clear h1 h2 h3 hcb
      go_enter Tryd.func10, Tryd.ntmps10
      go_wp2_with fail
      refine (HL.out _).mono ?_
      rintro e w1 ⟨rfl, rfl⟩
      go_wp2_with fail
      refine (HC.out _ HM.out).mono ?_
      rintro e w2 ⟨rfl, hb2⟩
      rw [show chk (ByteArray.mk s.toArray).data.toList = 0 from hk.out]
      go_wp2_with fail
      go_ret2
      exact ⟨by rw [hv.out.1, hv.out.2]; rfl, hb2⟩
end Go.Proofs.YtklmgogppljolaaDoor
