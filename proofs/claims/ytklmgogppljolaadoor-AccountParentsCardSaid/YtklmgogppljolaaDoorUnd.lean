/- Contracts of Expand as a whole, and of Under. -/
import Derived.Test.YtklmgogppljolaaDoorExpM
namespace Go.Proofs.YtklmgogppljolaaDoor
open Go.RowKit Go.Shelf

def exE (t one two : List UInt8) : Int := if codeT t then (if badN one || badN two then 23 else xE t one two) else 3
def exR (t one two : List UInt8) : List UInt8 := if codeT t then (if badN one || badN two then [] else xS t one two) else []
theorem good_of {l : List UInt8} (h : badN l = false) : l = [] ∨ (¬ l = [] ∧ nameB l = true) := by
  unfold badN at h
  cases l with
  | nil => exact .inl rfl
  | cons a r => right; simpa using h
theorem Expand_any (t one two : List UInt8) (w : World) (ht : t.length < 4294967281) (h1 : one.length ≤ maxLen) (h2 : two.length ≤ maxLen) (hm : ML w) :
    Calls Tryd.prog 7 #[.string ⟨t.toArray⟩, .string ⟨one.toArray⟩, .string ⟨two.toArray⟩] w (RetSE (exR t one two) (exE t one two) w) := by
  cases hc : codeT t
  · have := expand_syntax ⟨t.toArray⟩ ⟨one.toArray⟩ ⟨two.toArray⟩ w ht hm hc
    simp only [exR, exE, hc, Bool.false_eq_true, if_false]
    exact this
  · cases hb : badN one || badN two
    · have hb' := Bool.or_eq_false_iff.1 hb
      have := (callsIn_wide (n := 4)).1 (expand_in t one two w ht (good_of hb'.1) (good_of hb'.2) hm hc)
      simp only [exR, exE, hc, hb, Bool.false_eq_true, if_false, if_true]
      exact this
    · have := expand_name ⟨t.toArray⟩ one two w ht h1 h2 hm hc hb
      simp only [exR, exE, hc, hb, if_true]
      exact this
/-- a code lies under another one -/
def undB (c p : List UInt8) : Bool := p.isPrefixOf c && (decide (c.drop p.length = []) || decide ((c.drop p.length).getD 0 0 = 46))
set_option maxHeartbeats 1000000 in
theorem Under_any (c p : List UInt8) (w : World) : Calls Tryd.prog 13 #[.string ⟨c.toArray⟩, .string ⟨p.toArray⟩] w fun e w' => e = .returned (.bool (undB c p)) ∧ w = w' := by
  have hcp := fun w => Tryd.strings_CutPrefix ⟨c.toArray⟩ ⟨p.toArray⟩ w
  have hu := Lib.hid (show undB c p = (p.isPrefixOf c && (decide (c.drop p.length = []) || decide ((c.drop p.length).getD 0 0 = 46))) from rfl)
  cases hp : p.isPrefixOf c
  · have h2 : ∀ w, Calls Tryd.prog 24 #[.string ⟨c.toArray⟩, .string ⟨p.toArray⟩] w fun e w' => e = .returned (.tuple #[.string ⟨c.toArray⟩, .bool false]) ∧ w = w' := fun w =>
      (hcp w).mono fun e w' ⟨he, hw⟩ => ⟨by rw [he]; show Ending.returned (.tuple #[.string ⟨(if p.isPrefixOf c then c.drop p.length else c).toArray⟩, .bool (p.isPrefixOf c)]) = _; rw [hp]; rfl, hw.symm⟩
    have H2 := Lib.hid h2
    have hv := Lib.hid (show undB c p = false by rw [hu.out, hp]; rfl)
    clear hcp h2 hp
    go_enter Tryd.func13, Tryd.ntmps13
    go_wp2_with fail
    refine (H2.out _).mono ?_
    rintro e w1 ⟨rfl, rfl⟩
    go_wp2_with fail
    go_ret
    exact ⟨by rw [hv.out]; rfl, rfl⟩
  · obtain ⟨r, hr⟩ : ∃ r, r = c.drop p.length := ⟨_, rfl⟩
    have h2 : ∀ w, Calls Tryd.prog 24 #[.string ⟨c.toArray⟩, .string ⟨p.toArray⟩] w fun e w' => e = .returned (.tuple #[.string ⟨r.toArray⟩, .bool true]) ∧ w = w' := fun w =>
      (hcp w).mono fun e w' ⟨he, hw⟩ => ⟨by rw [he]; show Ending.returned (.tuple #[.string ⟨(if p.isPrefixOf c then c.drop p.length else c).toArray⟩, .bool (p.isPrefixOf c)]) = _; rw [hp, hr]; rfl, hw.symm⟩
    have H2 := Lib.hid h2
    have hv := hu.out
    rw [hp, ← hr, Bool.true_and] at hv
    have HV := Lib.hid hv
    clear hcp h2 hp hr hv hu
    cases r with
    | nil =>
      go_enter Tryd.func13, Tryd.ntmps13
      go_wp2_with fail
      refine (H2.out _).mono ?_
      rintro e w1 ⟨rfl, rfl⟩
      go_wp2_with fail
      go_ret
      exact ⟨by rw [HV.out]; rfl, rfl⟩
    | cons x r =>
      have q1 : (x :: r == []) = false := rfl
      by_cases hx : x = 46
      · subst hx
        go_enter Tryd.func13, Tryd.ntmps13
        go_wp2_with fail
        refine (H2.out _).mono ?_
        rintro e w1 ⟨rfl, rfl⟩
        go_wp2_with fail
        go_ret
        exact ⟨by rw [HV.out]; rfl, rfl⟩
      · have q2 : ((x.toNat : Int) == 46) = false := beq_eq_false_iff_ne.2 (fun e => hx (UInt8.toNat_inj.1 (by rw [show (46 : UInt8).toNat = 46 from rfl]; omega)))
        have hv2 := Lib.hid (show undB c p = false by rw [HV.out]; simp [hx])
        clear hx HV
        go_enter Tryd.func13, Tryd.ntmps13
        go_wp2_with fail
        refine (H2.out _).mono ?_
        rintro e w1 ⟨rfl, rfl⟩
        go_wp2_with fail
        go_ret
        exact ⟨by rw [hv2.out]; exact ret_bool q2, rfl⟩
end Go.Proofs.YtklmgogppljolaaDoor
