/- The segments of a string, plain. -/
import Derived.Lib.IndexMore
import Derived.WalkKit
namespace Go.Proofs.YtklmgogppljolaaDoor

def segs : List UInt8 → List (List UInt8)
  | [] => [[]]
  | c :: r => if c = 46 then [] :: segs r else match segs r with
    | [] => [[c]]
    | h :: t => (c :: h) :: t
theorem segs_ne (l : List UInt8) : segs l ≠ [] := by
  cases l with
  | nil => simp [segs]
  | cons c r => rw [segs]; split
                · simp
                · split <;> simp
theorem segs_dot (r : List UInt8) : segs (46 :: r) = [] :: segs r := by rw [segs, if_pos rfl]
theorem segs_cons {c : UInt8} {r h : List UInt8} {t : List (List UInt8)} (hc : c ≠ 46) (e : segs r = h :: t) : segs (c :: r) = (c :: h) :: t := by rw [segs, if_neg hc, e]
theorem segs_none : ∀ {l : List UInt8}, 46 ∉ l → segs l = [l]
  | [], _ => rfl
  | c :: r, h => segs_cons (fun e => h (by simp [e])) (segs_none (fun h' => h (by simp [h'])))
theorem segs_split : ∀ {a b : List UInt8}, 46 ∉ a → segs (a ++ 46 :: b) = a :: segs b
  | [], b, _ => segs_dot b
  | c :: a, b, h => segs_cons (fun e => h (by simp [e])) (segs_split (fun h' => h (by simp [h'])))
theorem index_dot : ∀ (l : List UInt8), (46 ∉ l ∧ Lib.index l [46] = -1) ∨ (∃ a b, l = a ++ 46 :: b ∧ 46 ∉ a ∧ Lib.index l [46] = (a.length : Int))
  | [] => .inl ⟨by simp, rfl⟩
  | c :: r => by
    by_cases hc : c = 46
    · subst hc
      exact .inr ⟨[], r, rfl, by simp, by simp [Lib.index]⟩
    · have hp : ([46] : List UInt8).isPrefixOf (c :: r) = false := by simp [List.isPrefixOf, Ne.symm hc]
      rcases index_dot r with ⟨h1, h2⟩ | ⟨a, b, rfl, h2, h3⟩
      · exact .inl ⟨by simp [Ne.symm hc, h1], by rw [Lib.index, hp, h2]; rfl⟩
      · refine .inr ⟨c :: a, b, rfl, by simp [Ne.symm hc, h2], ?_⟩
        rw [Lib.index, hp, h3]
        have : ((a.length : Int) == -1) = false := beq_eq_false_iff_ne.2 (by omega)
        rw [this]
        simp
theorem cut_dot (l : List UInt8) : (46 ∉ l ∧ Lib.cut l [46] = (l, [], false) ∧ segs l = [l]) ∨ (∃ a b, l = a ++ 46 :: b ∧ 46 ∉ a ∧ Lib.cut l [46] = (a, b, true) ∧ segs l = a :: segs b) := by
  rcases index_dot l with ⟨h1, h2⟩ | ⟨a, b, h1, h2, h3⟩
  · exact .inl ⟨h1, by rw [Lib.cut, h2, if_neg (by omega)], segs_none h1⟩
  · refine .inr ⟨a, b, h1, h2, ?_, by rw [h1]; exact segs_split h2⟩
    rw [Lib.cut, h3, if_pos (by omega), h1]
    simp
end Go.Proofs.YtklmgogppljolaaDoor
