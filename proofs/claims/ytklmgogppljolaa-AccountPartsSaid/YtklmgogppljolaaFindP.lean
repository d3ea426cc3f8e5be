/- Charts and what is found in them, plain. -/
import Derived.Test.YtklmgogppljolaaPar
import Derived.Test.YtklmgogppljolaaRefA
namespace Go.Proofs.Ytklmgogppljolaa
open Go.RowKit

structure Chart (l : List Acc) : Prop where
  small : l.length ≤ 256
  code : ∀ i, i < l.length → codeB (accAt l i).1 = true
  kind : ∀ i, i < l.length → 1 ≤ (accAt l i).2 ∧ (accAt l i).2 ≤ 5
  ord : ∀ i j, j < i → i < l.length → (accAt l j).1 < (accAt l i).1
  cl : ∀ i j, j < i → i < l.length → undB (accAt l i).1 (accAt l j).1 = true → (accAt l i).2 = (accAt l j).2
theorem err_zero {l : List Acc} (h : chkL l = 0) : l.length ≤ 256 ∧ ∀ i, i < l.length → errAt l i = 0 := by
  have hn : l.length ≤ 256 := by
    rcases Nat.lt_or_ge 256 l.length with h' | h'
    · rw [chkL, if_pos h'] at h; cases h
    · exact h'
  refine ⟨hn, fun i => ?_⟩
  induction i using Nat.strongRecOn with
  | ind i ih =>
    intro hi
    by_cases he : errAt l i = 0
    · exact he
    · have := chk_at hn hi (fun j hj => ih j hj (by omega)) he
      rw [h] at this
      exact this.symm
theorem err_parts {l : List Acc} {i : Nat} (h : errAt l i = 0) : codeB (accAt l i).1 = true ∧ (1 ≤ (accAt l i).2 ∧ (accAt l i).2 ≤ 5) ∧ (0 < i → (accAt l (i - 1)).1 < (accAt l i).1) ∧ clash l i i = false := by
  unfold errAt at h
  split at h
  · cases h
  · rename_i h1
    split at h
    · cases h
    · rename_i h2
      split at h
      · cases h
      · rename_i h3
        split at h
        · cases h
        · rename_i h4
          refine ⟨by simpa using h1, by omega, fun h0 => ?_, by simpa using h4⟩
          have h5 : (Op.bytesLess (accAt l i).1 (accAt l (i - 1)).1 || (accAt l i).1 == (accAt l (i - 1)).1) = false := by
            cases h6 : (Op.bytesLess (accAt l i).1 (accAt l (i - 1)).1 || (accAt l i).1 == (accAt l (i - 1)).1)
            · rfl
            · exact absurd ⟨h0, h6⟩ h3
          rw [le_flip, bytesLess_eq] at h5
          simpa using h5
theorem chart_of {l : List Acc} (h : chkL l = 0) : Chart l := by
  obtain ⟨hn, he⟩ := err_zero h
  have ord : ∀ i j, j < i → i < l.length → (accAt l j).1 < (accAt l i).1 := by
    intro i
    induction i with
    | zero => intro j hj; omega
    | succ i ih =>
      intro j hj hi
      have h1 := (err_parts (he (i + 1) hi)).2.2.1 (by omega)
      rw [Nat.add_sub_cancel] at h1
      rcases Nat.eq_or_lt_of_le (Nat.le_of_lt_succ hj) with rfl | h2
      · exact h1
      · exact List.lt_trans (ih j h2 (by omega)) h1
  refine ⟨hn, fun i hi => (err_parts (he i hi)).1, fun i hi => (err_parts (he i hi)).2.1, ord, fun i j hj hi hu => ?_⟩
  have h1 := (err_parts (he i hi)).2.2.2
  by_cases hk : (accAt l i).2 = (accAt l j).2
  · exact hk
  · have := clash_of (l := l) (i := i) (k := j) (n := i) hj (by rw [hu]; simpa using hk)
    rw [h1] at this
    cases this
theorem lt_append (p r : List UInt8) (x : UInt8) : p < p ++ x :: r := by
  induction p with
  | nil => exact List.nil_lt_cons _ _
  | cons a p ih => rw [List.cons_append, List.cons_lt_cons_iff]; exact .inr ⟨rfl, ih⟩
theorem und_lt {c p : List UInt8} (h : undB c p = true) (hne : c ≠ p) : p < c := by
  rcases (und_iff c p).1 h with e | ⟨r, e⟩
  · exact absurd e hne
  · rw [e]; exact lt_append p r 46
theorem mem_at {l : List Acc} {a : Acc} (h : a ∈ l) : ∃ k, k < l.length ∧ accAt l k = a := by
  obtain ⟨k, hk, e⟩ := List.mem_iff_getElem.1 h
  exact ⟨k, hk, by rw [accAt, List.getD_eq_getElem?_getD, List.getElem?_eq_getElem hk]; exact e⟩
theorem at_mem {l : List Acc} {k : Nat} (hk : k < l.length) : accAt l k ∈ l := by
  rw [accAt, List.getD_eq_getElem?_getD, List.getElem?_eq_getElem hk]; exact List.getElem_mem _
/-- what the search knows -/
structure FS (code : List UInt8) (p : List Acc) (s : Acc × Bool) : Prop where
  no : s.2 = false → s.1 = ([], 0) ∧ ∀ a ∈ p, undB code a.1 = false
  yes : s.2 = true → s.1 ∈ p ∧ undB code s.1.1 = true ∧ ∀ a ∈ p, undB code a.1 = true → a.1.length ≤ s.1.1.length
theorem FS.step {code : List UInt8} {p : List Acc} {s : Acc × Bool} (h : FS code p s) (a : Acc) : FS code (p ++ [a]) (fStep code s a) := by
  unfold fStep
  cases hu : undB code a.1
  · simp only [Bool.false_and, Bool.false_eq_true, if_false]
    refine ⟨fun h2 => ⟨(h.no h2).1, fun x hx => ?_⟩, fun h2 => ⟨List.mem_append_left _ (h.yes h2).1, (h.yes h2).2.1, fun x hx hxu => ?_⟩⟩
    · rcases List.mem_append.1 hx with h3 | h3
      · exact (h.no h2).2 x h3
      · rw [List.mem_singleton] at h3; rw [h3]; exact hu
    · rcases List.mem_append.1 hx with h3 | h3
      · exact (h.yes h2).2.2 x h3 hxu
      · rw [List.mem_singleton] at h3; rw [h3, hu] at hxu; cases hxu
  · obtain ⟨s1, s2⟩ := s
    cases s2
    · simp only [Bool.not_false, Bool.true_or, Bool.and_true, if_true]
      refine ⟨(fun h2 => by cases h2), fun _ => ⟨by simp, hu, fun x hx hxu => ?_⟩⟩
      rcases List.mem_append.1 hx with h3 | h3
      · have := (h.no rfl).2 x h3; rw [this] at hxu; cases hxu
      · rw [List.mem_singleton] at h3; rw [h3]; exact Nat.le_refl _
    · obtain ⟨y1, y2, y3⟩ := h.yes rfl
      by_cases hl : s1.1.length < a.1.length
      · simp only [Bool.not_true, Bool.false_or, hl, decide_true, Bool.and_true, if_true]
        refine ⟨(fun h2 => by cases h2), fun _ => ⟨by simp, hu, fun x hx hxu => ?_⟩⟩
        rcases List.mem_append.1 hx with h3 | h3
        · have := y3 x h3 hxu
          simp only at this
          show x.1.length ≤ a.1.length
          omega
        · rw [List.mem_singleton] at h3; rw [h3]; exact Nat.le_refl _
      · simp only [Bool.not_true, Bool.false_or, hl, decide_false, Bool.and_false, Bool.false_eq_true, if_false]
        refine ⟨(fun h2 => by cases h2), fun _ => ⟨List.mem_append_left _ y1, y2, fun x hx hxu => ?_⟩⟩
        rcases List.mem_append.1 hx with h3 | h3
        · exact y3 x h3 hxu
        · rw [List.mem_singleton] at h3; rw [h3]; show a.1.length ≤ s1.1.length; omega
theorem FS.fold {code : List UInt8} : ∀ (q p : List Acc) (s : Acc × Bool), FS code p s → FS code (p ++ q) (q.foldl (fStep code) s)
  | [], p, s, h => by rw [List.append_nil]; exact h
  | a :: q, p, s, h => by
    have := FS.fold q (p ++ [a]) _ (h.step a)
    rw [List.append_assoc] at this
    exact this
theorem find_spec (l : List Acc) (code : List UInt8) : FS code l (findL l code) := by
  have := FS.fold l [] (([], 0), false) (code := code) ⟨fun _ => ⟨rfl, by simp⟩, (fun h => by cases h)⟩
  exact this
theorem find_self {l : List Acc} (hc : Chart l) {k : Nat} (hk : k < l.length) : findL l (accAt l k).1 = (accAt l k, true) := by
  have hs := find_spec l (accAt l k).1
  generalize findL l (accAt l k).1 = r at hs
  obtain ⟨r1, r2⟩ := r
  cases r2
  · have := (hs.no rfl).2 _ (at_mem hk)
    rw [und_refl] at this
    cases this
  · obtain ⟨h1, h2, h3⟩ := hs.yes rfl
    obtain ⟨m, hm, rfl⟩ := mem_at h1
    have h4 := h3 _ (at_mem hk) (und_refl _)
    have h5 : (accAt l k).1 = (accAt l m).1 := by
      rcases (und_iff _ _).1 h2 with e | ⟨r, e⟩
      · exact e
      · have := congrArg List.length e
        simp at this h4
        omega
    have : k = m := by
      rcases Nat.lt_trichotomy k m with h | h | h
      · have := hc.ord m k h hm; rw [h5] at this; exact absurd this (List.lt_irrefl _)
      · exact h
      · have := hc.ord k m h hk; rw [h5] at this; exact absurd this (List.lt_irrefl _)
    rw [this]
theorem kinds_eq {l : List Acc} (hc : Chart l) {m k : Nat} (hm : m < l.length) (hk : k < l.length) (h : undB (accAt l m).1 (accAt l k).1 = true) : (accAt l m).2 = (accAt l k).2 := by
  rcases Nat.lt_trichotomy k m with h1 | h1 | h1
  · exact hc.cl m k h1 hm h
  · rw [h1]
  · have h2 := hc.ord k m h1 hk
    have h3 := und_lt h (fun e => List.lt_irrefl _ (by rw [e] at h2; exact h2))
    exact absurd h3 (List.lt_asymm h2)
theorem find_kind {l : List Acc} (hc : Chart l) {code : List UInt8} {k : Nat} (hk : k < l.length) (h : undB code (accAt l k).1 = true) : (findL l code).2 = true ∧ (findL l code).1.2 = (accAt l k).2 := by
  have hs := find_spec l code
  generalize findL l code = r at hs
  obtain ⟨r1, r2⟩ := r
  cases r2
  · have := (hs.no rfl).2 _ (at_mem hk)
    rw [h] at this
    cases this
  · obtain ⟨h1, h2, h3⟩ := hs.yes rfl
    obtain ⟨m, hm, rfl⟩ := mem_at h1
    refine ⟨rfl, ?_⟩
    rcases und_linear h h2 with h4 | h4
    · exact (kinds_eq hc hk hm h4).symm
    · exact kinds_eq hc hm hk h4
theorem und_par {a b x : List UInt8} (hb : 46 ∉ b) (hx : x ≠ a ++ 46 :: b) : undB (a ++ 46 :: b) x = undB a x := by
  rw [Bool.eq_iff_iff, und_iff, und_iff]
  constructor
  · rintro (h | ⟨r, h⟩)
    · exact absurd h.symm hx
    · rcases List.append_eq_append_iff.1 h with ⟨c, h1, h2⟩ | ⟨c, h1, h2⟩
      · cases c with
        | nil => left; rw [h1]; simp
        | cons y c =>
          rw [List.cons_append, List.cons.injEq] at h2
          exact absurd (by rw [h2.2]; simp) hb
      · cases c with
        | nil => left; rw [h1]; simp
        | cons y c =>
          rw [List.cons_append, List.cons.injEq] at h2
          right; exact ⟨c, by rw [h1, h2.1]⟩
  · rintro (h | ⟨r, h⟩)
    · right; exact ⟨b, by rw [h]⟩
    · right; exact ⟨r ++ 46 :: b, by rw [h]; simp⟩
theorem fold_cong {s a : List UInt8} : ∀ (l : List Acc) (st : Acc × Bool), (∀ x ∈ l, undB s x.1 = undB a x.1) → l.foldl (fStep s) st = l.foldl (fStep a) st
  | [], _, _ => rfl
  | x :: l, st, h => by
    rw [List.foldl_cons, List.foldl_cons, show fStep s st x = fStep a st x by unfold fStep; rw [h x (by simp)]]
    exact fold_cong l _ (fun y hy => h y (by simp [hy]))
theorem find_par {l : List Acc} {a b : List UInt8} (hb : 46 ∉ b) (hx : ∀ x ∈ l, x.1 ≠ a ++ 46 :: b) : findL l (a ++ 46 :: b) = findL l a :=
  fold_cong l _ (fun x h => und_par hb (hx x h))
theorem find_none {l : List Acc} {s : List UInt8} (hs : 46 ∉ s) (hx : ∀ x ∈ l, x.1 ≠ s) : findL l s = (([], 0), false) := by
  have hf := find_spec l s
  generalize findL l s = r at hf
  obtain ⟨r1, r2⟩ := r
  cases r2
  · rw [show r1 = ([], 0) from (hf.no rfl).1]
  · obtain ⟨h1, h2, _⟩ := hf.yes rfl
    rcases (und_iff _ _).1 h2 with e | ⟨r, e⟩
    · exact absurd e.symm (hx _ h1)
    · exact absurd (by rw [e]; simp) hs
theorem par_step {s : List UInt8} (h : codeB s = true) : (parB s = false ∧ 46 ∉ s) ∨ (∃ a b, s = a ++ 46 :: b ∧ 46 ∉ b ∧ parS s = a ∧ parB s = true ∧ codeB a = true) := by
  rcases last_dot s with ⟨h1, _⟩ | ⟨a, b, h1, h2, _⟩
  · exact .inl ⟨(par_none h1).2, h1⟩
  · refine .inr ⟨a, b, h1, h2, ?_⟩
    subst h1
    obtain ⟨h3, h4⟩ := par_some h2 h
    refine ⟨h3, h4, ?_⟩
    unfold codeB at h ⊢
    rw [segs_snoc a h2] at h
    simp only [List.length_append, List.length_singleton, List.all_append, Bool.and_eq_true, decide_eq_true_eq] at h ⊢
    exact ⟨by omega, h.2.1⟩
/-- where the climb stands -/
structure Climb (l : List Acc) (code at_ : List UInt8) (is_ found : Bool) (want : Acc) : Prop where
  cod : codeB at_ = true ∨ (is_ = false ∧ found = false) ∨ found = true
  fnd : found = true → findL l code = (want, true)
  low : found = false → want = ([], 0)
  on : found = false → is_ = true → findL l at_ = findL l code
  off : found = false → is_ = false → findL l code = (([], 0), false)
  small : at_.length ≤ 120
theorem Climb.fin {l : List Acc} {code at_ : List UInt8} {is_ found : Bool} {want : Acc} (h : Climb l code at_ is_ found want) (hc : (is_ && !found) = false) : findL l code = (want, found) := by
  cases found
  · cases is_
    · rw [h.off rfl rfl, h.low rfl]
    · cases hc
  · exact h.fnd rfl
theorem Climb.hit {l : List Acc} {code at_ : List UInt8} {want : Acc} (hc : Chart l) (h : Climb l code at_ true false want) {k : Nat} (hk : k < l.length) (e : (accAt l k).1 = at_) (p : List UInt8) (b : Bool) (hp : p.length ≤ 120) : Climb l code p b true (accAt l k) :=
  ⟨.inr (.inr rfl), fun _ => by rw [← h.on rfl rfl, ← e]; exact find_self hc hk, (fun h => by cases h), (fun h => by cases h), (fun h => by cases h), hp⟩
theorem Climb.go {l : List Acc} {code at_ : List UInt8} {want : Acc} (h : Climb l code at_ true false want) (hno : ∀ x ∈ l, x.1 ≠ at_) : Climb l code (parS at_) (parB at_) false want ∧ (parB at_ = true → (parS at_).length < at_.length) := by
  have hcode : codeB at_ = true := by
    rcases h.cod with h1 | ⟨h1, _⟩ | h1
    · exact h1
    · cases h1
    · cases h1
  rcases par_step hcode with ⟨h1, h2⟩ | ⟨a, b, h1, h2, h3, h4, h5⟩
  · rw [h1, (par_none h2).1]
    exact ⟨⟨.inr (.inl ⟨rfl, rfl⟩), (fun h => by cases h), h.low, (fun _ h => by cases h), fun _ _ => by rw [← h.on rfl rfl]; exact find_none h2 hno, by simp⟩, (fun h => by cases h)⟩
  · rw [h3, h4]
    have hl : a.length < at_.length := by rw [h1]; simp
    exact ⟨⟨.inl h5, (fun h => by cases h), h.low, (fun _ _ => by rw [← h.on rfl rfl, h1]; exact (find_par h2 (by rw [← h1]; exact hno)).symm), (fun _ h => by cases h), by have := h.small; omega⟩, fun _ => hl⟩
theorem Climb.start {l : List Acc} {code : List UInt8} (hc : codeB code = true) (hl : code.length ≤ 120) : Climb l code code true false ([], 0) :=
  ⟨.inl hc, (fun h => by cases h), (fun _ => rfl), (fun _ _ => rfl), (fun _ h => by cases h), hl⟩
theorem par_short (s : List UInt8) (h : s.length ≤ 120) : (parS s).length ≤ 120 := by
  cases hc : codeB s
  · rw [(par_bad hc).1]; simp
  · rcases par_step hc with ⟨_, h2⟩ | ⟨a, b, h1, _, h3, _, _⟩
    · rw [(par_none h2).1]; simp
    · rw [h3]; rw [h1] at h; simp at h; omega
end Go.Proofs.Ytklmgogppljolaa
