/- Plain: normal forms by putting lines in, sorted lists, the merge of two sorted lists. -/
import Derived.Test.YtdnomfekblmnbaaGreatDoorQ1
import Derived.Test.YtdnomfekblmnbaaGreatDoorQ5
import Derived.Test.YtdnomfekblmnbaaGreatDoorQ4
import Derived.Shelf.SlSortCmp.NoneTotal
import Derived.Test.YtdnomfekblmnbaaGreatDoorChecked
import Derived.Shelf.SlSortCmp.WholeK
import Derived.Laws.AppendOwn
import Derived.Below
import Derived.WalkSpells
import Derived.Lib.SliceRun
import Derived.Deep.RegionLaw
import Derived.Deep.DeepCutAuto
import Derived.DeepKeys4
namespace Go.Proofs.YtdnomfekblmnbaaGreatDoor
namespace Num

/-- a line put into lines in order -/
def putL : List Ln → Ln → List Ln
  | [], x => if val x.2.2 = 0 then [] else [x]
  | y :: r, x => if cmpK y x < 0 then y :: putL r x
    else if cmpK y x = 0 then (if val y.2.2 + val x.2.2 = 0 then r else (x.1, x.2.1, txt (val y.2.2 + val x.2.2)) :: r)
    else if val x.2.2 = 0 then y :: r else x :: y :: r
/-- the normal form of lines -/
def nrmL (l : List Ln) : List Ln := l.foldl putL []
theorem nrmL_snoc (l : List Ln) (x : Ln) : nrmL (l ++ [x]) = putL (nrmL l) x := by simp [nrmL]
theorem putL_tot (l : List Ln) (x : Ln) (k : Ky) : tot (putL l x) k = tot l k + if key x = k then val x.2.2 else 0 := by
  induction l with
  | nil =>
    unfold putL
    split
    · rename_i h; rw [h, tot_nil]; split <;> rfl
    · rw [tot_cons, tot_nil]; omega
  | cons y r ih =>
    unfold putL
    split
    · rw [tot_cons, ih, tot_cons]; omega
    · split
      · rename_i h
        have hk : key y = key x := cmpKy_zero.1 h
        split
        · rename_i h0
          rw [tot_cons, hk]; split <;> omega
        · rw [tot_cons, tot_cons, hk]
          show (if key x = k then val (txt (val y.2.2 + val x.2.2)) else 0) + _ = _
          rw [val_txt]; split <;> omega
      · split
        · rename_i h; rw [h]; split <;> omega
        · rw [tot_cons, tot_cons]; omega
theorem putL_mem (l : List Ln) (x z : Ln) (h : z ∈ putL l x) : z ∈ l ∨ key z = key x := by
  induction l with
  | nil =>
    unfold putL at h
    split at h
    · cases h
    · rw [List.mem_singleton] at h; subst h; exact .inr rfl
  | cons y r ih =>
    unfold putL at h
    split at h
    · rcases List.mem_cons.1 h with h | h
      · subst h; exact .inl (by simp)
      · rcases ih h with h | h
        · exact .inl (by simp [h])
        · exact .inr h
    · split at h
      · split at h
        · exact .inl (by simp [h])
        · rcases List.mem_cons.1 h with h | h
          · subst h; exact .inr rfl
          · exact .inl (by simp [h])
      · split at h
        · exact .inl h
        · rcases List.mem_cons.1 h with h | h
          · subst h; exact .inr rfl
          · exact .inl h
theorem cmpK_of_key {a b z : Ln} (h : key a = key b) : cmpK z a = cmpK z b ∧ cmpK a z = cmpK b z := by
  unfold cmpK; rw [h]; exact ⟨rfl, rfl⟩
theorem putL_ord (l : List Ln) (x : Ln) (h : OrdL l) : OrdL (putL l x) := by
  unfold OrdL at *
  induction l with
  | nil =>
    unfold putL
    split
    · exact List.Pairwise.nil
    · exact List.pairwise_singleton _ _
  | cons y r ih =>
    rw [List.pairwise_cons] at h
    unfold putL
    split
    · rename_i hc
      have hc1 : cmpK y x = -1 := by have := cmpK_cmp.rng y x; omega
      refine List.pairwise_cons.2 ⟨fun z hz => ?_, ih h.2⟩
      rcases putL_mem r x z hz with hz | hz
      · exact h.1 z hz
      · rw [(cmpK_of_key hz).1]; exact hc1
    · split
      · rename_i h0
        have hk : key y = key x := cmpKy_zero.1 h0
        split
        · exact h.2
        · refine List.pairwise_cons.2 ⟨fun z hz => ?_, h.2⟩
          have := h.1 z hz
          rw [(cmpK_of_key (z := z) hk).2] at this
          exact this
      · rename_i h1 h0
        split
        · exact List.pairwise_cons.2 h
        · have hxy : cmpK x y = -1 := by have := cmpK_cmp.rng y x; have := cmpK_cmp.anti y x; omega
          refine List.pairwise_cons.2 ⟨fun z hz => ?_, List.pairwise_cons.2 h⟩
          rcases List.mem_cons.1 hz with hz | hz
          · subst hz; exact hxy
          · exact cmpK_cmp.tr _ _ _ hxy (h.1 z hz)
theorem putL_amt (l : List Ln) (x : Ln) (h : ∀ z ∈ l, canB z = true ∧ z.2.2 ≠ []) (hx : canB x = true) : ∀ z ∈ putL l x, canB z = true ∧ z.2.2 ≠ [] := by
  have hne : val x.2.2 ≠ 0 → x.2.2 ≠ [] := fun h e => h (by rw [e]; rfl)
  induction l with
  | nil =>
    intro z hz
    unfold putL at hz
    split at hz
    · cases hz
    · rename_i h0
      rw [List.mem_singleton] at hz; subst hz; exact ⟨hx, hne h0⟩
  | cons y r ih =>
    intro z hz
    unfold putL at hz
    split at hz
    · rcases List.mem_cons.1 hz with hz | hz
      · subst hz; exact h _ (by simp)
      · exact ih (fun u hu => h u (by simp [hu])) z hz
    · split at hz
      · split at hz
        · exact h z (by simp [hz])
        · rename_i h0
          rcases List.mem_cons.1 hz with hz | hz
          · subst hz
            refine ⟨?_, fun e => h0 (txt_nil.1 e)⟩
            unfold canB can
            simp only [val_txt]
            exact decide_eq_true trivial
          · exact h z (by simp [hz])
      · split at hz
        · exact h z hz
        · rename_i h0
          rcases List.mem_cons.1 hz with hz | hz
          · subst hz; exact ⟨hx, hne h0⟩
          · exact h z hz
theorem nrmL_of (l : List Ln) (h : ∀ x ∈ l, canB x = true) : NormOf l (nrmL l) := by
  have aux : ∀ (r : List Ln) (m : List Ln), (∀ x ∈ r, canB x = true) → OrdL m → (∀ z ∈ m, canB z = true ∧ z.2.2 ≠ []) →
      OrdL (r.foldl putL m) ∧ (∀ z ∈ r.foldl putL m, canB z = true ∧ z.2.2 ≠ []) ∧ ∀ k, tot (r.foldl putL m) k = tot m k + tot r k := by
    intro r
    induction r with
    | nil => intro m _ h1 h2; exact ⟨h1, h2, fun k => by rw [tot_nil]; simp⟩
    | cons x r ih =>
      intro m hr h1 h2
      obtain ⟨a, b, c⟩ := ih (putL m x) (fun z hz => hr z (by simp [hz])) (putL_ord m x h1) (putL_amt m x h2 (hr x (by simp)))
      refine ⟨a, b, fun k => ?_⟩
      rw [List.foldl_cons, c k, putL_tot, tot_cons]; omega
  obtain ⟨a, b, c⟩ := aux l [] h List.Pairwise.nil (fun z hz => by cases hz)
  exact ⟨a, b, fun k => by rw [nrmL, c k, tot_nil]; omega⟩
theorem nrmL_self {l : List Ln} (ho : OrdL l) (ha : ∀ x ∈ l, canB x = true ∧ x.2.2 ≠ []) : nrmL l = l :=
  (nrmL_of l fun x hx => (ha x hx).1).uniq ⟨ho, ha, fun _ => rfl⟩
theorem nrmL_tot {l m : List Ln} (hl : ∀ x ∈ l, canB x = true) (hm : ∀ x ∈ m, canB x = true) (h : ∀ k, tot l k = tot m k) : nrmL l = nrmL m := by
  have h1 := nrmL_of l hl
  have h2 := nrmL_of m hm
  exact h1.uniq ⟨h2.ord, h2.amt, fun k => by rw [h2.tot, h k]⟩
/-- lines made out of keys in order -/
def rowsK (l : List Ln) : List Ky → List Ln
  | [] => []
  | k :: r => if txt (tot l k) = [] then rowsK l r else (k.1, k.2, txt (tot l k)) :: rowsK l r
theorem rowsK_snoc (l : List Ln) (a : List Ky) (k : Ky) : rowsK l (a ++ [k]) = rowsK l a ++ if txt (tot l k) = [] then [] else [(k.1, k.2, txt (tot l k))] := by
  induction a with
  | nil => rw [List.nil_append, rowsK, rowsK]; split <;> rfl
  | cons x r ih =>
    rw [List.cons_append, rowsK, rowsK, ih]
    split <;> rfl
theorem rowsK_len (l : List Ln) (a : List Ky) : (rowsK l a).length ≤ a.length := by
  induction a with
  | nil => exact Nat.le_refl _
  | cons x r ih => rw [rowsK]; split <;> simp <;> omega
theorem rowsK_key {l : List Ln} {a : List Ky} {z : Ln} (h : z ∈ rowsK l a) : key z ∈ a ∧ z.2.2 = txt (tot l (key z)) ∧ z.2.2 ≠ [] := by
  induction a with
  | nil => cases h
  | cons x r ih =>
    rw [rowsK] at h
    split at h
    · obtain ⟨p, q⟩ := ih h; exact ⟨by simp [p], q⟩
    · rename_i hne
      rcases List.mem_cons.1 h with h | h
      · subst h; exact ⟨by simp [key], rfl, hne⟩
      · obtain ⟨p, q⟩ := ih h; exact ⟨by simp [p], q⟩
theorem rowsK_of {l : List Ln} {a : List Ky} (ho : a.Pairwise fun p q => cmpKy p q = -1) (hm : ∀ k, k ∈ a ↔ ∃ x ∈ l, key x = k) : NormOf l (rowsK l a) := by
  have hord : ∀ (b : List Ky), b.Pairwise (fun p q => cmpKy p q = -1) → OrdL (rowsK l b) := by
    intro b
    induction b with
    | nil => intro _; exact List.Pairwise.nil
    | cons k r ih =>
      intro hb
      rw [List.pairwise_cons] at hb
      rw [rowsK]
      split
      · exact ih hb.2
      · refine List.pairwise_cons.2 ⟨fun z hz => ?_, ih hb.2⟩
        exact hb.1 _ (rowsK_key hz).1
  have htot : ∀ (b : List Ky), b.Pairwise (fun p q => cmpKy p q = -1) → ∀ k, tot (rowsK l b) k = if k ∈ b then tot l k else 0 := by
    intro b
    induction b with
    | nil => intro _ k; simp [rowsK, tot]
    | cons y r ih =>
      intro hb k
      rw [List.pairwise_cons] at hb
      have hny : y ∉ r := fun h => by have := hb.1 y h; rw [cmpKy_cmp.self] at this; omega
      rw [rowsK]
      by_cases e : k = y
      · subst e
        split
        · rename_i h0
          rw [ih hb.2, if_neg hny, if_pos (by simp), txt_nil.1 h0]
        · rw [tot_cons, if_pos (show key (k.1, k.2, txt (tot l k)) = k from rfl), ih hb.2, if_neg hny, if_pos (List.mem_cons_self)]
          show val (txt _) + 0 = _
          rw [val_txt]; omega
      · have h2 : (k ∈ y :: r) ↔ k ∈ r := by simp [e]
        split
        · rw [ih hb.2]; simp [e]
        · rw [tot_cons, ih hb.2, if_neg (fun h => e (by rw [← h]; rfl))]; simp [e]
  refine ⟨hord a ho, fun x hx => ?_, fun k => ?_⟩
  · obtain ⟨_, h2, h3⟩ := rowsK_key hx
    refine ⟨?_, h3⟩
    unfold canB can
    rw [h2, val_txt]
    exact decide_eq_true rfl
  · rw [htot a ho k]
    split
    · rfl
    · rename_i h
      exact (tot_none fun x hx e => h ((hm k).2 ⟨x, hx, e⟩)).symm
theorem rowsK_nrm {l : List Ln} {a : List Ky} (hl : ∀ x ∈ l, canB x = true) (ho : a.Pairwise fun p q => cmpKy p q = -1) (hm : ∀ k, k ∈ a ↔ ∃ x ∈ l, key x = k) : rowsK l a = nrmL l :=
  (rowsK_of ho hm).uniq (nrmL_of l hl)

/-! sorted lists -/
section
variable {α : Type} {c : α → α → Int}
theorem Cmp.le_tr (h : Cmp c) {a b d : α} (h1 : c a b ≤ 0) (h2 : c b d ≤ 0) : c a d ≤ 0 := by
  rcases h.rng a b with e | e | e
  · rcases h.rng b d with f | f | f
    · have := h.tr _ _ _ e f; omega
    · have := h.eqv' b d a f; omega
    · omega
  · have := h.eqv a b d e; omega
  · omega
def Srt (c : α → α → Int) (l : List α) : Prop := l.Pairwise fun a b => c a b ≤ 0
/-- equals of the list are one -/
def Tight (c : α → α → Int) (l : List α) : Prop := ∀ a ∈ l, ∀ b ∈ l, c a b = 0 → a = b
theorem srt_uniq (h : Cmp c) {a b : List α} (ha : Srt c a) (hb : Srt c b) (hp : a.Perm b) (ht : Tight c a) : a = b := by
  refine List.Perm.eq_of_pairwise (le := fun x y => c x y ≤ 0) (fun x y hx hy h1 h2 => ?_) ha hb hp
  refine ht x hx y (hp.mem_iff.2 hy) ?_
  have := h.anti x y
  omega
/-- what is left of two sorted lists without what they share -/
def mrg (c : α → α → Int) : List α → List α → List α × List α
  | [], b => ([], b)
  | x :: a, [] => (x :: a, [])
  | x :: a, y :: b => if c x y < 0 then (x :: (mrg c a (y :: b)).1, (mrg c a (y :: b)).2)
    else if 0 < c x y then ((mrg c (x :: a) b).1, y :: (mrg c (x :: a) b).2) else mrg c a b
termination_by a b => a.length + b.length
theorem mrg_nil (b : List α) : mrg c [] b = ([], b) := by rw [mrg]
theorem mrg_nil' (a : List α) : mrg c a [] = (a, []) := by cases a <;> rw [mrg]
theorem mrg_cons (x : α) (a : List α) (y : α) (b : List α) : mrg c (x :: a) (y :: b) = if c x y < 0 then (x :: (mrg c a (y :: b)).1, (mrg c a (y :: b)).2)
    else if 0 < c x y then ((mrg c (x :: a) b).1, y :: (mrg c (x :: a) b).2) else mrg c a b := by rw [mrg]
theorem mrg_sub : ∀ (a b : List α), (mrg c a b).1.Sublist a ∧ (mrg c a b).2.Sublist b
  | [], b => by rw [mrg_nil]; exact ⟨List.Sublist.refl _, List.Sublist.refl _⟩
  | x :: a, [] => by rw [mrg_nil']; exact ⟨List.Sublist.refl _, List.Sublist.refl _⟩
  | x :: a, y :: b => by
    rw [mrg_cons]
    split
    · obtain ⟨h1, h2⟩ := mrg_sub a (y :: b)
      exact ⟨h1.cons_cons x, h2⟩
    · split
      · obtain ⟨h1, h2⟩ := mrg_sub (x :: a) b
        exact ⟨h1, h2.cons_cons y⟩
      · obtain ⟨h1, h2⟩ := mrg_sub a b
        exact ⟨h1.cons x, h2.cons y⟩
termination_by a b => a.length + b.length
def cnt (c : α → α → Int) (l : List α) (x : α) : Nat := l.countP fun y => decide (c x y = 0)
theorem cnt_cons (l : List α) (x y : α) : cnt c (y :: l) x = cnt c l x + if c x y = 0 then 1 else 0 := by
  unfold cnt; rw [List.countP_cons]; simp
theorem cnt_perm {l m : List α} (h : l.Perm m) (x : α) : cnt c l x = cnt c m x := h.countP_eq _
theorem cnt_zero {l : List α} {x : α} : cnt c l x = 0 ↔ ∀ y ∈ l, c x y ≠ 0 := by
  unfold cnt; rw [List.countP_eq_zero]; simp
theorem mrg_cnt (h : Cmp c) (z : α) : ∀ (a b : List α), cnt c a z + cnt c (mrg c a b).2 z = cnt c b z + cnt c (mrg c a b).1 z
  | [], b => by rw [mrg_nil]; show cnt c [] z + cnt c b z = cnt c b z + cnt c [] z; omega
  | x :: a, [] => by rw [mrg_nil']; show cnt c (x :: a) z + cnt c [] z = cnt c [] z + cnt c (x :: a) z; omega
  | x :: a, y :: b => by
    rw [mrg_cons]
    split
    · have := mrg_cnt h z a (y :: b)
      simp only [cnt_cons] at this ⊢
      omega
    · split
      · have := mrg_cnt h z (x :: a) b
        simp only [cnt_cons] at this ⊢
        omega
      · rename_i h1 h2
        have hxy : c x y = 0 := by omega
        have := mrg_cnt h z a b
        have he := h.eqv' x y z hxy
        simp only [cnt_cons, he]
        omega
termination_by a b => a.length + b.length
theorem mrg_len : ∀ (a b : List α), (mrg c a b).1.length + b.length = (mrg c a b).2.length + a.length
  | [], b => by rw [mrg_nil]; simp
  | x :: a, [] => by rw [mrg_nil']; simp
  | x :: a, y :: b => by
    rw [mrg_cons]
    split
    · have := mrg_len a (y :: b)
      simp only [List.length_cons] at this ⊢
      omega
    · split
      · have := mrg_len (x :: a) b
        simp only [List.length_cons] at this ⊢
        omega
      · have := mrg_len a b
        simp only [List.length_cons]
        omega
termination_by a b => a.length + b.length
theorem mrg_apart (h : Cmp c) (z : α) : ∀ (a b : List α), Srt c a → Srt c b → cnt c (mrg c a b).1 z = 0 ∨ cnt c (mrg c a b).2 z = 0
  | [], b, _, _ => by rw [mrg_nil]; exact .inl rfl
  | x :: a, [], _, _ => by rw [mrg_nil']; exact .inr rfl
  | x :: a, y :: b, ha, hb => by
    have ha2 := List.pairwise_cons.1 ha
    have hb2 := List.pairwise_cons.1 hb
    rw [mrg_cons]
    split
    · rename_i hlt
      by_cases hz : c z x = 0
      · refine .inr (cnt_zero.2 fun u hu e => ?_)
        have hu2 := (mrg_sub a (y :: b)).2.subset hu
        have hyu : c y u ≤ 0 := by
          rcases List.mem_cons.1 hu2 with e2 | e2
          · subst e2; have := h.self u; omega
          · exact hb2.1 u e2
        have h1 := h.eqv z x u hz
        have h3 := h.le_tr (a := x) (b := y) (d := u) (by omega) hyu
        have h4 : c y x ≤ 0 := by
          have h5 : c u x = 0 := by have := h.anti x u; omega
          have := h.eqv' u x y h5
          omega
        have := h.anti x y
        omega
      · rcases mrg_apart h z a (y :: b) ha2.2 hb with e | e
        · left
          simp only [cnt_cons, e, if_neg hz]
        · exact .inr e
    · split
      · rename_i hlt
        by_cases hz : c z y = 0
        · refine .inl (cnt_zero.2 fun u hu e => ?_)
          have hu2 := (mrg_sub (x :: a) b).1.subset hu
          have hxu : c x u ≤ 0 := by
            rcases List.mem_cons.1 hu2 with e2 | e2
            · subst e2; have := h.self u; omega
            · exact ha2.1 u e2
          have h1 := h.eqv z y u hz
          have h5 : c u y = 0 := by have := h.anti y u; omega
          have := h.eqv' u y x h5
          omega
        · rcases mrg_apart h z (x :: a) b ha hb2.2 with e | e
          · exact .inl e
          · right
            simp only [cnt_cons, e, if_neg hz]
      · exact mrg_apart h z a b ha2.2 hb2.2
termination_by a b => a.length + b.length
theorem mrg_srt {a b : List α} (ha : Srt c a) (hb : Srt c b) : Srt c (mrg c a b).1 ∧ Srt c (mrg c a b).2 :=
  ⟨List.Pairwise.sublist (mrg_sub a b).1 ha, List.Pairwise.sublist (mrg_sub a b).2 hb⟩
theorem mrg_self (h : Cmp c) : ∀ (a : List α), mrg c a a = ([], [])
  | [] => mrg_nil _
  | x :: a => by
    have := h.self x
    rw [mrg_cons, if_neg (by omega), if_neg (by omega), mrg_self h a]
theorem mrg_swap (h : Cmp c) : ∀ (a b : List α), mrg c b a = ((mrg c a b).2, (mrg c a b).1)
  | [], b => by rw [mrg_nil, mrg_nil']
  | x :: a, [] => by rw [mrg_nil, mrg_nil']
  | x :: a, y :: b => by
    have := h.anti x y
    rw [mrg_cons, mrg_cons]
    by_cases h1 : c x y < 0
    · rw [if_pos h1, if_neg (by omega), if_pos (by omega), mrg_swap h a (y :: b)]
    · by_cases h2 : 0 < c x y
      · rw [if_neg h1, if_pos h2, if_pos (by omega), mrg_swap h (x :: a) b]
      · rw [if_neg h1, if_neg h2, if_neg (by omega), if_neg (by omega), mrg_swap h a b]
termination_by a b => a.length + b.length
theorem mrg_map {β : Type} (f : β → α) : ∀ (a b : List β), mrg c (a.map f) (b.map f) = ((mrg (fun x y => c (f x) (f y)) a b).1.map f, (mrg (fun x y => c (f x) (f y)) a b).2.map f)
  | [], b => by rw [List.map_nil, mrg_nil, mrg_nil]; rfl
  | x :: a, [] => by rw [List.map_nil, mrg_nil', mrg_nil']; rfl
  | x :: a, y :: b => by
    rw [List.map_cons, List.map_cons, mrg_cons, mrg_cons]
    have h1 := mrg_map f a (y :: b)
    have h2 := mrg_map f (x :: a) b
    rw [List.map_cons] at h1 h2
    split
    · rw [h1]; rfl
    · split
      · rw [h2]; rfl
      · exact mrg_map f a b
termination_by a b => a.length + b.length
/-- the reference's difference of sorted lists -/
def lss (c : α → α → Int) : List α → List α → List α
  | [], _ => []
  | x :: a, [] => x :: a
  | x :: a, y :: b => if c y x < 0 then lss c (x :: a) b else if c y x = 0 then lss c a b else x :: lss c a (y :: b)
termination_by a b => a.length + b.length
theorem lss_mrg (h : Cmp c) : ∀ (a b : List α), lss c a b = (mrg c a b).1
  | [], b => by rw [lss, mrg_nil]
  | x :: a, [] => by rw [lss, mrg_nil']
  | x :: a, y :: b => by
    have := h.anti x y
    rw [lss, mrg_cons]
    by_cases h1 : c x y < 0
    · rw [if_neg (by omega), if_neg (by omega), if_pos h1, lss_mrg h a (y :: b)]
    · by_cases h2 : 0 < c x y
      · rw [if_pos (by omega), if_neg h1, if_pos h2, lss_mrg h (x :: a) b]
      · rw [if_neg (by omega), if_pos (by omega), if_neg h1, if_neg h2, lss_mrg h a b]
termination_by a b => a.length + b.length

/-! insertion: one element sinks -/
/-- in the list d the places up to i are in order, but for place j, which may lie too far back -/
structure Sink (c : α → α → Int) (x0 : α) (d : List α) (j i : Nat) : Prop where
  rest : ∀ p q, p < q → q ≤ i → p ≠ j → q ≠ j → c (d.getD p x0) (d.getD q x0) ≤ 0
  behind : ∀ q, j < q → q ≤ i → c (d.getD j x0) (d.getD q x0) ≤ 0
/-- the places up to i are in order -/
def Upto (c : α → α → Int) (x0 : α) (d : List α) (i : Nat) : Prop := ∀ p q, p < q → q ≤ i → c (d.getD p x0) (d.getD q x0) ≤ 0
theorem sink_start {x0 : α} {d : List α} {i : Nat} (h : Upto c x0 d i) : Sink c x0 d (i + 1) (i + 1) :=
  ⟨fun p q h1 h2 _ h4 => h p q h1 (by omega), fun q h1 h2 => by omega⟩
theorem sink_zero {x0 : α} {d : List α} {i : Nat} (h : Sink c x0 d 0 i) : Upto c x0 d i := fun p q h1 h2 => by
  by_cases e : p = 0
  · subst e; exact h.behind q h1 h2
  · exact h.rest p q h1 h2 e (by omega)
theorem sink_stop (hc : Cmp c) {x0 : α} {d : List α} {j i : Nat} (h : Sink c x0 d (j + 1) i) (hji : j + 1 ≤ i) (hs : ¬ c (d.getD (j + 1) x0) (d.getD j x0) < 0) : Upto c x0 d i := fun p q h1 h2 => by
  have h3 : c (d.getD j x0) (d.getD (j + 1) x0) ≤ 0 := by have := hc.anti (d.getD (j + 1) x0) (d.getD j x0); omega
  by_cases e : p = j + 1
  · subst e; exact h.behind q h1 h2
  · by_cases e2 : q = j + 1
    · subst e2
      by_cases e3 : p = j
      · subst e3; exact h3
      · exact hc.le_tr (h.rest p j (by omega) (by omega) e (by omega)) h3
    · exact h.rest p q h1 h2 e e2
/-- places j and j + 1 exchanged -/
def exch (x0 : α) (d : List α) (j : Nat) : List α := (d.set (j + 1) (d.getD j x0)).set j (d.getD (j + 1) x0)
theorem exch_len {x0 : α} (d : List α) (j : Nat) : (exch x0 d j).length = d.length := by simp [exch]
theorem exch_get {x0 : α} (d : List α) (j : Nat) (hj : j + 1 < d.length) (p : Nat) : (exch x0 d j).getD p x0 = if p = j then d.getD (j + 1) x0 else if p = j + 1 then d.getD j x0 else d.getD p x0 := by
  unfold exch
  rw [List.getD_eq_getElem?_getD, List.getElem?_set]
  by_cases e : p = j
  · subst e; rw [if_pos rfl, if_pos (by simp; omega), if_pos rfl]; rfl
  · rw [if_neg (fun h => e h.symm), if_neg e, List.getElem?_set]
    by_cases e2 : p = j + 1
    · subst e2; rw [if_pos rfl, if_pos (by omega), if_pos rfl]; rfl
    · rw [if_neg (fun h => e2 h.symm), if_neg e2, List.getD_eq_getElem?_getD]
theorem exch_perm {x0 : α} (d : List α) (j : Nat) (hj : j + 1 < d.length) : (exch x0 d j).Perm d := by
  have e1 : d.getD j x0 = d[j] := by rw [List.getD_eq_getElem?_getD, List.getElem?_eq_getElem (by omega)]; rfl
  have e2 : d.getD (j + 1) x0 = d[j + 1] := by rw [List.getD_eq_getElem?_getD, List.getElem?_eq_getElem hj]; rfl
  unfold exch
  rw [e1, e2]
  exact List.set_set_perm (i := j + 1) (j := j) hj (by omega)
theorem sink_step {x0 : α} {d : List α} {j i : Nat} (h : Sink c x0 d (j + 1) i) (hji : j + 1 ≤ i) (hi : i < d.length) (hs : c (d.getD (j + 1) x0) (d.getD j x0) < 0) : Sink c x0 (exch x0 d j) j i := by
  have hg := exch_get (x0 := x0) d j (by omega)
  refine ⟨fun p q h1 h2 h3 h4 => ?_, fun q h1 h2 => ?_⟩
  · rw [hg p, hg q, if_neg h3, if_neg h4]
    by_cases e : p = j + 1
    · subst e
      rw [if_pos rfl, if_neg (by omega)]
      exact h.rest j q (by omega) h2 (by omega) (by omega)
    · rw [if_neg e]
      by_cases e2 : q = j + 1
      · subst e2
        rw [if_pos rfl]
        exact h.rest p j (by omega) (by omega) e (by omega)
      · rw [if_neg e2]
        exact h.rest p q h1 h2 e e2
  · rw [hg j, hg q, if_pos rfl, if_neg (by omega)]
    by_cases e : q = j + 1
    · subst e; rw [if_pos rfl]; omega
    · rw [if_neg e]
      exact h.behind q (by omega) h2
theorem upto_srt {x0 : α} {d : List α} {i : Nat} (h : Upto c x0 d i) (hi : d.length ≤ i + 1) : Srt c d := by
  refine List.pairwise_iff_getElem.2 fun p q hp hq hpq => ?_
  have := h p q hpq (by omega)
  rw [List.getD_eq_getElem?_getD, List.getD_eq_getElem?_getD, List.getElem?_eq_getElem hp, List.getElem?_eq_getElem hq] at this
  exact this
end
end Num
end Go.Proofs.YtdnomfekblmnbaaGreatDoor

/- slices.SortFunc at keys: laid by the kit. -/
namespace Go.Proofs
open Go.Shelf
def Tryz.laysSortK_ren : Go.Shelf.Ren := ⟨fun | 6 => 95 | 15 => 80 | 14 => 137 | 28 => 126 | 29 => 127 | 20 => 167 | 21 => 168 | 22 => 169 | 23 => 170 | 24 => 171 | 25 => 172 | 26 => 173 | 27 => 174 | 46 => 201 | 47 => 161 | 48 => 162 | 49 => 202 | 50 => 203 | 57 => 215 | n => n, fun | 22 => 77 | 24 => 75 | 25 => 82 | 3 => 3 | 39 => 103 | 0 => 0 | 53 => 155 | 55 => 127 | 4 => 4 | 46 => 149 | 45 => 148 | 50 => 120 | 5 => 5 | 9 => 9 | 66 => 181 | 70 => 185 | 76 => 221 | 77 => 222 | n => n, fun | n => n⟩
theorem Tryz.laysSortK : Go.Proofs.SlLaysF0.n6 Tryz.prog Tryz.laysSortK_ren := {
  mixed := by kernel_rfl
  f6 := ⟨Tryz.f95.name, by decide, Tryz.func95.trans (congrArg some (by kernel_rfl))⟩
  f14 := ⟨Tryz.f137.name, by decide, Tryz.func137.trans (congrArg some (by kernel_rfl))⟩
  f15 := Tryz.func80.trans (congrArg some (by kernel_rfl))
  f20 := ⟨Tryz.f167.name, by decide, Tryz.func167.trans (congrArg some (by kernel_rfl))⟩
  f21 := ⟨Tryz.f168.name, by decide, Tryz.func168.trans (congrArg some (by kernel_rfl))⟩
  f22 := ⟨Tryz.f169.name, by decide, Tryz.func169.trans (congrArg some (by kernel_rfl))⟩
  f23 := ⟨Tryz.f170.name, by decide, Tryz.func170.trans (congrArg some (by kernel_rfl))⟩
  f24 := ⟨Tryz.f171.name, by decide, Tryz.func171.trans (congrArg some (by kernel_rfl))⟩
  f25 := ⟨Tryz.f172.name, by decide, Tryz.func172.trans (congrArg some (by kernel_rfl))⟩
  f26 := ⟨Tryz.f173.name, by decide, Tryz.func173.trans (congrArg some (by kernel_rfl))⟩
  f27 := ⟨Tryz.f174.name, by decide, Tryz.func174.trans (congrArg some (by kernel_rfl))⟩
  f28 := Tryz.func126.trans (congrArg some (by kernel_rfl))
  f29 := Tryz.func127.trans (congrArg some (by kernel_rfl))
  f46 := ⟨Tryz.f201.name, by decide, Tryz.func201.trans (congrArg some (by kernel_rfl))⟩
  f47 := Tryz.func161.trans (congrArg some (by kernel_rfl))
  f48 := Tryz.func162.trans (congrArg some (by kernel_rfl))
  f49 := ⟨Tryz.f202.name, by decide, Tryz.func202.trans (congrArg some (by kernel_rfl))⟩
  f50 := ⟨Tryz.f203.name, by decide, Tryz.func203.trans (congrArg some (by kernel_rfl))⟩
  f57 := ⟨Tryz.f215.name, by decide, Tryz.func215.trans (congrArg some (by kernel_rfl))⟩
  t0 := Tryz.underlying0
  a0 := Tryz.isAgg0
  z0 := Tryz.sizeOf0
  v0 := Tryz.zeroValue0
  t3 := Tryz.underlying3
  a3 := Tryz.isAgg3
  z3 := Tryz.sizeOf3
  v3 := Tryz.zeroValue3
  t4 := Tryz.underlying4
  a4 := Tryz.isAgg4
  z4 := Tryz.sizeOf4
  v4 := Tryz.zeroValue4
  t5 := Tryz.underlying5
  a5 := Tryz.isAgg5
  z5 := Tryz.sizeOf5
  v5 := Tryz.zeroValue5
  t9 := Tryz.underlying9
  a9 := Tryz.isAgg9
  z9 := Tryz.sizeOf9
  v9 := Tryz.zeroValue9
  t22 := Tryz.underlying77
  a22 := Tryz.isAgg77
  z22 := Tryz.sizeOf77
  v22 := Tryz.zeroValue77
  t25 := Tryz.underlying82
  a25 := Tryz.isAgg82
  z25 := Tryz.sizeOf82
  v25 := Tryz.zeroValue82
  t39 := Tryz.underlying103
  a39 := Tryz.isAgg103
  z39 := Tryz.sizeOf103
  v39 := Tryz.zeroValue103
  t45 := Tryz.underlying148
  a45 := Tryz.isAgg148
  z45 := Tryz.sizeOf148
  v45 := Tryz.zeroValue148
  t46 := Tryz.underlying149
  a46 := Tryz.isAgg149
  z46 := Tryz.sizeOf149
  v46 := Tryz.zeroValue149
  t50 := Tryz.underlying120
  a50 := Tryz.isAgg120
  z50 := Tryz.sizeOf120
  v50 := Tryz.zeroValue120
  t53 := Tryz.underlying155
  a53 := Tryz.isAgg155
  z53 := Tryz.sizeOf155
  v53 := Tryz.zeroValue155
  t55 := Tryz.underlying127
  a55 := Tryz.isAgg127
  z55 := Tryz.sizeOf127
  v55 := Tryz.zeroValue127
  t66 := Tryz.underlying181
  a66 := Tryz.isAgg181
  z66 := Tryz.sizeOf181
  v66 := Tryz.zeroValue181
  t70 := Tryz.underlying185
  a70 := Tryz.isAgg185
  z70 := Tryz.sizeOf185
  v70 := Tryz.zeroValue185
  t76 := Tryz.underlying221
  a76 := Tryz.isAgg221
  z76 := Tryz.sizeOf221
  v76 := Tryz.zeroValue221
  t77 := Tryz.underlying222
  a77 := Tryz.isAgg222
  z77 := Tryz.sizeOf222
  v77 := Tryz.zeroValue222 }
end Go.Proofs

/- Rows of the call's own, as the kit's sort speaks of them. -/
namespace Go.Proofs.YtdnomfekblmnbaaGreatDoor
open Go.RowKit Go.Sort Go.Lib

theorem flat_len {α : Type} (enc : α → List Value) (k : Nat) (hk : ∀ x, (enc x).length = k) (l : List α) : (l.flatMap enc).length = l.length * k := by
  induction l with
  | nil => simp
  | cons a l ih => rw [List.flatMap_cons, List.length_append, ih, hk, List.length_cons, Nat.add_mul]; omega
theorem flat_get {α : Type} [Inhabited α] (enc : α → List Value) (k : Nat) (hk : ∀ x, (enc x).length = k) : ∀ (l : List α) (t : Nat), t < l.length * k → (l.flatMap enc)[t]? = some ((enc (l[t / k]!))[t % k]!)
  | [], t, h => by simp at h
  | a :: l, t, h => by
    have hk0 : 0 < k := by
      rcases Nat.eq_zero_or_pos k with h0 | h0
      · rw [h0] at h; simp at h
      · exact h0
    rw [List.flatMap_cons]
    by_cases ht : t < k
    · rw [List.getElem?_append_left (by rw [hk]; exact ht), Nat.div_eq_of_lt ht, Nat.mod_eq_of_lt ht]
      simp only [List.getElem!_cons_zero]
      rw [List.getElem?_eq_getElem (by rw [hk]; exact ht), getElem!_pos (enc a) t (by rw [hk]; exact ht)]
    · obtain ⟨s, rfl⟩ : ∃ s, t = s + k := ⟨t - k, by omega⟩
      rw [List.getElem?_append_right (by rw [hk]; omega), hk, Nat.add_sub_cancel, Nat.add_div_right _ hk0, Nat.add_mod_right]
      simp only [List.getElem!_cons_succ]
      refine flat_get enc k hk l s ?_
      rw [List.length_cons, Nat.add_mul] at h
      omega
theorem flat_eq {α : Type} [Inhabited α] (enc : α → List Value) (k : Nat) (hk : ∀ x, (enc x).length = k) (l : List α) : flatK enc k l.toArray = (l.flatMap enc).toArray := by
  refine ext_get! (by rw [size_flatK]; simp only [List.size_toArray, flat_len enc k hk]) fun t ht => ?_
  rw [size_flatK] at ht
  simp only [List.size_toArray] at ht
  rw [get_flatK enc k _ t (by simpa using ht)]
  have h := flat_get enc k hk l t ht
  have h2 : t < (l.flatMap enc).length := by rw [flat_len enc k hk]; exact ht
  rw [List.getElem?_eq_getElem h2] at h
  rw [getElem!_pos (l.flatMap enc).toArray t (by simpa using h2)]
  simp only [List.getElem_toArray]
  rw [Option.some.inj h]
  simp
theorem own_holds {α : Type} [Inhabited α] (enc : α → List Value) (k : Nat) (hk : ∀ x, (enc x).length = k) {w : World} {B e : Nat} {v : Value} {l : List α} (h : w.ownsRow B e k v l.length (l.flatMap enc)) (hne : 0 < l.length) :
    ∃ g cap, v = .slice (some ⟨g, 0, none⟩) l.length cap ∧ B ≤ g ∧ g < w.heap.size ∧ HoldsK enc k w g 0 l.toArray := by
  rcases h.2 with ⟨_, h0⟩ | ⟨g, cap, cur, hv, hB, hg, hc, hm, hsz, htake⟩
  · omega
  · refine ⟨g, cap, hv, hB, ?_, fun j hj => ?_⟩
    · rcases Nat.lt_or_ge g w.heap.size with h' | h'
      · exact h'
      · rw [Array.getElem?_eq_none h'] at hg; cases hg
    · rw [size_flatK] at hj
      simp only [List.size_toArray] at hj
      rw [cell_of_row _ _ _ _ _ _ hg, frozen_of_row _ _ _ _ _ hg, Nat.zero_add]
      refine ⟨?_, rfl⟩
      have h1 : cur[j]? = (l.flatMap enc)[j]? := by
        rw [← htake, List.getElem?_take, if_pos hj, Array.getElem?_toList]
      rw [h1, flat_get enc k hk l j hj, get_flatK enc k _ j (by simpa using hj)]
      simp
theorem own_put {α : Type} [Inhabited α] (enc : α → List Value) (k : Nat) (hk : ∀ x, (enc x).length = k) {w : World} {B e : Nat} {g n cap : Nat} {l m : List α} (h : w.ownsRow B e k (.slice (some ⟨g, 0, none⟩) l.length cap) l.length (l.flatMap enc)) (hl : m.length = l.length) (hne : 0 < l.length) (os : Array Obj) :
    (grow (putRowK enc k (Sort.ahead w n) g 0 m.toArray) os).ownsRow B e k (.slice (some ⟨g, 0, none⟩) l.length cap) m.length (m.flatMap enc) ∧ Below B w (grow (putRowK enc k (Sort.ahead w n) g 0 m.toArray) os) := by
  rcases h.2 with ⟨_, h0⟩ | ⟨g', cap', cur, hv, hB, hg, hc, hm, hsz, htake⟩
  · omega
  injection hv with hv1 hv2 hv3
  injection hv1 with hv1
  injection hv1 with hv1
  subst hv1 hv3
  have hlt : g < w.heap.size := by
    rcases Nat.lt_or_ge g w.heap.size with h' | h'
    · exact h'
    · rw [Array.getElem?_eq_none h'] at hg; cases hg
  have hbl : ∀ i, i < w.heap.size → i ≠ g → (grow (putRowK enc k (Sort.ahead w n) g 0 m.toArray) os).heap[i]? = w.heap[i]? := fun i hi hne => by
    simp only [grow]
    rw [Array.getElem?_append_left (by simpa [putRowK, Sort.ahead] using hi)]
    simp [putRowK, putRow, mapBlock, Sort.ahead, Array.getElem?_modify, hne.symm]
  have hrow : (grow (putRowK enc k (Sort.ahead w n) g 0 m.toArray) os).heap[g]? = some (.cells (putCells id 0 (flatK enc k m.toArray) cur) e (0, 0)) := by
    simp only [grow]
    rw [Array.getElem?_append_left (by simpa [putRowK, Sort.ahead] using hlt)]
    simp [putRowK, putRow, mapBlock, Sort.ahead, Array.getElem?_modify, hg, onCells]
  have hml : (m.flatMap enc).length = m.length * k := flat_len enc k hk m
  refine ⟨⟨hml, .inr ⟨g, cap, _, by rw [hl], hB, hrow, by omega, hm, by simp [putCells, hsz], ?_⟩⟩, ?_⟩
  · rw [flat_eq enc k hk]
    apply List.ext_getElem?
    intro i
    rw [List.getElem?_take]
    by_cases hi : i < m.length * k
    · have hi2 : i < cap * k := Nat.lt_of_lt_of_le hi (Nat.mul_le_mul_right k (by omega))
      rw [if_pos hi, Array.getElem?_toList]
      simp only [putCells, Array.getElem?_mapIdx, List.size_toArray]
      rw [Array.getElem?_eq_getElem (by omega), Option.map_some, if_pos ⟨Nat.zero_le _, by omega⟩, Nat.sub_zero, getElem!_pos _ i (by simpa using (by omega : i < (m.flatMap enc).length)), List.getElem?_eq_getElem (by omega)]
      simp
    · rw [if_neg hi, List.getElem?_eq_none (by omega)]
  · exact ⟨rfl, rfl, rfl, by simp [grow, putRowK, Sort.ahead], fun i hi => hbl i (by omega) (by omega)⟩
end Go.Proofs.YtdnomfekblmnbaaGreatDoor

/- Contract of slices.SortFunc at keys and key.compare. -/
namespace Go.Proofs.YtdnomfekblmnbaaGreatDoor
open Go.RowKit Go.Sort Go.Lib Go.Shelf Num

set_option maxRecDepth 100000 in
set_option maxHeartbeats 2000000 in
theorem kcmp_grow (a b : Ky) (w : World) : Calls Tryz.prog 67 #[.agg (encK a).toArray, .agg (encK b).toArray] w fun e w' => e = .returned (.int .i64 (cmpKy a b)) ∧ ∃ q os', w' = grow (w.drewN q) os' := by
  obtain ⟨a1, a2⟩ := a
  obtain ⟨b1, b2⟩ := b
  have hv := Lib.hid (show cmpKy (a1, a2) (b1, b2) = orI [cmpS a1 b1, cmpS a2 b2] by rw [orI2]; rfl)
  simp only [encK]
  go_enter Tryz.func67, Tryz.ntmps67
  go_wp2_with fail
  have HG := Lib.hid (show ((w.alloc (.cells #[.string ⟨a1.toArray⟩, .string ⟨a2.toArray⟩] 75)).alloc (.cells #[.string ⟨b1.toArray⟩, .string ⟨b2.toArray⟩] 75)) = grow w #[.cells #[.string ⟨a1.toArray⟩, .string ⟨a2.toArray⟩] 75, .cells #[.string ⟨b1.toArray⟩, .string ⟨b2.toArray⟩] 75] from by rw [alloc_eq_grow, alloc_eq_grow, grow_grow]; rfl)
  have x0 : ((w.alloc (.cells #[.string ⟨a1.toArray⟩, .string ⟨a2.toArray⟩] 75)).alloc (.cells #[.string ⟨b1.toArray⟩, .string ⟨b2.toArray⟩] 75)).cell? ⟨w.heap.size, 0, none⟩ = some (.string ⟨a1.toArray⟩) := by go_simp
  have x1 : ((w.alloc (.cells #[.string ⟨a1.toArray⟩, .string ⟨a2.toArray⟩] 75)).alloc (.cells #[.string ⟨b1.toArray⟩, .string ⟨b2.toArray⟩] 75)).cell? ⟨w.heap.size, 1, none⟩ = some (.string ⟨a2.toArray⟩) := by go_simp
  have y0 : ((w.alloc (.cells #[.string ⟨a1.toArray⟩, .string ⟨a2.toArray⟩] 75)).alloc (.cells #[.string ⟨b1.toArray⟩, .string ⟨b2.toArray⟩] 75)).cell? ⟨w.heap.size + 1, 0, none⟩ = some (.string ⟨b1.toArray⟩) := by go_simp
  have y1 : ((w.alloc (.cells #[.string ⟨a1.toArray⟩, .string ⟨a2.toArray⟩] 75)).alloc (.cells #[.string ⟨b1.toArray⟩, .string ⟨b2.toArray⟩] 75)).cell? ⟨w.heap.size + 1, 1, none⟩ = some (.string ⟨b2.toArray⟩) := by go_simp
  generalize ((w.alloc (.cells #[.string ⟨a1.toArray⟩, .string ⟨a2.toArray⟩] 75)).alloc (.cells #[.string ⟨b1.toArray⟩, .string ⟨b2.toArray⟩] 75)) = W at *
  have ne0 := World.new_ne W ⟨w.heap.size, 0, none⟩ x0
  have ne1 := World.new_ne W ⟨w.heap.size, 1, none⟩ x1
  have ne2 := World.new_ne W ⟨w.heap.size + 1, 0, none⟩ y0
  have ne3 := World.new_ne W ⟨w.heap.size + 1, 1, none⟩ y1
  go_region_held3 (fun w' => w'.cell? ⟨w.heap.size, 0, none⟩ = some (.string ⟨a1.toArray⟩) ∧ w'.cell? ⟨w.heap.size, 1, none⟩ = some (.string ⟨a2.toArray⟩) ∧ w'.cell? ⟨w.heap.size + 1, 0, none⟩ = some (.string ⟨b1.toArray⟩) ∧ w'.cell? ⟨w.heap.size + 1, 1, none⟩ = some (.string ⟨b2.toArray⟩)) (go_keep)
    (first
      | (go_at_call 48; refine (cmpS_any _ _ _).mono ?_; rintro e w' ⟨rfl, rfl⟩)
      | (go_at_call 46; refine (Or_any _ _ _ [cmpS a1 b1, cmpS a2 b2] _ (ints2d _ _ _)).mono ?_; rintro e w' ⟨rfl, rfl⟩))
  go_wp2_with fail
  go_ret
  refine ⟨by rw [hv.out]; rfl, 1, #[.cells #[.string ⟨a1.toArray⟩, .string ⟨a2.toArray⟩] 75, .cells #[.string ⟨b1.toArray⟩, .string ⟨b2.toArray⟩] 75] ++ #[.cells #[.int .i64 (cmpS a1 b1), .int .i64 (cmpS a2 b2)] 3], ?_⟩
  rw [HG.out, alloc_eq_grow, grow_grow]
  rfl
theorem cmpLaysK (blk off size : Nat) (w : World) : CmpLays Tryz.prog 67 #[] encK 2 cmpKy blk off size w :=
  fun _ _ _ _ x y => kcmp_grow x y _
theorem lt_of_K (x y : Ky) : ltOf cmpKy x y = decide (cmpKy x y < 0) := rfl
theorem swoK : SWO (ltOf cmpKy) where
  irrefl x := by rw [lt_of_K, cmpKy_cmp.self]; rfl
  trans x y z h1 h2 := by
    rw [lt_of_K, decide_eq_true_eq] at *
    have r1 := cmpKy_cmp.rng x y
    have r2 := cmpKy_cmp.rng y z
    have := cmpKy_cmp.tr x y z (by omega) (by omega)
    omega
  ntrans x y z h1 h2 := by
    rw [lt_of_K, decide_eq_false_iff_not] at *
    have a1 := cmpKy_cmp.anti x y
    have a2 := cmpKy_cmp.anti y z
    have a3 := cmpKy_cmp.anti x z
    have := cmpKy_cmp.le_tr (a := z) (b := y) (d := x) (by omega) (by omega)
    omega
theorem totK (x y : Ky) (h1 : ltOf cmpKy x y = false) (h2 : ltOf cmpKy y x = false) : x = y := by
  rw [lt_of_K, decide_eq_false_iff_not] at *
  have := cmpKy_cmp.anti x y
  exact cmpKy_zero.1 (by omega)
def SortKP (B : Nat) (w : World) (v : Value) (l : List Ky) (e : Ending) (w' : World) : Prop :=
  e = .returned (.tuple #[]) ∧ ∃ m : List Ky, m.Perm l ∧ Srt cmpKy m ∧ rowK.Own B w' v m ∧ Below B w w'
theorem sortK_any (B : Nat) (v : Value) (l : List Ky) (w : World) (h : rowK.Own B w v l) (h1 : l.length ≤ 1000) (hB : B ≤ w.heap.size) :
    Calls Tryz.prog 95 #[v, .func (.func 67) #[] #[]] w (SortKP B w v l) := by
  by_cases h0 : 0 < l.length
  case neg =>
    have hl : l = [] := List.eq_nil_of_length_eq_zero (by omega)
    subst hl
    obtain ⟨A, c, rfl⟩ := h.slice
    have hc := AnyF.slices_SortFunc_none Tryz.laysSortK A c (.func (.func 67) #[] #[]) w
    refine Calls.mono (show Calls Tryz.prog 95 #[.slice A 0 c, .func (.func 67) #[] #[]] w _ from hc) fun e w' ⟨he, hw⟩ => ?_
    subst hw
    exact ⟨he, [], List.Perm.refl _, List.Pairwise.nil, h, Below.refl _ _⟩
  obtain ⟨g, cap, rfl, hB, hg, hH⟩ := own_holds encK 2 (fun _ => rfl) h h0
  have eg : ∀ args w, (callFunc 67 args).run Tryz.prog w = .ok (.enter 67 args) w := enters_of Tryz.func67 (by kernel_rfl) rfl
  have hc := AnyQ.slices_SortFunc_total Tryz.laysSortK 2 Tryz.isAgg75 Tryz.sizeOf75 encK (fun _ => rfl) (fun x v hv => rowK_ok.h1 x v hv) cmpKy swoK 67 #[] g 0 cap l.toArray w eg (cmpLaysK g 0 _ w) hH hg (by simp; omega) totK
  refine Calls.mono (show Calls Tryz.prog 95 #[.slice (some ⟨g, 0, none⟩) l.length cap, .func (.func 67) #[] #[]] w _ from hc) fun e w' ⟨he, n, os, hw⟩ => ?_
  have hp : (l.mergeSort fun x y => !(ltOf cmpKy) y x).Perm l := List.mergeSort_perm _ _
  obtain ⟨p1, p2⟩ := own_put encK 2 (fun _ => rfl) (n := n) (m := l.mergeSort fun x y => !(ltOf cmpKy) y x) h hp.length_eq h0 os
  have e : grow (putRowK encK 2 (Sort.ahead w n) g 0 (l.mergeSort fun x y => !(ltOf cmpKy) y x).toArray) os = w' := by
    rw [hw]; rfl
  rw [e] at p1 p2
  refine ⟨he, _, hp, ?_, p1, p2⟩
  have hs := List.pairwise_mergeSort (le := fun x y => !(ltOf cmpKy) y x) (fun a b c h1 h2 => by
    rw [lt_of_K, Bool.not_eq_true', decide_eq_false_iff_not] at *
    have a1 := cmpKy_cmp.anti a b
    have a2 := cmpKy_cmp.anti b c
    have a3 := cmpKy_cmp.anti a c
    have := cmpKy_cmp.le_tr (a := a) (b := b) (d := c) (by omega) (by omega)
    omega) (fun a b => by
    rw [lt_of_K, lt_of_K, Bool.or_eq_true, Bool.not_eq_true', Bool.not_eq_true', decide_eq_false_iff_not, decide_eq_false_iff_not]
    have a1 := cmpKy_cmp.anti a b
    omega) l
  refine hs.imp fun {a b} hab => ?_
  rw [lt_of_K, Bool.not_eq_true', decide_eq_false_iff_not] at hab
  have a1 := cmpKy_cmp.anti a b
  omega
end Go.Proofs.YtdnomfekblmnbaaGreatDoor

/- Contracts of the sorting of entries: insertionSortCmpFunc, pdqsortCmpFunc (12 elements or fewer), SortFunc. -/
namespace Go.Proofs.YtdnomfekblmnbaaGreatDoor
open Go.RowKit Go.Maps Num

def cE (p q : RE) : Int := cmpE p.2 q.2
theorem cE_cmp : Cmp cE := cmpE_cmp.pull Prod.snd
theorem getD_mem {α : Type} (x0 : α) (l : List α) (k : Nat) (h : k < l.length) : l.getD k x0 ∈ l := by
  rw [List.getD_eq_getElem?_getD, List.getElem?_eq_getElem h]
  exact List.getElem_mem h
/-- the comparison of two entries that lie in memory -/
theorem ecmp_re (p q : RE) (w : World) (hp : RdE w p) (hq : RdE w q) :
    Calls Tryz.prog 14 #[.agg (encE p).toArray, .agg (encE q).toArray] w fun e w' => e = .returned (.int .i64 (cE p q)) ∧ Below w.heap.size w w' := by
  obtain ⟨⟨d1, z1, A1, n1, c1⟩, e1, f1, k1⟩ := p
  obtain ⟨⟨d2, z2, A2, n2, c2⟩, e2, f2, k2⟩ := q
  obtain ⟨h1, h2, h3⟩ := hp
  obtain ⟨h4, h5, h6⟩ := hq
  simp only at h1 h2 h4 h5
  subst h1 h2 h4 h5
  exact ecmp_any d1 d2 z1 z2 A1 A2 n1 c1 n2 c2 k1 k2 w h3 h6
/-- the row holds, up to place k, entries in order -/
def OutR (B : Nat) (w : World) (v : Value) (g : Nat) (ps : List RE) (k : Nat) (W : World) : Prop :=
  ∃ qs : List RE, qs.Perm ps ∧ Upto cE re0 qs (k - 1) ∧ rowE.Own B W v qs ∧ w.grownBy W (some g)
def InR (B : Nat) (w : World) (v : Value) (g : Nat) (ps : List RE) (k q : Nat) (W : World) : Prop :=
  ∃ qs : List RE, qs.Perm ps ∧ Sink cE re0 qs q k ∧ rowE.Own B W v qs ∧ w.grownBy W (some g)
theorem InR.dr {B : Nat} {w W : World} {v : Value} {g : Nat} {ps : List RE} {k q : Nat} (h : Hid (InR B w v g ps k q W)) : Hid (InR B w v g ps k q W.drew) := by
  obtain ⟨qs, q1, q2, q3, q4⟩ := h.out
  exact ⟨qs, q1, q2, q3.dr 1, grown_below q4 (below_dr (Below.refl W.heap.size W) 1)⟩
def SortP (B : Nat) (w : World) (v : Value) (ps : List RE) (e : Ending) (w' : World) : Prop :=
  e = .returned (.tuple #[]) ∧ ∃ qs : List RE, qs.Perm ps ∧ Srt cE qs ∧ rowE.Own B w' v qs ∧ w.grownBy w' v.ownBlock
set_option maxRecDepth 100000 in
set_option maxHeartbeats 1500000 in
theorem insort_any (B g cap n : Nat) (w0 w : World) (ps : List RE) (hown : rowE.Own B w (.slice (some ⟨g, 0, none⟩) n cap) ps) (hr : ∀ p ∈ ps, RdE w0 p) (hb0 : Below w0.heap.size w0 w) (hB : w0.heap.size ≤ B) (hgB : B ≤ g) (hgs : g < w.heap.size) (hn : n ≤ 1000) (hlen : ps.length = n) :
    Calls Tryz.prog 118 #[.slice (some ⟨g, 0, none⟩) n cap, .int .i64 0, .int .i64 (n : Int), .func (.func 14) #[] #[]] w (SortP B w (.slice (some ⟨g, 0, none⟩) n cap) ps) := by
  have HL := Lib.hid hlen
  have HR := Lib.hid hr
  have H0 := Lib.hid hb0
  have R0 := Lib.hid (show OutR B w (.slice (some ⟨g, 0, none⟩) n cap) g ps 1 w from ⟨ps, List.Perm.refl _, fun p q h1 h2 => by omega, hown, grown_refl w _⟩)
  have HBW := Lib.hid (fun W (h : w.grownBy W (some g)) => below_own hb0 (Nat.le_refl _) h (fun q e => by cases e; exact Nat.le_trans hB hgB))
  have HP := Lib.hid (show ∀ W, (∃ qs : List RE, qs.Perm ps ∧ Srt cE qs ∧ rowE.Own B W (.slice (some ⟨g, 0, none⟩) n cap) qs ∧ w.grownBy W (some g)) → SortP B w (.slice (some ⟨g, 0, none⟩) n cap) ps (.returned (.tuple #[])) W from fun W h => ⟨rfl, h⟩)
  clear hown hr hb0 hlen
  generalize SortP B w (.slice (some ⟨g, 0, none⟩) n cap) ps = Post at *
  go_enter Tryz.func118, Tryz.ntmps118
  go_wp2_with fail
  go_loopw [8] (fun i wr => ∃ k : Nat, 1 ≤ k ∧ (k ≤ n ∨ k = 1) ∧ i = .int .i64 (k : Int) ∧ Hid (OutR B w (.slice (some ⟨g, 0, none⟩) n cap) g ps k wr)) (fun i _ => n - (intOf i).toNat)
  case atStart => exact ⟨1, by omega, .inr rfl, rfl, R0⟩
  case round =>
    clear R0
    obtain ⟨k, hk1, hk2, rfl, hR⟩ := hrel
    by_cases hlt : k < n
    case neg =>
      have hki : decide ((k : Int) < (n : Int)) = false := by rw [decide_eq_false_iff_not]; omega
      obtain ⟨qs, q1, q2, q3, q4⟩ := hR.out
      have hq := Lib.hid (HP.out wr ⟨qs, q1, upto_srt q2 (by have := q1.length_eq; rw [HL.out] at this; omega), q3, q4⟩)
      clear q1 q2 q3 q4 hR
      go_wp2_with fail
      go_end0
      exact hq.out
    have hki : (k : Int) < (n : Int) := by omega
    obtain ⟨wo, hwo⟩ : ∃ wo, wo = wr := ⟨_, rfl⟩
    subst hwo
    go_wp2_with fail
    have I0 := Lib.hid (show InR B w (.slice (some ⟨g, 0, none⟩) n cap) g ps k k wo by
      obtain ⟨qs, q1, q2, q3, q4⟩ := hR.out
      have := sink_start q2
      rw [show k - 1 + 1 = k by omega] at this
      exact ⟨qs, q1, this, q3, q4⟩)
    clear hR
    go_loopw [9] (fun j wr => ∃ q : Nat, q ≤ k ∧ j = .int .i64 (q : Int) ∧ Hid (InR B w (.slice (some ⟨g, 0, none⟩) n cap) g ps k q wr)) (fun j _ => (intOf j).toNat)
    case atStart => exact ⟨k, Nat.le_refl _, rfl, I0⟩
    case round =>
      clear I0
      obtain ⟨q, hq, rfl, hI⟩ := hrel
      obtain ⟨qs, q1, q2, q3, q4⟩ := hI.out
      have hql := q1.length_eq
      rw [HL.out] at hql
      have Q1 := Lib.hid q1
      have Q2 := Lib.hid q2
      have Q3 := Lib.hid q3
      have Q4 := Lib.hid q4
      have HW := Lib.hid (HBW.out _ q4)
      have hgr : g < wr.heap.size := Nat.lt_of_lt_of_le hgs q4.size
      clear hI q1 q2 q3 q4
      by_cases hz : q = 0
      · subst hz
        have hzi : decide ((0 : Int) < ((0 : Nat) : Int)) = false := by decide
        have hU := Lib.hid (sink_zero Q2.out)
        go_wp2_with fail
        go_quiet (fail)
        have Q4' := Lib.hid (grown_below Q4.out (below_dr (Below.refl wr.heap.size wr) nq))
        have hO := Lib.hid (show OutR B w (.slice (some ⟨g, 0, none⟩) n cap) g ps (k + 1) (wr.drewN nq) from ⟨qs, Q1.out, hU.out, Q3.out.dr nq, Q4'.out⟩)
        go_wp2_with fail
        exact ⟨⟨k + 1, by omega, .inl (by omega), by go_num, hO⟩, by simp [intOf]; omega⟩
      · obtain ⟨j, hj⟩ : ∃ j, q = j + 1 := ⟨q - 1, by omega⟩
        have hjn : j < n := by omega
        have hqn : q < n := by omega
        have hmx := getD_mem re0 qs q (by omega)
        have hmy := getD_mem re0 qs j (by omega)
        have hRx := (HR.out _ (Q1.out.mem_iff.1 hmx)).below HW.out
        have hRy := (HR.out _ (Q1.out.mem_iff.1 hmy)).below HW.out
        obtain ⟨r0, r1, r2⟩ := own_cells3 Q3.out q hqn
        obtain ⟨s0, s1, s2⟩ := own_cells3 Q3.out j hjn
        have hst := Lib.hid (fun h => sink_step (x0 := re0) (show Sink cE re0 qs (j + 1) k by rw [← hj]; exact Q2.out) (by omega) (by omega) h)
        have hsp := Lib.hid (fun h => sink_stop cE_cmp (x0 := re0) (show Sink cE re0 qs (j + 1) k by rw [← hj]; exact Q2.out) (by omega) h)
        rw [← hj] at hst hsp
        have hex := Lib.hid (show exch re0 qs j = (qs.set q (qs.getD j re0)).set j (qs.getD q re0) by rw [hj]; rfl)
        have hpm := Lib.hid (show (exch re0 qs j).Perm ps from (exch_perm qs j (by omega)).trans Q1.out)
        have ce := ecmp_re (qs.getD q re0) (qs.getD j re0) wr.drew (hRx.below (below_dr (Below.refl _ _) 1)) (hRy.below (below_dr (Below.refl _ _) 1))
        have hw : IntKind.i64.wrap ((q : Int) - 1) = (j : Int) := (IntWalk.i64_in _ (by omega)).trans (by omega)
        have hqi : (q : Int) < (n : Int) := by omega
        have hji : (j : Int) < (n : Int) := by omega
        have hq0 : 0 < q := by omega
        have hq0i : (0 : Int) < (q : Int) := by omega
        generalize hxe : qs.getD q re0 = x at *
        generalize hye : qs.getD j re0 = y at *
        obtain ⟨⟨d1, z1, A1, n1, c1⟩, x2⟩ := x
        obtain ⟨⟨d2, z2, A2, n2, c2⟩, y2⟩ := y
        simp only at r0 r1 r2 s0 s1 s2
        simp only [encE, rawA, rawN, rawC] at ce
        generalize cE ((d1, z1, A1, n1, c1), x2) ((d2, z2, A2, n2, c2), y2) = cv at *
        have CE := Lib.hid ce
        have HBr := Lib.hid (Below.refl wr.heap.size wr)
        have HS := Lib.hid (And.intro r0 (And.intro r1 (And.intro r2 (And.intro s0 (And.intro s1 s2)))))
        have hjh := Lib.hid hj
        clear ce hmx hmy hRx hRy hxe hye hj
        go_wp2_with fail
        go_region_held3 (fun w' => w'.cell? ⟨g, q * 3, none⟩ = some (.int .i64 d1) ∧ w'.cell? ⟨g, q * 3 + 1, none⟩ = some (.string ⟨z1.toArray⟩) ∧ w'.cell? ⟨g, q * 3 + 2, none⟩ = some (.slice A1 n1 c1) ∧ w'.cell? ⟨g, j * 3, none⟩ = some (.int .i64 d2) ∧ w'.cell? ⟨g, j * 3 + 1, none⟩ = some (.string ⟨z2.toArray⟩) ∧ w'.cell? ⟨g, j * 3 + 2, none⟩ = some (.slice A2 n2 c2))
          (first | exact ⟨f0, f1, f2, f3, f4, f5⟩ | exact ⟨r0, r1, r2, s0, s1, s2⟩ | go_keep)
          (first
            | (go_at_call 14; refine CE.out.mono ?_; rintro e w' ⟨rfl, hb⟩; have HBr := Lib.hid (below_next HBr.out hb ⟨rfl, rfl, rfl, rfl⟩); have f0 := (HBr.out.cell (p := ⟨g, q * 3, none⟩) hgr).trans HS.out.1; have f1 := (HBr.out.cell (p := ⟨g, q * 3 + 1, none⟩) hgr).trans HS.out.2.1; have f2 := (HBr.out.cell (p := ⟨g, q * 3 + 2, none⟩) hgr).trans HS.out.2.2.1; have f3 := (HBr.out.cell (p := ⟨g, j * 3, none⟩) hgr).trans HS.out.2.2.2.1; have f4 := (HBr.out.cell (p := ⟨g, j * 3 + 1, none⟩) hgr).trans HS.out.2.2.2.2.1; have f5 := (HBr.out.cell (p := ⟨g, j * 3 + 2, none⟩) hgr).trans HS.out.2.2.2.2.2; clear hb))
        have Q3' := Lib.hid (Q3.out.below HBr.out)
        have Q4' := Lib.hid (grown_below Q4.out HBr.out)
        by_cases hc : cv < 0
        · have k0 := Q3'.out.frz (q * 3)
          have k1 := Q3'.out.frz (q * 3 + 1)
          have k2 := Q3'.out.frz (q * 3 + 2)
          have k3 := Q3'.out.frz (j * 3)
          have k4 := Q3'.out.frz (j * 3 + 1)
          have k5 := Q3'.out.frz (j * 3 + 2)
          have hSt := Lib.hid (hst.out hc)
          clear r0 r1 r2 s0 s1 s2 hst hsp
          have nn0 : q * 3 ≠ j * 3 + 1 := by omega
          have nn1 : q * 3 ≠ j * 3 + 2 := by omega
          have nn2 : q * 3 + 1 ≠ j * 3 := by omega
          have nn3 : q * 3 + 2 ≠ j * 3 := by omega
          have nn4 : q * 3 + 1 ≠ j * 3 + 2 := by omega
          have nn5 : q * 3 + 2 ≠ j * 3 + 1 := by omega
          have nn6 : q ≠ j := by have := hjh.out; omega
          have nn7 : q * 3 ≠ j * 3 := by have := hjh.out; omega
          have nn8 : j * 3 ≠ q * 3 + 1 := by omega
          have nn9 : j * 3 ≠ q * 3 + 2 := by omega
          have nn10 : j * 3 + 1 ≠ q * 3 := by omega
          have nn11 : j * 3 + 2 ≠ q * 3 := by omega
          have nn12 : j * 3 + 1 ≠ q * 3 + 2 := by omega
          have nn13 : j * 3 + 2 ≠ q * 3 + 1 := by omega
          have nn14 : j ≠ q := by have := hjh.out; omega
          have nn15 : j * 3 ≠ q * 3 := by have := hjh.out; omega
          go_wp2_with fail
          go_region
          clear k0 k1 k2 k3 k4 k5 f0 f1 f2 f3 f4 f5 nn0 nn1 nn2 nn3 nn4 nn5 nn6 nn7 nn8 nn9 nn10 nn11 nn12 nn13 nn14 nn15
          have hI := Lib.hid (show InR B w (.slice (some ⟨g, 0, none⟩) n cap) g ps k j ((((((w'.setCell ⟨g, q * 3, none⟩ (.int .i64 d2)).setCell ⟨g, q * 3 + 1, none⟩ (.string ⟨z2.toArray⟩)).setCell ⟨g, q * 3 + 2, none⟩ (.slice A2 n2 c2)).setCell ⟨g, j * 3, none⟩ (.int .i64 d1)).setCell ⟨g, j * 3 + 1, none⟩ (.string ⟨z1.toArray⟩)).setCell ⟨g, j * 3 + 2, none⟩ (.slice A1 n1 c1)) by
            obtain ⟨o1, t1⟩ := Q3'.out.set3 rowE_ok.hk rfl q ((d2, z2, A2, n2, c2), y2) (.int .i64 d2) (.string ⟨z2.toArray⟩) (.slice A2 n2 c2) (by omega) rfl
            obtain ⟨o2, t2⟩ := o1.set3 rowE_ok.hk rfl j ((d1, z1, A1, n1, c1), x2) (.int .i64 d1) (.string ⟨z1.toArray⟩) (.slice A1 n1 c1) (by rw [List.length_set]; omega) rfl
            rw [← hex.out] at o2
            exact ⟨_, hpm.out, hSt.out, o2, grown_tr Q4'.out (grown_tr t1 t2)⟩)
          go_wp2_with fail
          go_roundw
          case rel => exact ⟨j, by have := hjh.out; omega, by go_num, InR.dr hI⟩
          case measure => (have := hjh.out; have := hw; simp [intOf]; omega)
        · have hU := Lib.hid (hsp.out (by omega))
          have hO := Lib.hid (show OutR B w (.slice (some ⟨g, 0, none⟩) n cap) g ps (k + 1) w' from ⟨qs, Q1.out, hU.out, Q3'.out, Q4'.out⟩)
          go_wp2_with fail
          exact ⟨⟨k + 1, by omega, .inl (by omega), by go_num, hO⟩, by simp [intOf]; omega⟩
theorem SortP.nil (B : Nat) (w : World) (A : Option Addr) (c : Nat) (h : rowE.Own B w (.slice A 0 c) []) : SortP B w (.slice A 0 c) [] (.returned (.tuple #[])) w :=
  ⟨rfl, [], List.Perm.refl _, List.Pairwise.nil, h, grown_refl w _⟩
set_option maxRecDepth 100000 in
theorem insort_nil (A : Option Addr) (c : Nat) (w : World) : Calls Tryz.prog 118 #[.slice A 0 c, .int .i64 0, .int .i64 0, .func (.func 14) #[] #[]] w fun e w' => e = .returned (.tuple #[]) ∧ w = w' := by
  go_enter Tryz.func118, Tryz.ntmps118
  go_wp2_with fail
  refine wp_loop_rounds 1 ?_
  rw [rounds_succ]
  go_wp2_with fail
  go_end0
  exact ⟨rfl, rfl⟩
theorem insort_all (B : Nat) (v : Value) (n : Nat) (w0 w : World) (ps : List RE) (hown : rowE.Own B w v ps) (hr : ∀ p ∈ ps, RdE w0 p) (hb0 : Below w0.heap.size w0 w) (hB : w0.heap.size ≤ B) (hn : n ≤ 1000) (hlen : ps.length = n) :
    Calls Tryz.prog 118 #[v, .int .i64 0, .int .i64 (n : Int), .func (.func 14) #[] #[]] w (SortP B w v ps) := by
  by_cases h0 : 0 < ps.length
  · obtain ⟨g, cap, rfl, hg, hgs, _⟩ := hown.pos h0
    rw [hlen] at hown ⊢
    exact insort_any B g cap n w0 w ps hown hr hb0 hB hg hgs hn hlen
  · have hp : ps = [] := List.eq_nil_of_length_eq_zero (by omega)
    subst hp
    obtain ⟨A, c, rfl⟩ := hown.slice
    simp only [List.length_nil] at hlen hown ⊢
    subst hlen
    exact (insort_nil A c w).mono fun e w' ⟨he, hw⟩ => by subst he hw; exact SortP.nil B w A c hown
set_option maxRecDepth 100000 in
theorem pdq_any (B : Nat) (A : Option Addr) (n c : Nat) (lim : Int) (w0 w : World) (ps : List RE) (hown : rowE.Own B w (.slice A n c) ps) (hr : ∀ p ∈ ps, RdE w0 p) (hb0 : Below w0.heap.size w0 w) (hB : w0.heap.size ≤ B) (hn : n ≤ 12) (hlen : ps.length = n) :
    Calls Tryz.prog 79 #[.slice A n c, .int .i64 0, .int .i64 (n : Int), .int .i64 lim, .func (.func 14) #[] #[]] w (SortP B w (.slice A n c) ps) := by
  have HI := Lib.hid (insort_all B (.slice A n c) n w0 w ps hown hr hb0 hB (by omega) hlen)
  clear hown hr hb0 hlen hB
  have hd : decide ((n : Int) ≤ 12) = true := by rw [decide_eq_true_iff]; omega
  unfold SortP at *
  go_enter Tryz.func79, Tryz.ntmps79
  go_wp2_with fail
  refine wp_loop_rounds 1 ?_
  rw [rounds_succ]
  go_wp2_with fail
  refine HI.out.mono ?_
  rintro e w1 ⟨rfl, h⟩
  have HH := Lib.hid h
  clear h
  go_wp2_with fail
  (try simp only [Exit.inBlock, Exit.then]); refine bodyPost_ret (results_none rfl _ _ _) rfl ?_
  exact ⟨rfl, HH.out⟩
theorem len_any (n : Nat) (hn : n ≤ 12) (w : World) : Calls Tryz.prog 80 #[.int .u64 (n : Int)] w fun e w' => ∃ i : Int, e = .returned (.int .i64 i) ∧ w = w' := by
  have hl := fun W => Any.bits_Len (SlLaysF0.n15.bits (P := Tryz.prog) (ρ := Tryz.laysSortK_ren) { Tryz.laysSortK with }) n W (by omega) (by omega)
  exact Calls.mono (show Calls Tryz.prog 80 #[.int .u64 (n : Int)] w _ from hl w) fun e w' h => ⟨_, h.1, h.2.symm⟩
set_option maxRecDepth 100000 in
theorem sortE_any (B : Nat) (v : Value) (w0 w : World) (ps : List RE) (hown : rowE.Own B w v ps) (hr : ∀ p ∈ ps, RdE w0 p) (hb0 : Below w0.heap.size w0 w) (hB : w0.heap.size ≤ B) (hn : ps.length ≤ 12) :
    Calls Tryz.prog 43 #[v, .func (.func 14) #[] #[]] w (SortP B w v ps) := by
  obtain ⟨A, c, rfl⟩ := hown.slice
  obtain ⟨n, hlen⟩ : ∃ n, ps.length = n := ⟨_, rfl⟩
  rw [hlen] at hown hn ⊢
  have HI := Lib.hid (fun lim => pdq_any B A n c lim w0 w ps hown hr hb0 hB hn hlen)
  have HL := Lib.hid (fun W => len_any n hn W)
  clear hown hr hb0 hlen hB
  unfold SortP at *
  go_enter Tryz.func43, Tryz.ntmps43
  go_wp2_with fail
  refine (HL.out _).mono ?_
  rintro e w1 ⟨lim, rfl, rfl⟩
  go_wp2_with fail
  refine (HI.out _).mono ?_
  rintro e w1 ⟨rfl, h⟩
  have HH := Lib.hid h
  clear h HI HL
  go_wp2_with fail
  go_end0
  exact ⟨rfl, HH.out⟩
end Go.Proofs.YtdnomfekblmnbaaGreatDoor

/- Contracts of slices.Clone at entries and entry.merge. -/
namespace Go.Proofs.YtdnomfekblmnbaaGreatDoor
open Go.RowKit Go.Maps Num

theorem own_fresh {α : Type} (R : Row α) (w : World) : R.Own w.heap.size (w.alloc (.cells #[] R.E)) (.slice (some ⟨w.heap.size, 0, none⟩) 0 0) [] :=
  World.ownsRow_made w #[] 0 (Nat.le_refl _) (by unfold maxLen; omega) (by simp)
set_option maxRecDepth 100000 in
theorem clone_any (A : Option Addr) (n c : Nat) (ps : List RE) (w : World) (h : rowE.Rds w A n c ps) (hn : n ≤ 1000) :
    Calls Tryz.prog 42 #[.slice A n c] w (RetOwn rowE ps w) := by
  have H1 := Lib.hid h
  have hB0 := Lib.hid (show Below w.heap.size w (w.alloc (.cells #[] 32)) from (Below.refl _ _).alloc (Nat.le_refl _) _)
  cases A with
  | none =>
    have h0 : n = 0 := by
      rcases Nat.eq_zero_or_pos n with h0 | h0
      · exact h0
      · obtain ⟨b, o, e, _⟩ := h.at_ h0; cases e
    have hp : ps = [] := List.eq_nil_of_length_eq_zero (by rw [h.len]; exact h0)
    subst hp
    clear h H1
    subst h0
    have hnil := fun W => Lib.run_eql_slice_nil (P := Tryz.prog) W 22 32 none 0 c 0 0 Tryz.underlying22
    go_enter Tryz.func42, Tryz.ntmps42
    go_wp2_with fail
    go_ret
    exact ⟨_, rfl, Row.Own.nil _ _, Below.refl _ _⟩
  | some ad =>
    clear h
    have hnil := fun W => Lib.run_eql_slice_nil (P := Tryz.prog) W 22 32 (some ad) n c 0 0 Tryz.underlying22
    go_enter Tryz.func42, Tryz.ntmps42
    go_wp2_with (at_builtin; go_must (refine Row.wp_append rowE_ok rfl (.tmp 5) (.tmp 6) rfl w.heap.size _ [] (w.alloc (.cells #[] 32)) (some ad) n c ps rfl (own_fresh rowE w) rfl (H1.out.below ((Below.refl _ _).alloc (Nat.le_refl _) _)) hB0.out.size (by simp; omega) ?_); intro v' w5 hown' hg' _)
    have HB5 := Lib.hid (own_below (own_fresh rowE w) hB0.out (Nat.le_refl _) hg')
    have HO := Lib.hid hown'
    clear hg' hown'
    go_wp2_with fail
    go_ret
    exact ⟨_, rfl, HO.out, HB5.out⟩
/-- what merge keeps: what is gone, what came, what is left of both -/
structure MgR (la lb : List RE) (w : World) (v8 v9 : Value) (a b : List RE) (A : Option Addr) (n c : Nat) (C : Option Addr) (m d : Nat) (W : World) : Prop where
  bel : Below w.heap.size w W
  ra : rowE.Rds w A n c a
  rb : rowE.Rds w C m d b
  ea : ∀ p ∈ a, RdE w p
  eb : ∀ p ∈ b, RdE w p
  own : ∃ f s, rowE.Own w.heap.size W v8 f ∧ rowE.Own w.heap.size W v9 s ∧ (v8.ownBlock = none ∨ v8.ownBlock ≠ v9.ownBlock) ∧ f.length ≤ la.length ∧ s.length ≤ lb.length ∧
    mrg cE la lb = (f ++ (mrg cE a b).1, s ++ (mrg cE a b).2) ∧ f.length + a.length ≤ la.length ∧ s.length + b.length ≤ lb.length
theorem apart_flip {a b : Option Nat} (h : a = none ∨ a ≠ b) : b = none ∨ b ≠ a := by
  rcases h with h | h
  · subst h
    cases b with
    | none => exact .inl rfl
    | some x => exact .inr (by simp)
  · exact .inr (fun e => h e.symm)
theorem apart_new {R : Row RE} {B : Nat} {W : World} {v8 v9 v' : Value} {s : List RE} (h : v8.ownBlock = none ∨ v8.ownBlock ≠ v9.ownBlock) (hs : R.Own B W v9 s) (hat : v'.ownBlock = v8.ownBlock ∨ ∃ g, v'.ownBlock = some g ∧ W.heap.size ≤ g) : v'.ownBlock = none ∨ v'.ownBlock ≠ v9.ownBlock := by
  rcases hat with e | ⟨g, e, hg⟩
  · rw [e]; exact h
  · refine .inr fun e2 => ?_
    rw [e] at e2
    have := (hs.own g e2.symm).2
    omega
theorem MgR.left {la lb : List RE} {w W W' : World} {v8 v9 v' : Value} {x y : RE} {a b f s : List RE} {A3 : Option Addr} {n3 c3 : Nat} {C : Option Addr} {m d : Nat} {A : Option Addr} {n c : Nat} {Wr : World}
    (hR : MgR la lb w v8 v9 (x :: a) (y :: b) A n c C m d Wr) (hb : Below w.heap.size w W) (of : rowE.Own w.heap.size W v8 f) (os : rowE.Own w.heap.size W v9 s) (hap : v8.ownBlock = none ∨ v8.ownBlock ≠ v9.ownBlock)
    (hmg : mrg cE la lb = (f ++ (mrg cE (x :: a) (y :: b)).1, s ++ (mrg cE (x :: a) (y :: b)).2)) (hf : f.length + (x :: a).length ≤ la.length) (hs : s.length + (y :: b).length ≤ lb.length) (hc : cE x y < 0)
    (hra : rowE.Rds w A3 n3 c3 ((x :: a).drop 1)) (hown : rowE.Own w.heap.size W' v' (f ++ [x])) (hg : W.grownBy W' v8.ownBlock) (hat : v'.ownBlock = v8.ownBlock ∨ ∃ g, v'.ownBlock = some g ∧ W.heap.size ≤ g) :
    MgR la lb w v' v9 a (y :: b) A3 n3 c3 C m d W' := by
  simp only [List.length_cons] at hf hs
  refine ⟨own_below of hb (Nat.le_refl _) hg, hra, hR.rb, fun p hp => hR.ea p (by simp [hp]), hR.eb, f ++ [x], s, hown, os.kept' hg (apart_flip hap), apart_new hap os hat, by simp; omega, by omega, ?_, by simp; omega, by simp; omega⟩
  rw [hmg, mrg_cons, if_pos hc, List.append_assoc]; rfl
theorem MgR.right {la lb : List RE} {w W W' : World} {v8 v9 v' : Value} {x y : RE} {a b f s : List RE} {A : Option Addr} {n c : Nat} {C3 : Option Addr} {m3 d3 : Nat} {C : Option Addr} {m d : Nat} {Wr : World}
    (hR : MgR la lb w v8 v9 (x :: a) (y :: b) A n c C m d Wr) (hb : Below w.heap.size w W) (of : rowE.Own w.heap.size W v8 f) (os : rowE.Own w.heap.size W v9 s) (hap : v8.ownBlock = none ∨ v8.ownBlock ≠ v9.ownBlock)
    (hmg : mrg cE la lb = (f ++ (mrg cE (x :: a) (y :: b)).1, s ++ (mrg cE (x :: a) (y :: b)).2)) (hf : f.length + (x :: a).length ≤ la.length) (hs : s.length + (y :: b).length ≤ lb.length) (hc : 0 < cE x y)
    (hrb : rowE.Rds w C3 m3 d3 ((y :: b).drop 1)) (hown : rowE.Own w.heap.size W' v' (s ++ [y])) (hg : W.grownBy W' v9.ownBlock) (hat : v'.ownBlock = v9.ownBlock ∨ ∃ g, v'.ownBlock = some g ∧ W.heap.size ≤ g) :
    MgR la lb w v8 v' (x :: a) b A n c C3 m3 d3 W' := by
  simp only [List.length_cons] at hf hs
  refine ⟨own_below os hb (Nat.le_refl _) hg, hR.ra, hrb, hR.ea, fun p hp => hR.eb p (by simp [hp]), f, s ++ [y], of.kept' hg hap, hown, apart_flip (apart_new (apart_flip hap) of hat), by omega, by simp; omega, ?_, by simp; omega, by simp; omega⟩
  rw [hmg, mrg_cons, if_neg (by omega), if_pos hc, List.append_assoc]; rfl
theorem MgR.both {la lb : List RE} {w W : World} {v8 v9 : Value} {x y : RE} {a b f s : List RE} {A : Option Addr} {n c : Nat} {A3 : Option Addr} {n3 c3 : Nat} {C3 : Option Addr} {m3 d3 : Nat} {C : Option Addr} {m d : Nat} {Wr : World}
    (hR : MgR la lb w v8 v9 (x :: a) (y :: b) A n c C m d Wr) (hb : Below w.heap.size w W) (of : rowE.Own w.heap.size W v8 f) (os : rowE.Own w.heap.size W v9 s) (hap : v8.ownBlock = none ∨ v8.ownBlock ≠ v9.ownBlock)
    (hmg : mrg cE la lb = (f ++ (mrg cE (x :: a) (y :: b)).1, s ++ (mrg cE (x :: a) (y :: b)).2)) (hf : f.length + (x :: a).length ≤ la.length) (hs : s.length + (y :: b).length ≤ lb.length) (hc : ¬ cE x y < 0) (hc2 : ¬ 0 < cE x y)
    (hra : rowE.Rds w A3 n3 c3 ((x :: a).drop 1)) (hrb : rowE.Rds w C3 m3 d3 ((y :: b).drop 1)) :
    MgR la lb w v8 v9 a b A3 n3 c3 C3 m3 d3 W := by
  simp only [List.length_cons] at hf hs
  refine ⟨hb, hra, hrb, fun p hp => hR.ea p (by simp [hp]), fun p hp => hR.eb p (by simp [hp]), f, s, of, os, hap, by omega, by omega, ?_, by omega, by omega⟩
  rw [hmg, mrg_cons, if_neg hc, if_neg hc2]
def MrgP (la lb : List RE) (w : World) (e : Ending) (w' : World) : Prop :=
  ∃ v1 v2, e = .returned (.tuple #[v1, v2]) ∧ rowE.Own w.heap.size w' v1 (mrg cE la lb).1 ∧ rowE.Own w.heap.size w' v2 (mrg cE la lb).2 ∧ Below w.heap.size w w'
def sln : Value → Nat | .slice _ n _ => n | _ => 0
set_option maxRecDepth 100000 in
set_option maxHeartbeats 4000000 in
theorem merge_any (A C : Option Addr) (n c m d : Nat) (la lb : List RE) (w : World) (ha : rowE.Rds w A n c la) (hb : rowE.Rds w C m d lb) (ea : ∀ p ∈ la, RdE w p) (eb : ∀ p ∈ lb, RdE w p) (hn : n ≤ 1000) (hm : m ≤ 1000) :
    Calls Tryz.prog 44 #[.slice A n c, .slice C m d, .func (.func 14) #[] #[]] w (MrgP la lb w) := by
  have hla := ha.len
  have hlb := hb.len
  have R0 := Lib.hid (show MgR la lb w (.slice none 0 0) (.slice none 0 0) la lb A n c C m d w from ⟨Below.refl _ _, ha, hb, ea, eb, [], [], Row.Own.nil _ _, Row.Own.nil _ _, .inl rfl, by simp, by simp, by simp, by simp, by simp⟩)
  have HP := Lib.hid (show ∀ v1 v2 W, rowE.Own w.heap.size W v1 (mrg cE la lb).1 → rowE.Own w.heap.size W v2 (mrg cE la lb).2 → Below w.heap.size w W → MrgP la lb w (.returned (.tuple #[v1, v2])) W from fun v1 v2 W h1 h2 h3 => ⟨v1, v2, rfl, h1, h2, h3⟩)
  have hLA := Lib.hid hla
  have hLB := Lib.hid hlb
  clear ha hb ea eb hla hlb
  generalize MrgP la lb w = Post at *
  go_enter Tryz.func44, Tryz.ntmps44
  go_wp2_with fail
  go_loopw [0, 1, 8, 9, 10] (fun s0 s1 v8 v9 _ wr => ∃ (a b : List RE) (A' : Option Addr) (n' c' : Nat) (C' : Option Addr) (m' d' : Nat), s0 = .slice A' n' c' ∧ s1 = .slice C' m' d' ∧ Hid (MgR la lb w v8 v9 a b A' n' c' C' m' d' wr)) (fun s0 s1 _ _ _ _ => sln s0 + sln s1)
  case atStart => exact ⟨la, lb, A, n, c, C, m, d, rfl, rfl, R0⟩
  case round =>
    clear R0
    obtain ⟨a, b, A', n', c', C', m', d', rfl, rfl, hR⟩ := hrel
    have hla := Lib.hid hR.out.ra.len
    have hlb := Lib.hid hR.out.rb.len
    by_cases h0 : 0 < n'
    case neg =>
      have e0 : n' = 0 := by omega
      subst e0
      have hd : decide ((0 : Int) < ((0 : Nat) : Int)) = false := by decide
      have hab := Lib.hid (show (mrg cE a b).1 = a ∧ (mrg cE a b).2 = b by
        have : a = [] := List.eq_nil_of_length_eq_zero hla.out
        rw [this, mrg_nil]; exact ⟨rfl, rfl⟩)
      obtain ⟨f, sc, of, os, hap, hf1, hf2, hmg, _, _⟩ := hR.out.own
      have OF := Lib.hid of
      have OS := Lib.hid os
      have HBB := Lib.hid hR.out.bel
      have HRA := Lib.hid (hR.out.ra.below hR.out.bel)
      have HRB := Lib.hid (hR.out.rb)
      have HAP := Lib.hid hap
      have hle := Lib.hid (And.intro hf1 hf2)
      have HM := Lib.hid hmg
      clear of os hap hmg hf1 hf2 hR
      go_wp2_with (first
        | (at_builtin; refine Row.wp_append rowE_ok rfl (.tmp 53) (.tmp 54) rfl w.heap.size _ f wr A' 0 c' a rfl OF.out rfl HRA.out HBB.out.size (by have := hle.out.1; have := hLA.out; have := hla.out; omega) ?_; intro v1 w5 ho5 hg5 hat5; have HB5 := Lib.hid (own_below OF.out HBB.out (Nat.le_refl _) hg5); have O1 := Lib.hid ho5; have OS5 := Lib.hid (OS.out.kept' hg5 (apart_flip HAP.out)); have HRB5 := Lib.hid (HRB.out.below HB5.out); have HAP5 := Lib.hid (show v1.ownBlock = none ∨ v1.ownBlock ≠ _ from apart_new HAP.out OS.out (hat5.imp id (fun h => ⟨_, h, Nat.le_refl _⟩))); clear ho5 hg5 hat5)
        | (at_builtin; refine Row.wp_append rowE_ok rfl (.tmp 56) (.tmp 57) rfl w.heap.size _ sc w5 C' m' d' b rfl OS5.out rfl HRB5.out HB5.out.size (by have := hle.out.2; have := hLB.out; have := hlb.out; omega) ?_; intro v2 w6 ho6 hg6 hat6; have HB6 := Lib.hid (own_below OS5.out HB5.out (Nat.le_refl _) hg6); have O2 := Lib.hid ho6; have O1' := Lib.hid (O1.out.kept' hg6 HAP5.out); clear ho6 hg6 hat6)
        | fail)
      refine HP.out v1 v2 _ ?_ ?_ HB6.out
      · rw [HM.out, hab.out.1]; exact O1'.out
      · rw [HM.out, hab.out.2]; exact O2.out
    by_cases h1 : 0 < m'
    case neg =>
      have e0 : m' = 0 := by omega
      subst e0
      have hd : decide ((0 : Int) < ((0 : Nat) : Int)) = false := by decide
      have hd1 : decide ((0 : Int) < (n' : Int)) = true := by rw [decide_eq_true_iff]; omega
      have hab := Lib.hid (show (mrg cE a b).1 = a ∧ (mrg cE a b).2 = b by
        have : b = [] := List.eq_nil_of_length_eq_zero hlb.out
        rw [this, mrg_nil']; exact ⟨rfl, rfl⟩)
      obtain ⟨f, sc, of, os, hap, hf1, hf2, hmg, _, _⟩ := hR.out.own
      have OF := Lib.hid of
      have OS := Lib.hid os
      have HBB := Lib.hid hR.out.bel
      have HRA := Lib.hid (hR.out.ra.below hR.out.bel)
      have HRB := Lib.hid (hR.out.rb)
      have HAP := Lib.hid hap
      have hle := Lib.hid (And.intro hf1 hf2)
      have HM := Lib.hid hmg
      clear of os hap hmg hf1 hf2 hR
      go_wp2_with (first
        | (at_builtin; refine Row.wp_append rowE_ok rfl (.tmp 53) (.tmp 54) rfl w.heap.size _ f wr A' n' c' a rfl OF.out rfl HRA.out HBB.out.size (by have := hle.out.1; have := hLA.out; have := hla.out; omega) ?_; intro v1 w5 ho5 hg5 hat5; have HB5 := Lib.hid (own_below OF.out HBB.out (Nat.le_refl _) hg5); have O1 := Lib.hid ho5; have OS5 := Lib.hid (OS.out.kept' hg5 (apart_flip HAP.out)); have HRB5 := Lib.hid (HRB.out.below HB5.out); have HAP5 := Lib.hid (show v1.ownBlock = none ∨ v1.ownBlock ≠ _ from apart_new HAP.out OS.out (hat5.imp id (fun h => ⟨_, h, Nat.le_refl _⟩))); clear ho5 hg5 hat5)
        | (at_builtin; refine Row.wp_append rowE_ok rfl (.tmp 56) (.tmp 57) rfl w.heap.size _ sc w5 C' 0 d' b rfl OS5.out rfl HRB5.out HB5.out.size (by have := hle.out.2; have := hLB.out; have := hlb.out; omega) ?_; intro v2 w6 ho6 hg6 hat6; have HB6 := Lib.hid (own_below OS5.out HB5.out (Nat.le_refl _) hg6); have O2 := Lib.hid ho6; have O1' := Lib.hid (O1.out.kept' hg6 HAP5.out); clear ho6 hg6 hat6)
        | fail)
      refine HP.out v1 v2 _ ?_ ?_ HB6.out
      · rw [HM.out, hab.out.1]; exact O1'.out
      · rw [HM.out, hab.out.2]; exact O2.out
    have hd0 : decide ((0 : Int) < (n' : Int)) = true := by rw [decide_eq_true_iff]; omega
    have hd1 : decide ((0 : Int) < (m' : Int)) = true := by rw [decide_eq_true_iff]; omega
    obtain ⟨b1, o1, rfl, hb1, _⟩ := hR.out.ra.at_ h0
    obtain ⟨b2, o2, rfl, hb2, _⟩ := hR.out.rb.at_ h1
    obtain ⟨x, a2, rfl⟩ : ∃ x a2, a = x :: a2 := by
      cases a with
      | nil => have := hla.out; simp at this; omega
      | cons x a2 => exact ⟨x, a2, rfl⟩
    obtain ⟨y, b2', rfl⟩ : ∃ y b2, b = y :: b2 := by
      cases b with
      | nil => have := hlb.out; simp at this; omega
      | cons y b2 => exact ⟨y, b2, rfl⟩
    have hbb := hR.out.bel
    obtain ⟨r0, r1, r2⟩ := rds_cells3 (hR.out.ra.below hbb) 0 h0
    obtain ⟨s0, s1, s2⟩ := rds_cells3 (hR.out.rb.below hbb) 0 h1
    have ce := ecmp_re x y wr.drew (((hR.out.ea x (by simp)).below hbb).below (below_dr (Below.refl _ _) 1)) (((hR.out.eb y (by simp)).below hbb).below (below_dr (Below.refl _ _) 1))
    obtain ⟨f, sc, of, os, hap, hf1, hf2, hmg, hf3, hf4⟩ := hR.out.own
    have hL := Lib.hid (fun W W' v' A3 n3 c3 (hb : Below w.heap.size w W) of os hc hra hown hg hat => MgR.left (W := W) (W' := W') (v' := v') (f := f) (s := sc) (A3 := A3) (n3 := n3) (c3 := c3) hR.out hb of os hap hmg hf3 hf4 hc hra hown hg hat)
    have hRi := Lib.hid (fun W W' v' A3 n3 c3 (hb : Below w.heap.size w W) of os hc hra hown hg hat => MgR.right (W := W) (W' := W') (v' := v') (f := f) (s := sc) (C3 := A3) (m3 := n3) (d3 := c3) hR.out hb of os hap hmg hf3 hf4 hc hra hown hg hat)
    have hBo := Lib.hid (fun W A3 n3 c3 C3 m3 d3 (hb : Below w.heap.size w W) of os hc hc2 hra hrb => MgR.both (W := W) (f := f) (s := sc) (A3 := A3) (n3 := n3) (c3 := c3) (C3 := C3) (m3 := m3) (d3 := d3) hR.out hb of os hap hmg hf3 hf4 hc hc2 hra hrb)
    obtain ⟨⟨d1, z1, A1, n1, c1⟩, x2⟩ := x
    obtain ⟨⟨d2, z2, A2, n2, c2⟩, y2⟩ := y
    simp only [List.getD_cons_zero, Nat.zero_mul, Nat.add_zero] at r0 r1 r2 s0 s1 s2
    simp only [encE, rawA, rawN, rawC] at ce
    generalize cE ((d1, z1, A1, n1, c1), x2) ((d2, z2, A2, n2, c2), y2) = cv at *
    have CE := Lib.hid ce
    have HBr := Lib.hid (Below.refl wr.heap.size wr)
    have HS := Lib.hid (And.intro r0 (And.intro r1 (And.intro r2 (And.intro s0 (And.intro s1 s2)))))
    have l1 := Nat.lt_of_lt_of_le hb1 hbb.size
    have l2 := Nat.lt_of_lt_of_le hb2 hbb.size
    have HBB := Lib.hid hbb
    clear ce hbb hb1 hb2
    go_wp2_with fail
    go_region_held3 (fun w' => w'.cell? ⟨b1, o1, none⟩ = some (.int .i64 d1) ∧ w'.cell? ⟨b1, o1 + 1, none⟩ = some (.string ⟨z1.toArray⟩) ∧ w'.cell? ⟨b1, o1 + 2, none⟩ = some (.slice A1 n1 c1) ∧ w'.cell? ⟨b2, o2, none⟩ = some (.int .i64 d2) ∧ w'.cell? ⟨b2, o2 + 1, none⟩ = some (.string ⟨z2.toArray⟩) ∧ w'.cell? ⟨b2, o2 + 2, none⟩ = some (.slice A2 n2 c2))
      (first | exact ⟨f0, f1, f2, f3, f4, f5⟩ | exact ⟨r0, r1, r2, s0, s1, s2⟩ | go_keep)
      (first
        | (go_at_call 14; refine CE.out.mono ?_; rintro e w' ⟨rfl, hb⟩; have HBr := Lib.hid (below_next HBr.out hb ⟨rfl, rfl, rfl, rfl⟩); have f0 := (HBr.out.cell (p := ⟨b1, o1, none⟩) l1).trans HS.out.1; have f1 := (HBr.out.cell (p := ⟨b1, o1 + 1, none⟩) l1).trans HS.out.2.1; have f2 := (HBr.out.cell (p := ⟨b1, o1 + 2, none⟩) l1).trans HS.out.2.2.1; have f3 := (HBr.out.cell (p := ⟨b2, o2, none⟩) l2).trans HS.out.2.2.2.1; have f4 := (HBr.out.cell (p := ⟨b2, o2 + 1, none⟩) l2).trans HS.out.2.2.2.2.1; have f5 := (HBr.out.cell (p := ⟨b2, o2 + 2, none⟩) l2).trans HS.out.2.2.2.2.2; clear hb))
    have HB2 := Lib.hid (HBB.out.trans (HBr.out.mono HBB.out.size))
    have OF := Lib.hid (Row.Own.below of HBr.out)
    have OS := Lib.hid (Row.Own.below os HBr.out)
    have hle := Lib.hid (And.intro hf1 hf2)
    obtain ⟨A3, hsa, hra⟩ := Row.run_from rowE_ok hR.out.ra 1 h0
    obtain ⟨A4, hsb, hrb⟩ := Row.run_from rowE_ok hR.out.rb 1 h1
    have hs1 : ∀ W, (Instr.sliceAt 22 (.slice (some ⟨b1, o1, none⟩) n' c') (some (.int .i64 1)) none none).run Tryz.prog W = .ok (.slice A3 (n' - 1) (c' - 1)) W := hsa
    have hs2 : ∀ W, (Instr.sliceAt 22 (.slice (some ⟨b2, o2, none⟩) m' d') (some (.int .i64 1)) none none).run Tryz.prog W = .ok (.slice A4 (m' - 1) (d' - 1)) W := hsb
    have HRA := Lib.hid hra
    have HRB := Lib.hid hrb
    obtain ⟨n3, hn3⟩ : ∃ n3, n' - 1 = n3 := ⟨_, rfl⟩
    obtain ⟨c3, hc3⟩ : ∃ c3, c' - 1 = c3 := ⟨_, rfl⟩
    obtain ⟨m3, hm3⟩ : ∃ m3, m' - 1 = m3 := ⟨_, rfl⟩
    obtain ⟨d3, hd3⟩ : ∃ d3, d' - 1 = d3 := ⟨_, rfl⟩
    rw [hn3, hc3] at hs1 HRA
    rw [hm3, hd3] at hs2 HRB
    have hnn := Lib.hid (And.intro hn3 hm3)
    clear hf1 hf2 hf3 hf4 hmg of os hap hsa hsb hra hrb hn3 hc3 hm3 hd3
    by_cases hc1 : cv < 0
    · clear hs2
      have hL2 := Lib.hid (fun W5 v' h1 h2 h3 => hL.out w' W5 v' A3 n3 c3 HB2.out OF.out OS.out hc1 HRA.out h1 h2 h3)
      go_wp2_with fail
      go_region_law (refine Row.step_append1d rowE_ok rfl (.tmp 34) (.tmp 38) rfl w.heap.size _ f w' ((d1, z1, A1, n1, c1), x2) _ _ rfl rfl rfl OF.out rfl HB2.out.size (by have := hle.out.1; have := hLA.out; omega) ?_; intro v1 w5 hown1 hg1 hat)
      have hM := Lib.hid (hL2.out w5 v1 hown1 hg1 hat)
      clear hown1 hg1 hat
      simp only [Act.put, List.getElem_toArray, List.getElem_cons_succ, List.getElem_cons_zero, List.setIfInBounds_toArray, List.set_cons_succ, List.set_cons_zero]
      go_roundw
      case rel =>
        repeat apply Exists.intro
        exact ⟨⟨_, _, _, _, _, _, _, _, rfl, rfl, hM⟩, rfl⟩
      case measure => (have := hnn.out; simp [sln]; omega)
    by_cases hc2 : 0 < cv
    · clear hs1
      have hL2 := Lib.hid (fun W5 v' h1 h2 h3 => hRi.out w' W5 v' A4 m3 d3 HB2.out OF.out OS.out hc2 HRB.out h1 h2 h3)
      go_wp2_with fail
      go_region_law (refine Row.step_append1d rowE_ok rfl (.tmp 45) (.tmp 49) rfl w.heap.size _ sc w' ((d2, z2, A2, n2, c2), y2) _ _ rfl rfl rfl OS.out rfl HB2.out.size (by have := hle.out.2; have := hLB.out; omega) ?_; intro v1 w5 hown1 hg1 hat)
      have hM := Lib.hid (hL2.out w5 v1 hown1 hg1 hat)
      clear hown1 hg1 hat
      simp only [Act.put, List.getElem_toArray, List.getElem_cons_succ, List.getElem_cons_zero, List.setIfInBounds_toArray, List.set_cons_succ, List.set_cons_zero]
      go_roundw
      case rel =>
        repeat apply Exists.intro
        exact ⟨⟨_, _, _, _, _, _, _, _, rfl, rfl, hM⟩, rfl⟩
      case measure => (have := hnn.out; simp [sln]; omega)
    go_wp2_with fail
    go_quiet (fail)
    have hM := Lib.hid (hBo.out (w'.drewN nq) A3 n3 c3 A4 m3 d3 (below_dr HB2.out nq) (OF.out.dr nq) (OS.out.dr nq) (by omega) (by omega) HRA.out HRB.out)
    go_roundw
    case rel =>
      repeat apply Exists.intro
      exact ⟨⟨_, _, _, _, _, _, _, _, rfl, rfl, hM⟩, rfl⟩
    case measure => (have := hnn.out; simp [sln]; omega)
end Go.Proofs.YtdnomfekblmnbaaGreatDoor

/- Contracts of slices.IndexFunc and ContainsFunc at the closure 41: an entry that is not valid (printed by gen_idx.py). -/
namespace Go.Proofs.YtdnomfekblmnbaaGreatDoor
open Go.RowKit Go.Maps Num

/-- the entry is not valid -/
def badR (p : RE) : Bool := decide (chkE p.2.1 p.2.2.1 p.2.2.2 ≠ 0)
theorem any_snoc (l : List RE) (k : Nat) (h : k < l.length) : (l.take (k + 1)).any badR = ((l.take k).any badR || badR (l.getD k re0)) := by
  rw [List.take_succ_eq_append_getElem h, List.any_append, List.getD_eq_getElem?_getD, List.getElem?_eq_getElem h]
  simp
theorem any_hit (l : List RE) (k : Nat) (h : k < l.length) (hb : badR (l.getD k re0) = true) : l.any badR = true := List.any_eq_true.2 ⟨_, getD_mem re0 l k h, hb⟩
def IdxP (b : Bool) (w : World) (e : Ending) (w' : World) : Prop := ∃ i : Int, e = .returned (.int .i64 i) ∧ decide (0 ≤ i) = b ∧ Below w.heap.size w w'
set_option maxRecDepth 100000 in
theorem clo41_any (p : RE) (w : World) (hp : RdE w p) (hz : p.2.2.1.length ≤ 1000) (ht : Tab w) (hm : ML w) : Calls Tryz.prog 41 #[.agg (encE p).toArray] w (BoolPost (badR p) w) := by
  obtain ⟨⟨d1, z1, A1, n1, c1⟩, e1, f1, k1⟩ := p
  obtain ⟨h1, h2, h3⟩ := hp
  simp only at h1 h2 hz
  subst h1 h2
  have hb := Lib.hid (show badR ((d1, z1, A1, n1, c1), d1, z1, k1) = decide (chkE d1 z1 k1 ≠ 0) from rfl)
  have hB0 : Below w.heap.size w (w.alloc (.cells #[.int .i64 d1, .string ⟨z1.toArray⟩, .slice A1 n1 c1] 32)) := (Below.refl _ w).alloc (Nat.le_refl _) _
  have hc := Chk_any d1 z1 A1 n1 c1 k1 _ (Lns.below h3 hB0) (by unfold maxLen; omega) (ht.below hB0) (hm.below hB0)
  unfold IntPost enV at hc
  have HC := Lib.hid hc
  have HB := Lib.hid hB0
  generalize badR ((d1, z1, A1, n1, c1), d1, z1, k1) = r at *
  generalize chkE d1 z1 k1 = v at *
  clear hc hB0 h3
  unfold encE rawA rawN rawC
  simp only
  go_enter Tryz.func41, Tryz.ntmps41
  go_wp2_with fail
  refine HC.out.mono ?_
  rintro e w1 ⟨rfl, hb1⟩
  have HB2 := Lib.hid (below_next HB.out hb1 ⟨rfl, rfl, rfl, rfl⟩)
  clear hb1 HC
  go_wp2_with fail
  go_ret
  refine ⟨?_, HB2.out⟩
  rw [hb.out]
  by_cases h : v = 0
  · subst h; rfl
  · have : (v != 0) = true := by rw [bne_iff_ne]; exact h
    rw [this, decide_eq_true h]; rfl
set_option maxRecDepth 100000 in
set_option maxHeartbeats 4000000 in
theorem idx41 (A : Option Addr) (n c : Nat) (ps : List RE) (w : World) (h : Res w A n c ps) (hz : ∀ p ∈ ps, p.2.2.1.length ≤ 1000) (hn : n ≤ 1000) (ht : Tab w) (hm : ML w) :
    Calls Tryz.prog 76 #[.slice A n c, .func (.func 41) #[] #[]] w (IdxP (ps.any badR) w) := by
  have ll := Lib.hid h.rds.len
  have L1 := Lib.hid h
  have HT := Lib.hid ht
  have HM := Lib.hid hm
  have HZ := Lib.hid hz
  have HS := Lib.hid (any_snoc ps)
  have HH := Lib.hid (any_hit ps)
  have HP := Lib.hid (show ∀ i W, decide (0 ≤ i) = ps.any badR → Below w.heap.size w W → IdxP (ps.any badR) w (.returned (.int .i64 i)) W from fun i W h1 h2 => ⟨i, rfl, h1, h2⟩)
  clear h ht hm hz
  generalize IdxP (ps.any badR) w = Post at *
  go_enter Tryz.func76, Tryz.ntmps76
  go_wp2_with fail
  have R0 := Lib.hid (show (ps.take 0).any badR = false ∧ Below w.heap.size w w from ⟨by simp, Below.refl _ _⟩)
  go_loopw [8, 5] (fun i _ wr => ∃ k : Nat, k ≤ n ∧ i = .int .i64 (k : Int) ∧ Hid ((ps.take k).any badR = false ∧ Below w.heap.size w wr)) (fun i _ _ => n - (intOf i).toNat)
  case atStart => exact ⟨0, by omega, rfl, R0⟩
  case round =>
    obtain ⟨k, hk, rfl, hR⟩ := hrel
    have HE := Lib.hid hR.out.1
    have HB := Lib.hid hR.out.2
    clear hR R0
    by_cases hlt : k < n
    · have hkl : k < ps.length := by rw [ll.out]; exact hlt
      have hmem := getD_mem re0 ps k hkl
      have hs1 := Lib.hid (HS.out k hkl)
      have hh1 := Lib.hid (HH.out k hkl)
      obtain ⟨b1, o1, rfl, hb1, _⟩ := L1.out.rds.at_ (by omega)
      have q0 := (L1.out.rds.below HB.out).cell rowE_ok re0 k 0 _ hlt rfl
      have q1 := (L1.out.rds.below HB.out).cell rowE_ok re0 k 1 _ hlt rfl
      have q2 := (L1.out.rds.below HB.out).cell rowE_ok re0 k 2 _ hlt rfl
      have cl := clo41_any (ps.getD k re0) wr ((L1.out.all _ hmem).below HB.out) (HZ.out _ hmem) (HT.out.below HB.out) (HM.out.below HB.out)
      have hki : (k : Int) < (n : Int) := by omega
      have hk0 : (0 : Int) ≤ (k : Int) := by omega
      generalize badR (ps.getD k re0) = bd at *
      generalize ps.getD k re0 = p at *
      obtain ⟨⟨d1, z1, A1, n1, c1⟩, e1, f1, k1⟩ := p
      unfold encE rawA rawN rawC at cl
      simp only [rawA, rawN, rawC, Nat.add_zero] at q0 q1 q2 cl
      have CL := Lib.hid cl
      clear cl hmem hkl
      go_wp2_with fail
      refine CL.out.mono ?_
      rintro e w1 ⟨rfl, hb⟩
      have HB2 := Lib.hid (below_next HB.out hb ⟨rfl, rfl, rfl, rfl⟩)
      clear hb CL
      cases bd
      · have HE2 := Lib.hid (show (ps.take (k + 1)).any badR = false by rw [hs1.out, HE.out]; rfl)
        go_wp2_with fail
        go_roundw
        case rel => exact ⟨k + 1, by omega, by go_num, Lib.hid ⟨HE2.out, HB2.out⟩⟩
        case measure => simp [intOf]; omega
      · have hv := Lib.hid (HP.out (k : Int) w1 (by rw [hh1.out rfl]; exact decide_eq_true hk0) HB2.out)
        go_wp2_with fail
        exact hv.out
    · have hki : decide ((k : Int) < (n : Int)) = false := by rw [decide_eq_false_iff_not]; omega
      have hv := Lib.hid (HP.out (-1) wr (by
        have e := HE.out
        rw [List.take_of_length_le (by rw [ll.out]; omega)] at e
        rw [e]; rfl) HB.out)
      go_wp2_with fail
      exact hv.out
set_option maxRecDepth 100000 in
theorem con41 (A : Option Addr) (n c : Nat) (ps : List RE) (w : World) (h : Res w A n c ps) (hz : ∀ p ∈ ps, p.2.2.1.length ≤ 1000) (hn : n ≤ 1000) (ht : Tab w) (hm : ML w) :
    Calls Tryz.prog 31 #[.slice A n c, .func (.func 41) #[] #[]] w (BoolPost (ps.any badR) w) := by
  have HI := Lib.hid (idx41 A n c ps w h hz hn ht hm)
  clear h hz ht hm
  go_enter Tryz.func31, Tryz.ntmps31
  go_wp2_with fail
  refine HI.out.mono ?_
  rintro e w1 ⟨i, rfl, hi, hb⟩
  have HI2 := Lib.hid hi
  have HB := Lib.hid hb
  clear hi hb HI
  go_wp2_with fail
  go_ret
  exact ⟨by rw [HI2.out]; rfl, HB.out⟩
end Go.Proofs.YtdnomfekblmnbaaGreatDoor

/- Contract of entry.Minus. -/
namespace Go.Proofs.YtdnomfekblmnbaaGreatDoor
open Go.RowKit Go.Maps Num

def MinP (pa pb : List RE) (w : World) (e : Ending) (w' : World) : Prop :=
  Below w.heap.size w w' ∧ if (pa ++ pb).any badR then e = .returned (.tuple #[.slice none 0 0, .slice none 0 0, .int .i64 1])
  else ∃ v1 v2 qa qb, qa.Perm pa ∧ Srt cE qa ∧ qb.Perm pb ∧ Srt cE qb ∧ e = .returned (.tuple #[v1, v2, .int .i64 0]) ∧ rowE.Own w.heap.size w' v1 (mrg cE qa qb).1 ∧ rowE.Own w.heap.size w' v2 (mrg cE qa qb).2
set_option maxRecDepth 100000 in
set_option maxHeartbeats 2000000 in
theorem Minus_E (A B : Option Addr) (n c m d : Nat) (pa pb : List RE) (w : World) (ha : Res w A n c pa) (hb : Res w B m d pb) (za : ∀ p ∈ pa, p.2.2.1.length ≤ 1000) (zb : ∀ p ∈ pb, p.2.2.1.length ≤ 1000) (hn : n ≤ 12) (hm : m ≤ 12) (ht : Tab w) (hM : ML w) :
    Calls Tryz.prog 12 #[.slice A n c, .slice B m d] w (MinP pa pb w) := by
  have hB0 : Below w.heap.size w (w.alloc (.cells #[.slice A n c, .slice B m d] 22)) := (Below.refl _ w).alloc (Nat.le_refl _) _
  have hcc := concat_anyE w.heap.size A B n c m d pa pb (w.alloc (.cells #[.slice A n c, .slice B m d] 22)) (by simp) (by go_simp) (by go_simp) (ha.rds.below hB0) (hb.rds.below hB0) (by omega) (by omega)
  have HC := Lib.hid hcc
  have H0 := Lib.hid hB0
  have HA := Lib.hid ha
  have HB := Lib.hid hb
  have HT := Lib.hid ht
  have HM := Lib.hid hM
  have HZ := Lib.hid (show ∀ p ∈ pa ++ pb, p.2.2.1.length ≤ 1000 from fun p hp => by
    rcases List.mem_append.1 hp with h | h
    · exact za p h
    · exact zb p h)
  have HP1 := Lib.hid (show ∀ W, Below w.heap.size w W → (pa ++ pb).any badR = true → MinP pa pb w (.returned (.tuple #[.slice none 0 0, .slice none 0 0, .int .i64 1])) W from fun W h1 h2 => ⟨h1, by rw [if_pos h2]⟩)
  have HP2 := Lib.hid (show ∀ W v1 v2 qa qb, Below w.heap.size w W → (pa ++ pb).any badR = false → qa.Perm pa → Srt cE qa → qb.Perm pb → Srt cE qb → rowE.Own w.heap.size W v1 (mrg cE qa qb).1 → rowE.Own w.heap.size W v2 (mrg cE qa qb).2 → MinP pa pb w (.returned (.tuple #[v1, v2, .int .i64 0])) W from fun W v1 v2 qa qb h1 h2 h3 h4 h5 h6 h7 h8 => ⟨h1, by rw [if_neg (by rw [h2]; decide)]; exact ⟨v1, v2, qa, qb, h3, h4, h5, h6, rfl, h7, h8⟩⟩)
  clear hcc hB0 ha hb ht hM za zb
  generalize MinP pa pb w = Post at *
  go_enter Tryz.func12, Tryz.ntmps12
  go_wp2_with fail
  refine HC.out.mono ?_
  rintro e w1 ⟨v, rfl, hov, hb1⟩
  have HB1 := Lib.hid (below_next H0.out hb1 ⟨rfl, rfl, rfl, rfl⟩)
  obtain ⟨A1, c1, rfl, hr1⟩ := hov.rds
  obtain ⟨N, hN⟩ : ∃ N, (pa ++ pb).length = N := ⟨_, rfl⟩
  rw [hN] at hr1 ⊢
  have hN2 : N ≤ 1000 := by rw [← hN, List.length_append, HA.out.rds.len, HB.out.rds.len]; omega
  have hres : Res w1 A1 N c1 (pa ++ pb) := ⟨hr1, fun p hp => by
    rcases List.mem_append.1 hp with h | h
    · exact (HA.out.all p h).below HB1.out
    · exact (HB.out.all p h).below HB1.out⟩
  have hcn := con41 A1 N c1 (pa ++ pb) w1 hres HZ.out hN2 (HT.out.below HB1.out) (HM.out.below HB1.out)
  have HCN := Lib.hid hcn
  clear hov hb1 hr1 hres hcn HC hN
  generalize hany : (pa ++ pb).any badR = bad at HCN HP1 HP2
  go_wp2_with fail
  refine HCN.out.mono ?_
  rintro e w2 ⟨rfl, hb2⟩
  have HB2 := Lib.hid (HB1.out.trans (hb2.mono HB1.out.size))
  clear hb2 HCN hany
  cases bad
  · have cla := Lib.hid (clone_any A n c pa w2 (HA.out.rds.below HB2.out) (by omega))
    go_wp2_with fail
    refine cla.out.mono ?_
    rintro e w3 ⟨x, rfl, hox, hb3⟩
    have HX := Lib.hid hox
    have HB3 := Lib.hid (HB2.out.trans (hb3.mono HB2.out.size))
    have hs3 := hb3.size
    clear hox hb3 cla
    have clb := Lib.hid (clone_any B m d pb w3 (HB.out.rds.below HB3.out) (by omega))
    go_wp2_with fail
    refine clb.out.mono ?_
    rintro e w4 ⟨y, rfl, hoy, hb4⟩
    have HY := Lib.hid hoy
    have HX4 := Lib.hid (HX.out.below hb4)
    have HB4 := Lib.hid (HB3.out.trans (hb4.mono HB3.out.size))
    clear hoy hb4 clb
    have sx := Lib.hid (sortE_any w2.heap.size x w w4 pa HX4.out HA.out.all HB4.out HB2.out.size (by rw [HA.out.rds.len]; exact hn))
    go_wp2_with fail
    refine sx.out.mono ?_
    rintro e w5 ⟨rfl, qa, p1, p2, ho5, hg5⟩
    have HB5 := Lib.hid (own_below HX4.out HB4.out HB2.out.size hg5)
    have Q1 := Lib.hid (And.intro p1 p2)
    have HX5 := Lib.hid ho5
    have HY5 := Lib.hid (HY.out.kept hg5 (fun k hk => (HX.out.own k hk).2))
    clear p1 p2 ho5 hg5 sx
    have sy := Lib.hid (sortE_any w3.heap.size y w w5 pb HY5.out HB.out.all HB5.out HB3.out.size (by rw [HB.out.rds.len]; exact hm))
    go_wp2_with fail
    refine sy.out.mono ?_
    rintro e w6 ⟨rfl, qb, p1, p2, ho6, hg6⟩
    have HB6 := Lib.hid (own_below HY5.out HB5.out HB3.out.size hg6)
    have Q2 := Lib.hid (And.intro p1 p2)
    have HY6 := Lib.hid ho6
    have HX6 := Lib.hid (HX5.out.kept' hg6 (by
      cases hx : x.ownBlock with
      | none => exact .inl rfl
      | some k =>
        refine .inr fun e => ?_
        have h1 := (HX.out.own k hx).2
        have h2 := (HY.out.own k e.symm).1
        omega))
    clear p1 p2 ho6 hg6 sy
    obtain ⟨A6, c6, rfl, hrx⟩ := HX6.out.rds
    obtain ⟨C6, d6, rfl, hry⟩ := HY6.out.rds
    have hl1 := Q1.out.1.length_eq
    have hl2 := Q2.out.1.length_eq
    rw [HA.out.rds.len] at hl1
    rw [HB.out.rds.len] at hl2
    rw [hl1] at hrx ⊢
    rw [hl2] at hry ⊢
    have mg := Lib.hid (merge_any A6 C6 n c6 m d6 qa qb w6 hrx hry (fun p hp => (HA.out.all p (Q1.out.1.mem_iff.1 hp)).below HB6.out) (fun p hp => (HB.out.all p (Q2.out.1.mem_iff.1 hp)).below HB6.out) (by omega) (by omega))
    clear hrx hry hl1 hl2 HX HX4 HX5 HX6 HY HY5 HY6
    go_wp2_with fail
    refine mg.out.mono ?_
    rintro e w7 ⟨v1, v2, rfl, o1, o2, hb7⟩
    have O1 := Lib.hid (o1.mono HB6.out.size)
    have O2 := Lib.hid (o2.mono HB6.out.size)
    have HB7 := Lib.hid (HB6.out.trans (hb7.mono HB6.out.size))
    clear o1 o2 hb7 mg
    go_wp2_with fail
    go_ret3
    exact HP2.out w7 v1 v2 qa qb HB7.out trivial Q1.out.1 Q1.out.2 Q2.out.1 Q2.out.2 O1.out O2.out
  · go_wp2_with fail
    go_ret3
    exact HP1.out w2 HB2.out trivial
end Go.Proofs.YtdnomfekblmnbaaGreatDoor

/- entry.Minus at lists of entries. -/
namespace Go.Proofs.YtdnomfekblmnbaaGreatDoor
open Go.RowKit Go.Maps Num

/-- entries in order -/
def srtE (l : List En) : List En := l.mergeSort fun a b => decide (cmpE a b ≤ 0)
theorem srtE_perm (l : List En) : (srtE l).Perm l := List.mergeSort_perm _ _
theorem srtE_srt (l : List En) : Srt cmpE (srtE l) := by
  have h := List.pairwise_mergeSort (le := fun a b => decide (cmpE a b ≤ 0)) (fun a b c h1 h2 => by
    simp only [decide_eq_true_eq] at *
    exact cmpE_cmp.le_tr h1 h2) (fun a b => by
    simp only [Bool.or_eq_true, decide_eq_true_eq]
    have := cmpE_cmp.anti a b
    omega) l
  exact h.imp fun h => of_decide_eq_true h
def okE (x : En) : Bool := decide (chkE x.1 x.2.1 x.2.2 = 0)
theorem chkLs_zero {p : Option Ky} {l : List Ln} (h : chkLs p l = 0) : ∀ x ∈ l, lineI x = 0 ∧ x.2.2 ≠ [] := by
  induction l generalizing p with
  | nil => intro x hx; cases hx
  | cons y r ih =>
    rw [chkLs_cons] at h
    split at h
    · omega
    · rename_i h0
      split at h
      · omega
      · rename_i h1
        split at h
        · omega
        · intro x hx
          rcases List.mem_cons.1 hx with e | e
          · subst e; exact ⟨by omega, h1⟩
          · exact ih h x e
theorem chkE_parts {d : Int} {c : List UInt8} {l : List Ln} (h : chkE d c l = 0) : headI d c = 0 ∧ 0 < l.length ∧ l.length ≤ 64 ∧ chkLs none l = 0 ∧ balB l = true := by
  unfold chkE at h
  split at h
  · omega
  · rename_i h0
    split at h
    · omega
    · rename_i h1
      split at h
      · omega
      · rename_i h2
        split at h
        · omega
        · rename_i h3
          split at h
          · rename_i h4
            exact ⟨by omega, by omega, by omega, by omega, h4⟩
          · omega
theorem lineI_canB {x : Ln} (h : lineI x = 0) : canB x = true := by
  unfold lineI at h
  split at h
  · split at h
    · unfold chkI at h
      split at h
      · rename_i h0; unfold canB; exact decide_eq_true h0
      · omega
    · omega
  · omega
theorem okE_can {x : En} (h : okE x = true) : x.2.2.all canB = true := by
  obtain ⟨_, _, _, h4, _⟩ := chkE_parts (of_decide_eq_true h)
  rw [List.all_eq_true]
  exact fun y hy => lineI_canB (chkLs_zero h4 y hy).1
theorem ok_tight {l : List En} (h : ∀ x ∈ l, okE x = true) : Tight cmpE l := fun a ha b hb e => (cmpE_zero (okE_can (h a ha)) (okE_can (h b hb))).1 e
theorem srt_of {pa qa : List RE} (h : ∀ x ∈ pa.map Prod.snd, okE x = true) (hp : qa.Perm pa) (hs : Srt cE qa) : qa.map Prod.snd = srtE (pa.map Prod.snd) := by
  have h1 : (qa.map Prod.snd).Perm (pa.map Prod.snd) := hp.map _
  have h2 : Srt cmpE (qa.map Prod.snd) := List.Pairwise.map Prod.snd (fun a b h => h) hs
  refine srt_uniq cmpE_cmp h2 (srtE_srt _) (h1.trans (srtE_perm _).symm) ?_
  exact ok_tight fun x hx => h x (h1.mem_iff.1 hx)
/-- what each of two lists has and the other has not -/
def mns (a b : List En) : List En × List En := mrg cmpE (srtE a) (srtE b)
theorem mns_len (a b : List En) : (mns a b).1.length ≤ a.length ∧ (mns a b).2.length ≤ b.length := by
  obtain ⟨h1, h2⟩ := mrg_sub (c := cmpE) (srtE a) (srtE b)
  have e1 := h1.length_le
  have e2 := h2.length_le
  rw [(srtE_perm a).length_eq] at e1
  rw [(srtE_perm b).length_eq] at e2
  exact ⟨e1, e2⟩
def MnsP (a b : List En) (w : World) (e : Ending) (w' : World) : Prop :=
  Below w.heap.size w w' ∧ if (a ++ b).all okE then ∃ A1 c1 A2 c2, e = .returned (.tuple #[.slice A1 (mns a b).1.length c1, .slice A2 (mns a b).2.length c2, .int .i64 0]) ∧ Ens w' A1 (mns a b).1.length c1 (mns a b).1 ∧ Ens w' A2 (mns a b).2.length c2 (mns a b).2
  else e = .returned (.tuple #[.slice none 0 0, .slice none 0 0, .int .i64 1])
theorem badR_not (p : RE) : badR p = !okE p.2 := by
  unfold badR okE
  by_cases h : chkE p.2.1 p.2.2.1 p.2.2.2 = 0 <;> simp [h]
theorem any_bad (ps : List RE) : ps.any badR = !((ps.map Prod.snd).all okE) := by
  induction ps with
  | nil => rfl
  | cons p r ih => rw [List.any_cons, List.map_cons, List.all_cons, ih, badR_not]; cases okE p.2 <;> rfl
theorem Minus_any (A B : Option Addr) (n c m d : Nat) (a b : List En) (w : World) (ha : Ens w A n c a) (hb : Ens w B m d b) (za : ∀ x ∈ a, x.2.1.length ≤ 1000) (zb : ∀ x ∈ b, x.2.1.length ≤ 1000) (hn : n ≤ 12) (hm : m ≤ 12) (ht : Tab w) (hM : ML w) :
    Calls Tryz.prog 12 #[.slice A n c, .slice B m d] w (MnsP a b w) := by
  obtain ⟨pa, ea, ra⟩ := ha.res
  obtain ⟨pb, eb, rb⟩ := hb.res
  refine (Minus_E A B n c m d pa pb w ra rb (fun p hp => za p.2 (by rw [← ea]; exact List.mem_map_of_mem hp)) (fun p hp => zb p.2 (by rw [← eb]; exact List.mem_map_of_mem hp)) hn hm ht hM).mono ?_
  rintro e w' ⟨hbw, h⟩
  have hab := any_bad (pa ++ pb)
  rw [List.map_append, ea, eb] at hab
  refine ⟨hbw, ?_⟩
  by_cases hok : (a ++ b).all okE = true
  · rw [hab, hok] at h
    rw [if_pos hok]
    obtain ⟨v1, v2, qa, qb, p1, s1, p2, s2, he, o1, o2⟩ := h
    rw [List.all_eq_true] at hok
    have e1 := srt_of (pa := pa) (fun x hx => hok x (by rw [ea] at hx; exact List.mem_append_left _ hx)) p1 s1
    have e2 := srt_of (pa := pb) (fun x hx => hok x (by rw [eb] at hx; exact List.mem_append_right _ hx)) p2 s2
    rw [ea] at e1
    rw [eb] at e2
    have hmm := mrg_map (c := cmpE) (Prod.snd : RE → En) qa qb
    rw [e1, e2] at hmm
    have hsub := mrg_sub (c := cE) qa qb
    have f1 : (mrg cE qa qb).1.map Prod.snd = (mns a b).1 := by unfold mns; rw [hmm]; rfl
    have f2 : (mrg cE qa qb).2.map Prod.snd = (mns a b).2 := by unfold mns; rw [hmm]; rfl
    have hl := mns_len a b
    obtain ⟨A1, c1, rfl, r1⟩ := o1.rds
    obtain ⟨A2, c2, rfl, r2⟩ := o2.rds
    have l1 : (mrg cE qa qb).1.length = (mns a b).1.length := by rw [← f1, List.length_map]
    have l2 : (mrg cE qa qb).2.length = (mns a b).2.length := by rw [← f2, List.length_map]
    rw [l1] at r1 he
    rw [l2] at r2 he
    have hla := ha.len
    have hlb := hb.len
    refine ⟨A1, c1, A2, c2, he, ?_, ?_⟩
    · rw [← f1]
      rw [← f1] at r1
      have := Res.ens ⟨r1, fun p hp => (ra.all p (p1.mem_iff.1 (hsub.1.subset hp))).below hbw⟩ (by rw [f1]; omega)
      simpa using this
    · rw [← f2]
      rw [← f2] at r2
      have := Res.ens ⟨r2, fun p hp => (rb.all p (p2.mem_iff.1 (hsub.2.subset hp))).below hbw⟩ (by rw [f2]; omega)
      simpa using this
  · have hok2 : (a ++ b).all okE = false := by simpa using hok
    rw [hab, hok2] at h
    rw [hok2]
    exact h
end Go.Proofs.YtdnomfekblmnbaaGreatDoor

/- Keys of Normal's map: accounts in currencies. -/
namespace Go.Proofs.YtdnomfekblmnbaaGreatDoor
open Go.RowKit Go.Maps Num
theorem laidOut : laidOutB Tryz.prog = true := by kernel_rfl
theorem row75 : 75 < Tryz.prog.types.size := of_decide_eq_true (by kernel_rfl)
theorem wide75 : (match Tryz.prog.underlying 75 with | some (.array _ _) | some (.struct _) => true | _ => false) = true := by rw [Tryz.underlying75]
set_option maxRecDepth 100000 in
theorem keyed75 : Keyed Tryz.prog 75 := Keyed.of_law (deep_law_laid laidOut (m := 2) (by omega) row75 (by kernel_rfl) wide75)
theorem cells75 : Tryz.prog.cellsOf 75 = 2 := by kernel_rfl
theorem cells9 : Tryz.prog.cellsOf 9 = 1 := by kernel_rfl
theorem kt75 : Tryz.prog.keyType 75 = true := by kernel_rfl
set_option maxRecDepth 100000 in
theorem lits9 (d : Nat) (s : List UInt8) (hs : s.length ≤ 100000) : Tryz.prog.keyLits (d + 1) 9 [.string ⟨s.toArray⟩] = some [.string s] := by
  have : (⟨s.toArray⟩ : ByteArray).size ≤ maxLen := by unfold maxLen; show s.length ≤ _; omega
  unfold Program.keyLits
  rw [Tryz.underlying9]
  simp [this]
set_option maxRecDepth 100000 in
theorem lits75 (d : Nat) (a c : List UInt8) (ha : a.length ≤ 100000) (hc : c.length ≤ 100000) : Tryz.prog.keyLits (d + 2) 75 [.string ⟨a.toArray⟩, .string ⟨c.toArray⟩] = some [.string a, .string c] := by
  unfold Program.keyLits
  rw [Tryz.underlying75]
  simp [cells75, cells9, lits9, ha, hc]
/-- how the map tells a key -/
def kb (q : Ky) : List UInt8 := keyBytes [.string q.1, .string q.2]
set_option maxRecDepth 100000 in
theorem key75 (a c : List UInt8) (ha : a.length ≤ 100000) (hc : c.length ≤ 100000) : keyOf Tryz.prog 75 (.agg #[.string ⟨a.toArray⟩, .string ⟨c.toArray⟩]) = some (.string (kb (a, c))) := by
  obtain ⟨d, hd⟩ : ∃ d, Tryz.prog.types.size + 1 = d + 2 := ⟨Tryz.prog.types.size - 1, by have := row75; omega⟩
  have hf : (Value.agg #[.string ⟨a.toArray⟩, .string ⟨c.toArray⟩]).formed Tryz.prog 75 = true := by simp [Value.formed, Tryz.underlying75, cells75]
  have hc' : (Value.agg #[.string ⟨a.toArray⟩, .string ⟨c.toArray⟩]).cells.toList = [.string ⟨a.toArray⟩, .string ⟨c.toArray⟩] := by simp [Value.cells]
  unfold keyOf
  rw [Tryz.underlying75]
  simp only
  rw [kt75, hf, hc', hd, lits75 d a c ha hc]
  rfl
theorem kb_inj {a c a' c' : List UInt8} (h1 : a.length ≤ 100000) (h2 : c.length ≤ 100000) (h3 : a'.length ≤ 100000) (h4 : c'.length ≤ 100000) (h : kb (a, c) = kb (a', c')) : (a, c) = (a', c') := by
  have e := keyed75.inj (key75 a c h1 h2) (by rw [h]; exact key75 a' c' h3 h4)
  simpa using e
end Go.Proofs.YtdnomfekblmnbaaGreatDoor
