/- Entries, plain: what a check that succeeds says, normal forms, reversals. -/
import Derived.Test.YtjcbohbpkodkoaaGreatDoorQ4
import Derived.Test.YtjcbohbpkodkoaaGreatDoorQ5
import Derived.Test.YtjcbohbpkodkoaaGreatDoorQ6
import Derived.Test.YtjcbohbpkodkoaaGreatDoorQ3
namespace Go.Proofs.YtjcbohbpkodkoaaGreatDoor
open Go.RowKit Go.Maps Num

def okE (x : En) : Bool := decide (chkE x.1 x.2.1 x.2.2 = 0)
theorem chkLs_zero {p : Option Ky} {l : List Ln} (h : chkLs p l = 0) : ∀ x ∈ l, lineI x = 0 ∧ x.2.2 ≠ [] := by
  induction l generalizing p with
  | nil => intro x hx; cases hx
  | cons y r ih =>
    rw [chkLs_cons] at h
    split at h
    · omega
    · rename_i h0
      split at h
      · omega
      · rename_i h1
        split at h
        · omega
        · intro x hx
          rcases List.mem_cons.1 hx with e | e
          · subst e; exact ⟨by omega, h1⟩
          · exact ih h x e
theorem chkE_parts {d : Int} {c : List UInt8} {l : List Ln} (h : chkE d c l = 0) : headI d c = 0 ∧ 0 < l.length ∧ l.length ≤ 64 ∧ chkLs none l = 0 ∧ balB l = true := by
  unfold chkE at h
  split at h
  · omega
  · rename_i h0
    split at h
    · omega
    · rename_i h1
      split at h
      · omega
      · rename_i h2
        split at h
        · omega
        · rename_i h3
          split at h
          · rename_i h4
            exact ⟨by omega, by omega, by omega, by omega, h4⟩
          · omega
theorem lineI_canB {x : Ln} (h : lineI x = 0) : canB x = true := by
  unfold lineI at h
  split at h
  · split at h
    · unfold chkI at h
      split at h
      · rename_i h0; unfold canB; exact decide_eq_true h0
      · omega
    · omega
  · omega
theorem okE_can {x : En} (h : okE x = true) : x.2.2.all canB = true := by
  obtain ⟨_, _, _, h4, _⟩ := chkE_parts (of_decide_eq_true h)
  rw [List.all_eq_true]
  exact fun y hy => lineI_canB (chkLs_zero h4 y hy).1
theorem ok_tight {l : List En} (h : ∀ x ∈ l, okE x = true) : Tight cmpE l := fun a ha b hb e => (cmpE_zero (okE_can (h a ha)) (okE_can (h b hb))).1 e
/-- the sizes that are examined -/
structure Fit (c : List UInt8) (l : List Ln) : Prop where
  cause : c.length ≤ 60
  len : l.length ≤ 66
  ln : ∀ x ∈ l, x.1.length ≤ 60 ∧ x.2.1.length ≤ 60 ∧ x.2.2.length ≤ 13
theorem g1_fit {c : List UInt8} {l : List Ln} (h : g1B c l = false) : Fit c l := by
  unfold g1B at h
  rw [Bool.or_eq_false_iff, Bool.or_eq_false_iff, Bool.or_eq_false_iff] at h
  obtain ⟨⟨⟨h1, _⟩, h3⟩, h4⟩ := h
  refine ⟨by have := of_decide_eq_false h1; omega, by have := of_decide_eq_false h3; omega, fun x hx => ?_⟩
  have h5 := List.any_eq_false.1 h4 x hx
  unfold lnG at h5
  rw [Bool.not_eq_true, Bool.or_eq_false_iff, Bool.or_eq_false_iff] at h5
  have := of_decide_eq_false h5.1.1
  have := of_decide_eq_false h5.1.2
  have := of_decide_eq_false h5.2
  omega
theorem Fit.sml {c : List UInt8} {l : List Ln} (h : Fit c l) : ∀ x ∈ l, Sml x := fun x hx => by
  obtain ⟨h1, h2, h3⟩ := h.ln x hx
  exact ⟨by omega, by omega, by omega⟩
theorem Fit.lns {w : World} {A : Option Addr} {n k : Nat} {c : List UInt8} {l : List Ln} (h : Fit c l) (hr : rowL.Rds w A n k l) : Lns w A n k l :=
  Lns.of_rds hr (by rw [← hr.len]; have := h.len; omega) h.sml
theorem Lns.none (w : World) : Lns w none 0 0 [] := ⟨rfl, Nat.le_refl _, by unfold maxLen; omega, by omega, fun x hx => (List.not_mem_nil hx).elim, fun h => absurd h (Nat.lt_irrefl 0)⟩
/-- an entry and a code, returned -/
def EnP (y : En) (i : Int) (w : World) (e : Ending) (w' : World) : Prop :=
  ∃ A n c, e = .returned (.tuple #[.agg (enV y.1 y.2.1 A n c), .int .i64 i]) ∧ Lns w' A n c y.2.2 ∧ Below w.heap.size w w'
def revY (d : Int) (c : List UInt8) (l : List Ln) : En := if chkE d c l = 0 then (d, c, l.map negL) else en0
def revI (d : Int) (c : List UInt8) (l : List Ln) : Int := if chkE d c l = 0 then 0 else 1
theorem rev_enp {d : Int} {c : List UInt8} {l : List Ln} {w w' : World} {e : Ending} (h : RevPost d c l w e w') : EnP (revY d c l) (revI d c l) w e w' := by
  obtain ⟨hb, h⟩ := h
  unfold revY revI
  split at h
  · rename_i h0
    obtain ⟨A, k, rfl, hL⟩ := h
    rw [if_pos h0, if_pos h0]
    exact ⟨A, _, k, rfl, hL, hb⟩
  · rename_i h0
    rw [if_neg h0, if_neg h0, h]
    exact ⟨none, 0, 0, rfl, Lns.none _, hb⟩
/-! what a check that succeeds says -/
theorem lineI_iff {x : Ln} : lineI x = 0 ↔ codeB x.1 = true ∧ curB x.2.1 = true ∧ canB x = true := by
  unfold lineI
  constructor
  · intro h
    split at h
    · rename_i h1
      split at h
      · rename_i h2
        unfold chkI at h
        split at h
        · rename_i h3; exact ⟨h1, h2, decide_eq_true h3⟩
        · omega
      · omega
    · omega
  · rintro ⟨h1, h2, h3⟩
    rw [if_pos h1, if_pos h2, chkI, if_pos (of_decide_eq_true h3)]
theorem fldI_of {l : List Ln} (h : ∀ x ∈ l, lineI x = 0) : fldI l = 0 := by
  induction l with
  | nil => rfl
  | cons x r ih => rw [fldI_cons, if_neg (by rw [h x (by simp)]; decide), ih fun y hy => h y (List.mem_cons_of_mem _ hy)]
theorem chkLs_ord {p : Option Ky} {l : List Ln} (h : chkLs p l = 0) : OrdL l ∧ ∀ q, p = some q → ∀ x ∈ l, cmpKy q (key x) = -1 := by
  induction l generalizing p with
  | nil => exact ⟨List.Pairwise.nil, fun q _ x hx => (List.not_mem_nil hx).elim⟩
  | cons y r ih =>
    rw [chkLs_cons] at h
    split at h
    · omega
    · split at h
      · omega
      · split at h
        · omega
        · rename_i h2
          obtain ⟨i1, i2⟩ := ih h
          have i3 := i2 _ rfl
          refine ⟨List.pairwise_cons.2 ⟨i3, i1⟩, fun q hq x hx => ?_⟩
          subst hq
          have h4 : cmpKy q (key y) = -1 := by
            have h5 : ¬ 0 ≤ cmpKy q (key y) := fun hc => h2 (decide_eq_true hc)
            have := cmpKy_cmp.rng q (key y)
            omega
          rcases List.mem_cons.1 hx with e | e
          · subst e; exact h4
          · exact cmpKy_cmp.tr _ _ _ h4 (i3 x e)
theorem chkLs_of {p : Option Ky} {l : List Ln} (h : ∀ x ∈ l, lineI x = 0 ∧ x.2.2 ≠ []) (ho : OrdL l) (hp : ∀ q, p = some q → ∀ x ∈ l, cmpKy q (key x) = -1) : chkLs p l = 0 := by
  induction l generalizing p with
  | nil => unfold chkLs; rfl
  | cons y r ih =>
    unfold OrdL at ho
    rw [List.pairwise_cons] at ho
    obtain ⟨h1, h2⟩ := h y (by simp)
    have h3 : ¬ ordB p (key y) = true := by
      cases p with
      | none => exact fun e => by cases e
      | some q =>
        have := hp q rfl y (by simp)
        intro e
        have : 0 ≤ cmpKy q (key y) := of_decide_eq_true e
        omega
    rw [chkLs_cons, if_neg (by rw [h1]; decide), if_neg h2, if_neg h3]
    exact ih (fun x hx => h x (List.mem_cons_of_mem _ hx)) ho.2 fun q hq x hx => by cases hq; exact ho.1 x hx
structure Vld (d : Int) (c : List UInt8) (l : List Ln) : Prop where
  head : headI d c = 0
  pos : 0 < l.length
  top : l.length ≤ 64
  ln : ∀ x ∈ l, lineI x = 0 ∧ x.2.2 ≠ []
  ord : OrdL l
  bal : balB l = true
theorem chkE_iff {d : Int} {c : List UInt8} {l : List Ln} : chkE d c l = 0 ↔ Vld d c l := by
  constructor
  · intro h
    obtain ⟨h1, h2, h3, h4, h5⟩ := chkE_parts h
    exact ⟨h1, h2, h3, chkLs_zero h4, (chkLs_ord h4).1, h5⟩
  · rintro ⟨h1, h2, h3, h4, h5, h6⟩
    have h7 := chkLs_of (p := none) h4 h5 fun q e => by cases e
    unfold chkE
    rw [if_neg (by rw [h1]; decide), if_neg (by omega), if_neg (by omega), if_neg (by rw [h7]; decide), if_pos h6]
theorem Vld.can {d : Int} {c : List UInt8} {l : List Ln} (h : Vld d c l) : ∀ x ∈ l, canB x = true := fun x hx => (lineI_iff.1 (h.ln x hx).1).2.2
theorem Vld.all {d : Int} {c : List UInt8} {l : List Ln} (h : Vld d c l) : l.all canB = true := List.all_eq_true.2 h.can
/-- the sum of a line's key is its amount -/
theorem Vld.amt {d : Int} {c : List UInt8} {l : List Ln} (h : Vld d c l) {x : Ln} (hx : x ∈ l) : txt (Num.tot l (key x)) = x.2.2 := by
  rw [tot_mem h.ord.keys hx]; exact (canB_txt (h.can x hx)).symm
theorem Vld.ne {d : Int} {c : List UInt8} {l : List Ln} (h : Vld d c l) {x : Ln} (hx : x ∈ l) : val x.2.2 ≠ 0 := val_ne (of_decide_eq_true (h.can x hx)) (h.ln x hx).2
/-! normal forms -/
structure Nrd (d : Int) (c : List UInt8) (l : List Ln) : Prop where
  head : headI d c = 0
  ln : ∀ x ∈ l, lineI x = 0
  bal : balB l = true
  top : (nrmL l).length ≤ 64
theorem nrmI_iff {d : Int} {c : List UInt8} {l : List Ln} : nrmI d c l = 0 ↔ Nrd d c l := by
  unfold nrmI
  constructor
  · intro h
    split at h
    · omega
    · split at h
      · omega
      · split at h
        · omega
        · split at h
          · omega
          · rename_i h1 h2 h3 h4
            exact ⟨by omega, fldI_zero (by omega), by simpa using h3, by omega⟩
  · rintro ⟨h1, h2, h3, h4⟩
    rw [if_neg (by rw [h1]; decide), if_neg (by rw [fldI_of h2]; decide), if_neg (by rw [h3]; decide), if_neg (by omega)]
theorem Nrd.can {d : Int} {c : List UInt8} {l : List Ln} (h : Nrd d c l) : ∀ x ∈ l, canB x = true := fun x hx => (lineI_iff.1 (h.ln x hx)).2.2
theorem Nrd.of {d : Int} {c : List UInt8} {l : List Ln} (h : Nrd d c l) : NormOf l (nrmL l) := nrmL_of l h.can
theorem Vld.nrm {d : Int} {c : List UInt8} {l : List Ln} (h : Vld d c l) : nrmL l = l := nrmL_self h.ord fun x hx => ⟨h.can x hx, (h.ln x hx).2⟩
theorem Vld.nrd {d : Int} {c : List UInt8} {l : List Ln} (h : Vld d c l) : Nrd d c l := ⟨h.head, fun x hx => (h.ln x hx).1, h.bal, by rw [h.nrm]; exact h.top⟩
theorem nrm_key {l out : List Ln} (h : NormOf l out) {z : Ln} (hz : z ∈ out) : ∃ x ∈ l, key x = key z := by
  by_cases e : ∃ x ∈ l, key x = key z
  · exact e
  · exact absurd (tot_none fun x hx ek => e ⟨x, hx, ek⟩) ((h.mem z).1 hz).2
theorem Nrd.nln {d : Int} {c : List UInt8} {l : List Ln} (h : Nrd d c l) : ∀ z ∈ nrmL l, lineI z = 0 ∧ z.2.2 ≠ [] := fun z hz => by
  obtain ⟨x, hx, e⟩ := nrm_key h.of hz
  obtain ⟨h1, h2, _⟩ := lineI_iff.1 (h.ln x hx)
  have h3 := h.of.amt z hz
  simp only [key, Prod.mk.injEq] at e
  exact ⟨lineI_iff.2 ⟨by rw [← e.1]; exact h1, by rw [← e.2]; exact h2, h3.1⟩, h3.2⟩
theorem Nrd.self {d : Int} {c : List UInt8} {l : List Ln} (h : Nrd d c l) : nrmL (nrmL l) = nrmL l := nrmL_self h.of.ord h.of.amt
theorem Nrd.again {d : Int} {c : List UInt8} {l : List Ln} (h : Nrd d c l) : Nrd d c (nrmL l) :=
  ⟨h.head, fun z hz => (h.nln z hz).1, by rw [balB_of_tot h.of.tot]; exact h.bal, by rw [h.self]; exact h.top⟩
theorem Nrd.vld {d : Int} {c : List UInt8} {l : List Ln} (h : Nrd d c l) (h0 : 0 < (nrmL l).length) : Vld d c (nrmL l) :=
  ⟨h.head, h0, h.top, h.nln, h.of.ord, by rw [balB_of_tot h.of.tot]; exact h.bal⟩
/-- a list with the same sums, whose lines are well formed, has the same normal form -/
theorem Nrd.same {d : Int} {c : List UInt8} {l m : List Ln} (h : Nrd d c l) (hm : ∀ x ∈ m, lineI x = 0) (ht : ∀ k, tot m k = tot l k) : Nrd d c m ∧ nrmL m = nrmL l := by
  have e := nrmL_tot (fun x hx => (lineI_iff.1 (hm x hx)).2.2) h.can ht
  exact ⟨⟨h.head, hm, by rw [balB_of_tot ht]; exact h.bal, by rw [e]; exact h.top⟩, e⟩
/-! reversals -/
theorem canB_t {a b : List UInt8} {v : Int} : canB (a, b, txt v) = true := by
  unfold canB can
  rw [val_txt]
  exact decide_eq_true rfl
theorem negL_key (x : Ln) : key (negL x) = key x := rfl
theorem negL_val (x : Ln) : val (negL x).2.2 = - val x.2.2 := val_txt _
theorem negL_twice {x : Ln} (h : canB x = true) : negL (negL x) = x := by
  unfold negL
  rw [val_txt, Int.neg_neg, ← canB_txt h]
theorem Vld.neg {d : Int} {c : List UInt8} {l : List Ln} (h : Vld d c l) : Vld d c (l.map negL) := by
  refine ⟨h.head, by rw [List.length_map]; exact h.pos, by rw [List.length_map]; exact h.top, fun z hz => ?_, ?_, ?_⟩
  · obtain ⟨x, hx, rfl⟩ := List.mem_map.1 hz
    obtain ⟨h1, h2, _⟩ := lineI_iff.1 (h.ln x hx).1
    refine ⟨lineI_iff.2 ⟨h1, h2, canB_t⟩, fun e => ?_⟩
    have := h.ne hx
    have := txt_nil.1 e
    omega
  · exact List.Pairwise.map negL (fun a b h => h) h.ord
  · rw [balB_iff]
    intro q
    have := curT_opp l q
    have h2 := balB_iff.1 h.bal q
    show curT (l.map oppL) q = 0
    omega
theorem Vld.twice {d : Int} {c : List UInt8} {l : List Ln} (h : Vld d c l) : (l.map negL).map negL = l := by
  rw [List.map_map]
  conv => rhs; rw [← List.map_id l]
  exact List.map_congr_left fun x hx => negL_twice (h.can x hx)
theorem Vld.both {d : Int} {c : List UInt8} {l : List Ln} (h : Vld d c l) : Nrd d c (l ++ l.map negL) ∧ nrmL (l ++ l.map negL) = [] := by
  have hl : ∀ x ∈ l ++ l.map negL, lineI x = 0 := fun x hx => by
    rcases List.mem_append.1 hx with e | e
    · exact (h.ln x e).1
    · exact (h.neg.ln x e).1
  have ht : ∀ k, tot (l ++ l.map negL) k = tot [] k := fun k => by
    have := tot_opp l k
    rw [tot_append, tot_nil]
    show tot l k + tot (l.map oppL) k = 0
    omega
  have e : nrmL (l ++ l.map negL) = [] := by
    rw [nrmL_tot (m := []) (fun x hx => (lineI_iff.1 (hl x hx)).2.2) (fun x hx => (List.not_mem_nil hx).elim) ht]; rfl
  exact ⟨⟨h.head, hl, by rw [balB_of_tot ht]; rfl, by rw [e]; decide⟩, e⟩
theorem Vld.opp {d : Int} {c : List UInt8} {l : List Ln} (h : Vld d c l) {x : Ln} (hx : x ∈ l) : Num.tot (l.map negL) (key x) = - val x.2.2 := by
  have := tot_opp l (key x)
  rw [tot_mem h.ord.keys hx] at this
  exact this
theorem neg_len {c : List UInt8} {l : List Ln} (h : Fit c l) : ∀ z ∈ l.map negL, z.2.2.length ≤ 14 := fun z hz => by
  obtain ⟨x, hx, rfl⟩ := List.mem_map.1 hz
  have h1 := val_bd x.2.2
  have h2 : 10 ^ x.2.2.length ≤ 10 ^ 13 := Nat.pow_le_pow_right (by omega) (h.ln x hx).2.2
  have := txt_bd (v := - val x.2.2) (k := 13) (by omega)
  exact this
theorem nrm_len {c : List UInt8} {l : List Ln} (h : Fit c l) : ∀ z ∈ nrmL l, z.2.2.length ≤ 20 := fun z hz => by
  have h1 := (nrmL_amk l (fun x hx => (h.ln x hx).2.2) l.length (Nat.le_refl _)).2
  rw [List.take_length] at h1
  exact amk_100 (h1 z hz) (by have := h.len; omega)
/-! the order -/
theorem cmpE_ne_rev {d : Int} {c : List UInt8} {l : List Ln} (h : Vld d c l) : cmpE (d, c, l) (d, c, l.map negL) ≠ 0 := by
  intro e
  have e1 := (cmpE_zero (a := (d, c, l)) (b := (d, c, l.map negL)) h.all h.neg.all).1 e
  have e2 : l = l.map negL := congrArg (fun q : En => q.2.2) e1
  obtain ⟨x, hx⟩ := List.exists_mem_of_length_pos h.pos
  have h1 := h.opp hx
  rw [← e2, tot_mem h.ord.keys hx] at h1
  have := h.ne hx
  omega
theorem cmp3 {x y z : En} : ¬ (cmpE x y ≤ 0 ∧ cmpE y z ≤ 0 ∧ min (cmpE x y) (cmpE y z) < cmpE x z) ∧ ¬ (0 ≤ cmpE x y ∧ 0 ≤ cmpE y z ∧ cmpE x z < max (cmpE x y) (cmpE y z)) := by
  have hc := cmpE_cmp
  have r1 := hc.rng x y
  have r2 := hc.rng y z
  have r3 := hc.rng x z
  have e1 := hc.eqv x y z
  have e2 := hc.eqv' y z x
  have t1 := hc.tr x y z
  have t2 := hc.ge x y z
  constructor
  · rintro ⟨h1, h2, h3⟩
    rcases r1 with r1 | r1 | r1 <;> rcases r2 with r2 | r2 | r2 <;> omega
  · rintro ⟨h1, h2, h3⟩
    rcases r1 with r1 | r1 | r1 <;> rcases r2 with r2 | r2 | r2 <;> omega
end Go.Proofs.YtjcbohbpkodkoaaGreatDoor

/- Ledgers, plain: the lines of entries, trial balances, lists of balances. -/
namespace Go.Proofs.YtjcbohbpkodkoaaGreatDoor
open Go.RowKit Go.Maps Num

/-- the lines of the entries whose day is accepted -/
def flat (l : List En) (p : Int → Bool) : List Ln := l.flatMap fun e => if p e.1 then e.2.2 else []
theorem flat_nil (p : Int → Bool) : flat [] p = [] := rfl
theorem flat_cons (e : En) (l : List En) (p : Int → Bool) : flat (e :: l) p = (if p e.1 then e.2.2 else []) ++ flat l p := rfl
theorem flat_snoc (l : List En) (e : En) (p : Int → Bool) : flat (l ++ [e]) p = flat l p ++ if p e.1 then e.2.2 else [] := by simp [flat]
theorem flat_append (a b : List En) (p : Int → Bool) : flat (a ++ b) p = flat a p ++ flat b p := by simp [flat]
theorem flat_mem {l : List En} {p : Int → Bool} {x : Ln} (h : x ∈ flat l p) : ∃ e ∈ l, p e.1 = true ∧ x ∈ e.2.2 := by
  obtain ⟨e, he, hx⟩ := List.mem_flatMap.1 h
  split at hx
  · rename_i hp; exact ⟨e, he, hp, hx⟩
  · exact (List.not_mem_nil hx).elim
/-- valid entries -/
def OkL (l : List En) : Prop := ∀ e ∈ l, okE e = true
theorem OkL.vld {l : List En} (h : OkL l) {e : En} (he : e ∈ l) : Vld e.1 e.2.1 e.2.2 := chkE_iff.1 (of_decide_eq_true (h e he))
theorem OkL.ln {l : List En} (h : OkL l) (p : Int → Bool) : ∀ x ∈ flat l p, lineI x = 0 := fun x hx => by
  obtain ⟨e, he, _, hx⟩ := flat_mem hx
  exact ((h.vld he).ln x hx).1
theorem OkL.can {l : List En} (h : OkL l) (p : Int → Bool) : ∀ x ∈ flat l p, canB x = true := fun x hx => (lineI_iff.1 (h.ln p x hx)).2.2
theorem OkL.of {l : List En} (h : OkL l) (p : Int → Bool) : NormOf (flat l p) (nrmL (flat l p)) := nrmL_of _ (h.can p)
theorem OkL.cur {l : List En} (h : OkL l) (p : Int → Bool) (c : List UInt8) : curT (flat l p) c = 0 := by
  induction l with
  | nil => rfl
  | cons e r ih =>
    rw [flat_cons, curT_append, ih fun x hx => h x (List.mem_cons_of_mem _ hx)]
    split
    · rw [balB_iff.1 (h.vld (e := e) (by simp)).bal c]; rfl
    · rfl
theorem OkL.tail {e : En} {l : List En} (h : OkL (e :: l)) : OkL l := fun x hx => h x (List.mem_cons_of_mem _ hx)
/-- a list of balances, as it is checked -/
def listB (l : List Ln) : Bool := decide (chkLs none l = 0)
theorem listB_iff {l : List Ln} : listB l = true ↔ (∀ x ∈ l, lineI x = 0 ∧ x.2.2 ≠ []) ∧ OrdL l := by
  unfold listB
  rw [decide_eq_true_iff]
  exact ⟨fun h => ⟨chkLs_zero h, (chkLs_ord h).1⟩, fun h => chkLs_of h.1 h.2 fun q e => by cases e⟩
theorem norm_lineI {ls out : List Ln} (hn : NormOf ls out) (hl : ∀ x ∈ ls, lineI x = 0) : ∀ z ∈ out, lineI z = 0 ∧ z.2.2 ≠ [] := fun z hz => by
  obtain ⟨x, hx, e⟩ := nrm_key hn hz
  obtain ⟨h1, h2, _⟩ := lineI_iff.1 (hl x hx)
  have h3 := hn.amt z hz
  simp only [key, Prod.mk.injEq] at e
  exact ⟨lineI_iff.2 ⟨by rw [← e.1]; exact h1, by rw [← e.2]; exact h2, h3.1⟩, h3.2⟩
theorem norm_listB {ls out : List Ln} (hn : NormOf ls out) (hl : ∀ x ∈ ls, lineI x = 0) : listB out = true := listB_iff.2 ⟨norm_lineI hn hl, hn.ord⟩
theorem OkL.list {l : List En} (h : OkL l) (p : Int → Bool) : listB (nrmL (flat l p)) = true := norm_listB (h.of p) (h.ln p)
/-- the amount of a key in a list -/
def balOf (t : List Ln) (k : Ky) : List UInt8 := match t.find? fun b => decide (key b = k) with | some b => b.2.2 | none => []
theorem balOf_norm {ls out : List Ln} (hn : NormOf ls out) (k : Ky) : balOf out k = txt (Num.tot ls k) := by
  unfold balOf
  cases hf : out.find? fun b => decide (key b = k) with
  | some b =>
    have hk : key b = k := by
      have h9 := List.find?_some hf
      exact of_decide_eq_true h9
    have hm := List.mem_of_find?_eq_some hf
    have := ((hn.mem b).1 hm).1
    rw [hk] at this
    exact this
  | none =>
    have hnone : ∀ b ∈ out, key b ≠ k := fun b hb e => by
      have := List.find?_eq_none.1 hf b hb
      rw [decide_eq_true e] at this
      exact this rfl
    have h0 := tot_none hnone
    rw [hn.tot] at h0
    rw [h0, txt_zero]
theorem nrmL_app (a b : List Ln) : nrmL (a ++ b) = b.foldl putL (nrmL a) := by unfold nrmL; rw [List.foldl_append]
/-- the normal form of a list of balances is itself -/
theorem listB_nrm {l : List Ln} (h : listB l = true) : nrmL l = l := by
  obtain ⟨h1, h2⟩ := listB_iff.1 h
  exact nrmL_self h2 fun x hx => ⟨(lineI_iff.1 (h1 x hx).1).2.2, (h1 x hx).2⟩
theorem listB_of {l : List Ln} (h : listB l = true) : NormOf l l := by
  have h1 := nrmL_of l fun x hx => (lineI_iff.1 ((listB_iff.1 h).1 x hx).1).2.2
  rwa [listB_nrm h] at h1
theorem listB_can {l : List Ln} (h : listB l = true) : ∀ x ∈ l, canB x = true := fun x hx => (lineI_iff.1 ((listB_iff.1 h).1 x hx).1).2.2
/-- a list less another one -/
def lessB (a b : List Ln) : List Ln := nrmL (a ++ b.map negL)
theorem lessB_put {a b : List Ln} (ha : listB a = true) : lessB a b = (b.map negL).foldl putL a := by unfold lessB; rw [nrmL_app, listB_nrm ha]
theorem negL_ln {b : List Ln} (h : ∀ x ∈ b, lineI x = 0) : ∀ x ∈ b.map negL, lineI x = 0 := fun z hz => by
  obtain ⟨x, hx, rfl⟩ := List.mem_map.1 hz
  obtain ⟨h1, h2, _⟩ := lineI_iff.1 (h x hx)
  exact lineI_iff.2 ⟨h1, h2, canB_t⟩
theorem tot_neg (b : List Ln) (k : Ky) : tot (b.map negL) k = - tot b k := tot_opp b k
theorem less_of {a b : List Ln} (ha : ∀ x ∈ a, canB x = true) : NormOf (a ++ b.map negL) (lessB a b) := nrmL_of _ fun x hx => by
  rcases List.mem_append.1 hx with h | h
  · exact ha x h
  · obtain ⟨y, _, rfl⟩ := List.mem_map.1 h
    exact canB_t
theorem less_tot {a b : List Ln} (ha : ∀ x ∈ a, canB x = true) (k : Ky) : tot (lessB a b) k = tot a k - tot b k := by
  rw [(less_of ha).tot, tot_append, tot_neg]; omega
/-- lists with the same sums are the same -/
theorem listB_ext {a b : List Ln} (ha : listB a = true) (hb : listB b = true) (h : ∀ k, tot a k = tot b k) : a = b := by
  rw [← listB_nrm ha, ← listB_nrm hb]
  exact nrmL_tot (listB_can ha) (listB_can hb) h
end Go.Proofs.YtjcbohbpkodkoaaGreatDoor

/- Audit, plain: nodes, trees, proofs. -/
namespace Go.Proofs.YtjcbohbpkodkoaaGreatDoor
open Go.RowKit Go.Maps Num

/-- a node: a sum and a digest -/
abbrev Nd := List UInt8 × List UInt8
def cutLoop : Nat → Nat → Nat → Nat
  | 0, k, _ => k
  | f + 1, k, n => if 2 * k < n then cutLoop f (2 * k) n else k
/-- how many balances the first part of a tree has -/
def cutN (n : Nat) : Nat := cutLoop n 1 n
theorem cutLoop_stop (f k n : Nat) (h : ¬ 2 * k < n) : cutLoop f k n = k := by cases f <;> simp [cutLoop, h]
theorem cutLoop_bounds (f k n : Nat) (h1 : 1 ≤ k) (h2 : k < n) : 1 ≤ cutLoop f k n ∧ cutLoop f k n < n := by
  induction f generalizing k with
  | zero => exact ⟨h1, h2⟩
  | succ f ih =>
    rw [cutLoop]
    split
    · exact ih (2 * k) (by omega) (by assumption)
    · exact ⟨h1, h2⟩
theorem cutN_pos (n : Nat) (h : 2 ≤ n) : 1 ≤ cutN n := (cutLoop_bounds n 1 n (by omega) (by omega)).1
theorem cutN_lt (n : Nat) (h : 2 ≤ n) : cutN n < n := (cutLoop_bounds n 1 n (by omega) (by omega)).2
/-- the text of a number -/
def prt (a : List UInt8) : List UInt8 := if can a = [] then [48] else can a
def absT (a : List UInt8) : List UInt8 := txt ((val a).natAbs : Int)
def leafT (b : Ln) : List UInt8 := 0 :: (b.1 ++ 32 :: (b.2.1 ++ 32 :: prt b.2.2))
def overT (x y : Nd) : List UInt8 := 1 :: (prt x.1 ++ 32 :: (x.2 ++ (prt y.1 ++ 32 :: y.2)))
section
variable (D : List UInt8 → List UInt8)
def leafN (b : Ln) : Nd := (absT b.2.2, D (leafT b))
def overN (x y : Nd) : Nd := (txt (val x.1 + val y.1), D (overT x y))
def rootF : Nat → List Ln → Nd
  | 0, _ => ([], [])
  | f + 1, l => if l.length = 0 then ([], D []) else if l.length = 1 then leafN D (l.getD 0 ln0) else overN D (rootF f (l.take (cutN l.length))) (rootF f (l.drop (cutN l.length)))
/-- the root of the tree over balances -/
def rootN (l : List Ln) : Nd := rootF D (l.length + 1) l
theorem rootF_more (f g : Nat) (l : List Ln) (hf : l.length < f) (hg : l.length < g) : rootF D f l = rootF D g l := by
  induction f generalizing g l with
  | zero => omega
  | succ f ih =>
    cases g with
    | zero => omega
    | succ g =>
      rw [rootF, rootF]
      split
      · rfl
      split
      · rfl
      have h2 : 2 ≤ l.length := by omega
      have h3 := cutN_pos _ h2
      have h4 := cutN_lt _ h2
      rw [ih g (l.take (cutN l.length)) (by rw [List.length_take]; omega) (by rw [List.length_take]; omega), ih g (l.drop (cutN l.length)) (by rw [List.length_drop]; omega) (by rw [List.length_drop]; omega)]
theorem root_nil : rootN D [] = ([], D []) := rfl
theorem root_one (b : Ln) : rootN D [b] = leafN D b := rfl
theorem root_two (l : List Ln) (h : 2 ≤ l.length) : rootN D l = overN D (rootN D (l.take (cutN l.length))) (rootN D (l.drop (cutN l.length))) := by
  have h3 := cutN_pos _ h
  have h4 := cutN_lt _ h
  unfold rootN
  rw [rootF, if_neg (by omega), if_neg (by omega), rootF_more D l.length ((l.take (cutN l.length)).length + 1) (l.take (cutN l.length)) (by rw [List.length_take]; omega) (Nat.lt_succ_self _), rootF_more D l.length ((l.drop (cutN l.length)).length + 1) (l.drop (cutN l.length)) (by rw [List.length_drop]; omega) (Nat.lt_succ_self _)]
end
/-- the parts beside the way to a balance, from the root on: where they begin and end, and whether they stand behind the way -/
def partsF : Nat → Nat → Nat → Nat → List (Nat × Nat × Bool)
  | 0, _, _, _ => []
  | f + 1, i, a, b => if b - a ≤ 1 then [] else if i < a + cutN (b - a) then (a + cutN (b - a), b, true) :: partsF f i a (a + cutN (b - a)) else (a, a + cutN (b - a), false) :: partsF f i (a + cutN (b - a)) b
def partsN (i n : Nat) : List (Nat × Nat × Bool) := partsF n i 0 n
/-- the parts beside the way, from the balance on -/
def besideN (i n : Nat) : List (Nat × Nat × Bool) := (partsN i n).reverse
theorem partsF_more (f g i a b : Nat) (hf : b - a ≤ f) (hg : b - a ≤ g) : partsF f i a b = partsF g i a b := by
  induction f generalizing g a b with
  | zero =>
    cases g with
    | zero => rfl
    | succ g => rw [partsF, partsF, if_pos (by omega)]
  | succ f ih =>
    cases g with
    | zero => rw [partsF, partsF, if_pos (by omega)]
    | succ g =>
      rw [partsF, partsF]
      split
      · rfl
      have h2 : 2 ≤ b - a := by omega
      have h3 := cutN_pos _ h2
      have h4 := cutN_lt _ h2
      rw [ih g a _ (by omega) (by omega), ih g _ b (by omega) (by omega)]
/-- whether the parts beside the way stand behind it, from the root on -/
def wayF : Nat → Nat → Nat → List Bool
  | 0, _, _ => []
  | f + 1, i, n => if n ≤ 1 then [] else if i < cutN n then true :: wayF f i (cutN n) else false :: wayF f (i - cutN n) (n - cutN n)
def wayN (i n : Nat) : List Bool := wayF n i n
theorem wayF_more (f g i n : Nat) (hf : n ≤ f) (hg : n ≤ g) : wayF f i n = wayF g i n := by
  induction f generalizing g i n with
  | zero =>
    cases g with
    | zero => rfl
    | succ g => rw [wayF, wayF, if_pos (by omega)]
  | succ f ih =>
    cases g with
    | zero => rw [wayF, wayF, if_pos (by omega)]
    | succ g =>
      rw [wayF, wayF]
      split
      · rfl
      have h2 : 2 ≤ n := by omega
      have h3 := cutN_pos _ h2
      have h4 := cutN_lt _ h2
      rw [ih g i _ (by omega) (by omega), ih g _ _ (by omega) (by omega)]
theorem way_small (i n : Nat) (h : n ≤ 1) : wayN i n = [] := by
  unfold wayN
  cases n with
  | zero => rfl
  | succ n => rw [wayF, if_pos h]
theorem way_two (i n : Nat) (h : 2 ≤ n) : wayN i n = if i < cutN n then true :: wayN i (cutN n) else false :: wayN (i - cutN n) (n - cutN n) := by
  have h3 := cutN_pos _ h
  have h4 := cutN_lt _ h
  obtain ⟨m, rfl⟩ : ∃ m, n = m + 1 := ⟨n - 1, by omega⟩
  unfold wayN
  rw [wayF, if_neg (by omega), wayF_more m (cutN (m + 1)) _ _ (by omega) (Nat.le_refl _), wayF_more m (m + 1 - cutN (m + 1)) _ _ (by omega) (Nat.le_refl _)]
theorem parts_way (f i a b : Nat) (h : a ≤ i) (hf : b - a ≤ f) : (partsF f i a b).map (fun x => x.2.2) = wayN (i - a) (b - a) := by
  induction f generalizing a b with
  | zero => rw [partsF, way_small _ _ (by omega)]; rfl
  | succ f ih =>
    rw [partsF]
    split
    · rw [way_small _ _ (by omega)]; rfl
    have h2 : 2 ≤ b - a := by omega
    have h3 := cutN_pos _ h2
    have h4 := cutN_lt _ h2
    rw [way_two _ _ h2]
    split
    · rw [if_pos (by omega), List.map_cons, ih a _ h (by omega), show a + cutN (b - a) - a = cutN (b - a) by omega]
    · rw [if_neg (by omega), List.map_cons, ih _ b (by omega) (by omega), show i - (a + cutN (b - a)) = i - a - cutN (b - a) by omega, show b - (a + cutN (b - a)) = b - a - cutN (b - a) by omega]
section
variable (D : List UInt8 → List UInt8)
/-- the roots of the parts beside the way -/
def nodesN (l : List Ln) (i : Nat) : List Nd := (besideN i l.length).map fun x => rootN D ((l.take x.2.1).drop x.1)
/-- one step up -/
def stepN (own : Nd) (x : Bool × Nd) : Nd := if x.1 then overN D own x.2 else overN D x.2 own
/-- the root to which nodes lead -/
def climbN (own : Nd) (fs : List Bool) (ns : List Nd) : Nd := (fs.zip ns).foldl (stepN D) own
theorem climb_snoc (own : Nd) (fs : List Bool) (ns : List Nd) (f : Bool) (x : Nd) (h : fs.length = ns.length) : climbN D own (fs ++ [f]) (ns ++ [x]) = stepN D (climbN D own fs ns) (f, x) := by
  unfold climbN
  rw [List.zip_append h, List.foldl_append]
  rfl
/-- the proof of a part's balance leads to the part's root -/
theorem climb_parts (l : List Ln) (f i a b : Nat) (hi : a ≤ i ∧ i < b) (hb : b ≤ l.length) (hf : b - a ≤ f) :
    climbN D (leafN D (l.getD i ln0)) ((partsF f i a b).reverse.map fun x => x.2.2) ((partsF f i a b).reverse.map fun x => rootN D ((l.take x.2.1).drop x.1)) = rootN D ((l.take b).drop a) := by
  induction f generalizing a b with
  | zero => omega
  | succ f ih =>
    have hlen : ((l.take b).drop a).length = b - a := by rw [List.length_drop, List.length_take]; omega
    rw [partsF]
    split
    · have hab : i = a := by omega
      subst hab
      have e : (l.take b).drop i = [l.getD i ln0] := by
        obtain rfl : b = i + 1 := by omega
        rw [take_ln l i (by omega), List.drop_left' (by rw [List.length_take]; omega)]
      rw [e, root_one]
      rfl
    have h2 : 2 ≤ b - a := by omega
    have h3 := cutN_pos _ h2
    have h4 := cutN_lt _ h2
    have hr : rootN D ((l.take b).drop a) = overN D (rootN D ((l.take (a + cutN (b - a))).drop a)) (rootN D ((l.take b).drop (a + cutN (b - a)))) := by
      rw [root_two D _ (by rw [hlen]; exact h2), hlen]
      congr 2
      · rw [List.take_drop, List.take_take, Nat.min_eq_left (by omega)]
      · rw [List.drop_drop]
    rw [hr]
    split
    · rw [List.reverse_cons, List.map_append, List.map_append, List.map_cons, List.map_cons, List.map_nil, List.map_nil, climb_snoc D _ _ _ _ _ (by rw [List.length_map, List.length_map]), ih a _ ⟨hi.1, by omega⟩ (by omega) (by omega)]
      rfl
    · rw [List.reverse_cons, List.map_append, List.map_append, List.map_cons, List.map_cons, List.map_nil, List.map_nil, climb_snoc D _ _ _ _ _ (by rw [List.length_map, List.length_map]), ih _ b ⟨by omega, hi.2⟩ hb (by omega)]
      rfl
/-- the proof of a list's balance leads to its root -/
theorem climb_nodes (l : List Ln) (i : Nat) (h : i < l.length) : climbN D (leafN D (l.getD i ln0)) ((wayN i l.length).reverse) (nodesN D l i) = rootN D l := by
  have h1 := climb_parts D l l.length i 0 l.length ⟨by omega, h⟩ (Nat.le_refl _) (by omega)
  have h2 := parts_way l.length i 0 l.length (by omega) (by omega)
  rw [List.take_length, List.drop_zero] at h1
  simp only [Nat.sub_zero] at h2
  unfold nodesN besideN partsN
  rw [← h2, ← List.map_reverse]
  exact h1
theorem nodes_len (l : List Ln) (i : Nat) : (nodesN D l i).length = (wayN i l.length).length := by
  unfold nodesN besideN partsN
  have h2 := congrArg List.length (parts_way l.length i 0 l.length (by omega) (by omega))
  rw [List.length_map] at h2
  simp only [Nat.sub_zero] at h2
  rw [List.length_map, List.length_reverse, h2]
end
end Go.Proofs.YtjcbohbpkodkoaaGreatDoor

/- Audit, plain: sums, texts that can be read back, proofs that are refused. -/
namespace Go.Proofs.YtjcbohbpkodkoaaGreatDoor
open Go.RowKit Go.Maps Num

/-! a text without spaces, a space, and what follows it -/
theorem split32 : ∀ (s s' t t' : List UInt8), (32 : UInt8) ∉ s → (32 : UInt8) ∉ s' → s ++ 32 :: t = s' ++ 32 :: t' → s = s' ∧ t = t'
  | [], [], t, t', _, _, h => ⟨rfl, (List.cons.inj h).2⟩
  | [], c :: r, t, t', _, h2, h => absurd ((List.cons.inj h).1 ▸ List.mem_cons_self) h2
  | c :: r, [], t, t', h1, _, h => absurd ((List.cons.inj h).1.symm ▸ List.mem_cons_self) h1
  | c :: r, d :: q, t, t', h1, h2, h => by
    obtain ⟨e1, e2⟩ := List.cons.inj h
    obtain ⟨e3, e4⟩ := split32 r q t t' (fun hm => h1 (List.mem_cons_of_mem _ hm)) (fun hm => h2 (List.mem_cons_of_mem _ hm)) e2
    exact ⟨by rw [e1, e3], e4⟩
theorem txt_sp (v : Int) : (32 : UInt8) ∉ txt v := fun h => by
  have hd : (32 : UInt8) ∉ dig v.natAbs := fun hm => by
    have := List.all_eq_true.1 (dig_all v.natAbs) _ hm
    revert this; decide
  unfold txt at h
  split at h
  · rcases List.mem_cons.1 h with e | e
    · revert e; decide
    · exact hd e
  · exact hd h
theorem prt_sp (a : List UInt8) : (32 : UInt8) ∉ prt a := fun h => by
  unfold prt at h
  split at h
  · revert h; decide
  · exact txt_sp _ h
theorem prt_inj {a b : List UInt8} (ha : can a = a) (hb : can b = b) (h : prt a = prt b) : a = b := by
  have hz : ∀ c : List UInt8, can c = c → c ≠ [48] := fun c hc e => by
    subst e
    have : can [48] = [] := by decide +kernel
    rw [this] at hc
    cases hc
  unfold prt at h
  rw [ha, hb] at h
  split at h
  · rename_i e1
    split at h
    · rename_i e2; rw [e1, e2]
    · exact absurd h.symm (hz b hb)
  · split at h
    · exact absurd h (hz a ha)
    · exact h
theorem segs_byte {c : UInt8} : ∀ {l : List UInt8}, c ∈ l → c = 46 ∨ ∃ s ∈ segs l, c ∈ s
  | [], h => by cases h
  | d :: r, h => by
    rw [segs]
    by_cases hd : d = 46
    · rw [if_pos hd]
      rcases List.mem_cons.1 h with e | e
      · exact .inl (e.trans hd)
      · rcases segs_byte e with e2 | ⟨s, h1, h2⟩
        · exact .inl e2
        · exact .inr ⟨s, List.mem_cons_of_mem _ h1, h2⟩
    · rw [if_neg hd]
      cases hs : segs r with
      | nil => exact absurd hs (segs_ne r)
      | cons a t =>
        rcases List.mem_cons.1 h with e | e
        · exact .inr ⟨d :: a, by simp, by rw [e]; simp⟩
        · rcases segs_byte e with e2 | ⟨s, h1, h2⟩
          · exact .inl e2
          · rw [hs] at h1
            rcases List.mem_cons.1 h1 with e3 | e3
            · exact .inr ⟨d :: a, by simp, by rw [← e3]; exact List.mem_cons_of_mem _ h2⟩
            · exact .inr ⟨s, List.mem_cons_of_mem _ e3, h2⟩
theorem code_sp {l : List UInt8} (h : codeB l = true) : (32 : UInt8) ∉ l := fun hm => by
  rcases segs_byte hm with e | ⟨s, h1, h2⟩
  · revert e; decide
  · unfold codeB at h
    rw [Bool.and_eq_true] at h
    have h3 := List.all_eq_true.1 h.2 s h1
    unfold nameB at h3
    rw [Bool.and_eq_true] at h3
    have := List.all_eq_true.1 h3.2 _ h2
    revert this; decide
theorem cur_sp {l : List UInt8} (h : curB l = true) : (32 : UInt8) ∉ l := fun hm => by
  unfold curB at h
  rw [Bool.and_eq_true] at h
  have := List.all_eq_true.1 h.1 _ hm
  revert this; decide
/-- a balance that is valid by itself -/
def okB (b : Ln) : Prop := lineI b = 0 ∧ b.2.2 ≠ []
theorem okB_of {l : List Ln} (h : listB l = true) {b : Ln} (hb : b ∈ l) : okB b := (listB_iff.1 h).1 b hb
theorem okB_one {b : Ln} : listB [b] = true ↔ okB b := by
  rw [listB_iff]
  refine ⟨fun h => h.1 b (by simp), fun h => ⟨fun x hx => by rw [List.mem_singleton.1 hx]; exact h, ?_⟩⟩
  unfold OrdL
  simp
theorem okB_can {b : Ln} (h : okB b) : can b.2.2 = b.2.2 := of_decide_eq_true (lineI_iff.1 h.1).2.2
theorem leaf_inj {b c : Ln} (hb : okB b) (hc : okB c) (h : leafT b = leafT c) : b = c := by
  obtain ⟨b1, b2, _⟩ := lineI_iff.1 hb.1
  obtain ⟨c1, c2, _⟩ := lineI_iff.1 hc.1
  unfold leafT at h
  have h1 := (List.cons.inj h).2
  obtain ⟨e1, h2⟩ := split32 _ _ _ _ (code_sp b1) (code_sp c1) h1
  obtain ⟨e2, h3⟩ := split32 _ _ _ _ (cur_sp b2) (cur_sp c2) h2
  have e3 := prt_inj (okB_can hb) (okB_can hc) h3
  obtain ⟨x, y, z⟩ := b
  obtain ⟨x', y', z'⟩ := c
  simp only at e1 e2 e3
  rw [e1, e2, e3]
/-! valid nodes -/
def validN (x : Nd) : Bool := decide (can x.1 = x.1) && decide (0 ≤ val x.1) && decide (x.2.length = 32)
theorem validN_iff {x : Nd} : validN x = true ↔ can x.1 = x.1 ∧ 0 ≤ val x.1 ∧ x.2.length = 32 := by
  unfold validN
  rw [Bool.and_eq_true, Bool.and_eq_true, decide_eq_true_iff, decide_eq_true_iff, decide_eq_true_iff, and_assoc]
theorem over_inj {x y u v : Nd} (hx : validN x = true) (hy : validN y = true) (hu : validN u = true) (hv : validN v = true) (h : overT x y = overT u v) : x = u ∧ y = v := by
  obtain ⟨x1, _, x3⟩ := validN_iff.1 hx
  obtain ⟨y1, _, _⟩ := validN_iff.1 hy
  obtain ⟨u1, _, u3⟩ := validN_iff.1 hu
  obtain ⟨v1, _, _⟩ := validN_iff.1 hv
  unfold overT at h
  obtain ⟨e1, h2⟩ := split32 _ _ _ _ (prt_sp _) (prt_sp _) (List.cons.inj h).2
  obtain ⟨e2, h3⟩ := List.append_inj h2 (by rw [x3, u3])
  obtain ⟨e3, e4⟩ := split32 _ _ _ _ (prt_sp _) (prt_sp _) h3
  exact ⟨Prod.ext (prt_inj x1 u1 e1) e2, Prod.ext (prt_inj y1 v1 e3) e4⟩
section
variable {D : List UInt8 → List UInt8} (hD : ∀ s, (D s).length = 32)
include hD
theorem leaf_valid (b : Ln) : validN (leafN D b) = true :=
  validN_iff.2 ⟨by unfold leafN absT; simp only [can, val_txt], by unfold leafN absT; simp only [val_txt]; omega, hD _⟩
theorem over_valid {x y : Nd} (hx : validN x = true) (hy : validN y = true) : validN (overN D x y) = true :=
  validN_iff.2 ⟨by unfold overN; simp only [can, val_txt], by
    have h1 := (validN_iff.1 hx).2.1
    have h2 := (validN_iff.1 hy).2.1
    unfold overN
    simp only [val_txt]
    omega, hD _⟩
theorem step_valid {x y : Nd} (f : Bool) (hx : validN x = true) (hy : validN y = true) : validN (stepN D x (f, y)) = true := by
  unfold stepN
  cases f
  · exact over_valid hD hy hx
  · exact over_valid hD hx hy
theorem climb_valid (fs : List Bool) (ns : List Nd) (own : Nd) (h : validN own = true) (hn : ∀ x ∈ ns, validN x = true) : validN (climbN D own fs ns) = true := by
  unfold climbN
  induction fs generalizing ns own with
  | nil => exact h
  | cons f r ih =>
    cases ns with
    | nil => exact h
    | cons x q =>
      rw [List.zip_cons_cons, List.foldl_cons]
      exact ih q _ (step_valid hD f h (hn x (by simp))) fun y hy => hn y (List.mem_cons_of_mem x hy)
theorem root_valid (l : List Ln) : validN (rootN D l) = true := by
  obtain ⟨n, hn⟩ : ∃ n, l.length ≤ n := ⟨_, Nat.le_refl _⟩
  induction n generalizing l with
  | zero =>
    rw [List.length_eq_zero_iff.1 (by omega : l.length = 0), root_nil]
    exact validN_iff.2 ⟨(show can [] = [] by decide +kernel), (show (0 : Int) ≤ val [] by decide +kernel), hD _⟩
  | succ n ih =>
    match l, hn with
    | [], _ => rw [root_nil]; exact validN_iff.2 ⟨(show can [] = [] by decide +kernel), (show (0 : Int) ≤ val [] by decide +kernel), hD _⟩
    | [b], _ => rw [root_one]; exact leaf_valid hD b
    | b :: c :: r, hn =>
      have h2 : 2 ≤ (b :: c :: r).length := by simp
      have h3 := cutN_pos _ h2
      have h4 := cutN_lt _ h2
      rw [root_two D _ h2]
      exact over_valid hD (ih _ (by rw [List.length_take]; omega)) (ih _ (by rw [List.length_drop]; omega))
theorem nodes_valid (l : List Ln) (i : Nat) : ∀ x ∈ nodesN D l i, validN x = true := fun x hx => by
  unfold nodesN at hx
  obtain ⟨p, _, rfl⟩ := List.mem_map.1 hx
  exact root_valid hD _
end
/-! sums -/
def absS (l : List Ln) : Int := (l.map fun b => ((val b.2.2).natAbs : Int)).sum
theorem absS_append (a b : List Ln) : absS (a ++ b) = absS a + absS b := by unfold absS; rw [List.map_append, List.sum_append]
section
variable (D : List UInt8 → List UInt8)
theorem root_sum (l : List Ln) : (rootN D l).1 = txt (absS l) := by
  obtain ⟨n, hn⟩ : ∃ n, l.length ≤ n := ⟨_, Nat.le_refl _⟩
  induction n generalizing l with
  | zero => rw [List.length_eq_zero_iff.1 (by omega : l.length = 0), root_nil]; exact txt_zero.symm
  | succ n ih =>
    match l, hn with
    | [], _ => rw [root_nil]; exact txt_zero.symm
    | [b], _ => rw [root_one]; unfold leafN absT absS; simp
    | b :: c :: r, hn =>
      have h2 : 2 ≤ (b :: c :: r).length := by simp
      have h3 := cutN_pos _ h2
      have h4 := cutN_lt _ h2
      have e := absS_append ((b :: c :: r).take (cutN (b :: c :: r).length)) ((b :: c :: r).drop (cutN (b :: c :: r).length))
      rw [List.take_append_drop] at e
      rw [root_two D _ h2, e]
      unfold overN
      simp only
      rw [ih _ (by rw [List.length_take]; omega), ih _ (by rw [List.length_drop]; omega), val_txt, val_txt]
theorem climb_sum (fs : List Bool) (ns : List Nd) (own : Nd) (h : fs.length = ns.length) : val (climbN D own fs ns).1 = val own.1 + (ns.map fun x => val x.1).sum := by
  unfold climbN
  induction fs generalizing ns own with
  | nil =>
    obtain rfl : ns = [] := List.length_eq_zero_iff.1 (by simpa using h.symm)
    simp
  | cons f r ih =>
    cases ns with
    | nil => cases h
    | cons x q =>
      rw [List.zip_cons_cons, List.foldl_cons, ih q _ (by simpa using h), List.map_cons, List.sum_cons]
      have : val (stepN D own (f, x)).1 = val own.1 + val x.1 := by
        unfold stepN overN
        cases f <;> simp only [Bool.false_eq_true, if_false, if_true, val_txt] <;> omega
      rw [this]
      omega
/-! proofs that are refused -/
/-- the text over which a step goes -/
def stepT (own : Nd) (x : Bool × Nd) : List UInt8 := if x.1 then overT own x.2 else overT x.2 own
theorem step_dig (own : Nd) (x : Bool × Nd) : (stepN D own x).2 = D (stepT own x) := by
  unfold stepN stepT
  split <;> rfl
/-- the levels above a node: texts and nodes -/
def lvlN : Nd → List (Bool × Nd) → List (List UInt8 × Nd)
  | _, [] => []
  | own, x :: r => (stepT own x, stepN D own x) :: lvlN (stepN D own x) r
/-- the levels from a balance on -/
def levels (b : Ln) (z : List (Bool × Nd)) : List (List UInt8 × Nd) := (leafT b, leafN D b) :: lvlN D (leafN D b) z
/-- whether two equal nodes stand side by side -/
def twinN : Nd → List (Bool × Nd) → Bool
  | _, [] => false
  | own, x :: r => decide (own = x.2) || twinN (stepN D own x) r
def collB (a b : List (List UInt8 × Nd)) : Bool := (a.zip b).any fun p => decide (p.1.1 ≠ p.2.1) && decide (p.1.2.2 = p.2.2.2)
theorem coll_cons (x y : List UInt8 × Nd) (a b : List (List UInt8 × Nd)) : collB (x :: a) (y :: b) = (decide (x.1 ≠ y.1) && decide (x.2.2 = y.2.2) || collB a b) := by
  unfold collB
  rw [List.zip_cons_cons, List.any_cons]
variable {D}
theorem refuse (hD : ∀ s, (D s).length = 32) (z z' : List (Bool × Nd)) (own own' : Nd) (ho : validN own = true) (ho' : validN own' = true) (hz : ∀ x ∈ z, validN x.2 = true) (hz' : ∀ x ∈ z', validN x.2 = true)
    (hl : z.length = z'.length) (hs : z.map Prod.snd = z'.map Prod.snd ∨ z.map Prod.fst = z'.map Prod.fst) (he : z.foldl (stepN D) own = z'.foldl (stepN D) own') (hc : collB (lvlN D own z) (lvlN D own' z') = false) :
    (own = own' ∧ z = z') ∨ twinN D own z = true := by
  induction z generalizing z' own own' with
  | nil =>
    obtain rfl : z' = [] := List.length_eq_zero_iff.1 (by simpa using hl.symm)
    exact .inl ⟨he, rfl⟩
  | cons x r ih =>
    cases z' with
    | nil => cases hl
    | cons y q =>
      obtain ⟨f, x⟩ := x
      obtain ⟨g, y⟩ := y
      rw [lvlN, lvlN, coll_cons, Bool.or_eq_false_iff] at hc
      rw [List.foldl_cons, List.foldl_cons] at he
      have hx := hz _ (List.mem_cons_self)
      have hy := hz' _ (List.mem_cons_self)
      have hs2 : r.map Prod.snd = q.map Prod.snd ∨ r.map Prod.fst = q.map Prod.fst := by
        rcases hs with h | h
        · exact .inl (List.cons.inj h).2
        · exact .inr (List.cons.inj h).2
      rcases ih q _ _ (step_valid hD f ho hx) (step_valid hD g ho' hy) (fun v hv => hz v (List.mem_cons_of_mem _ hv)) (fun v hv => hz' v (List.mem_cons_of_mem _ hv)) (by simpa using hl) hs2 he hc.2 with ⟨h1, h2⟩ | h1
      · have h3 : stepT own (f, x) = stepT own' (g, y) := by
          have h4 := congrArg Prod.snd h1
          rcases Bool.and_eq_false_iff.1 hc.1 with h5 | h5
          · exact Classical.not_not.1 (of_decide_eq_false h5)
          · exact absurd h4 (of_decide_eq_false h5)
        subst h2
        unfold stepT at h3
        simp only at h3 hx hy
        have same : f = g → (own = own' ∧ (f, x) :: r = (g, y) :: r) ∨ twinN D own ((f, x) :: r) = true := fun e => by
          subst e
          cases f
          · obtain ⟨e1, e2⟩ := over_inj hx ho hy ho' h3
            exact .inl ⟨e2, by rw [e1]⟩
          · obtain ⟨e1, e2⟩ := over_inj ho hx ho' hy h3
            exact .inl ⟨e1, by rw [e2]⟩
        by_cases hfg : f = g
        · exact same hfg
        · rcases hs with h | h
          · obtain rfl : x = y := (List.cons.inj h).1
            refine .inr ?_
            have hox : own = x := by
              cases f <;> cases g
              · exact absurd rfl hfg
              · exact (over_inj hx ho ho' hy h3).2
              · exact (over_inj ho hx hy ho' h3).1
              · exact absurd rfl hfg
            rw [twinN, Bool.or_eq_true]
            exact .inl (decide_eq_true hox)
          · exact absurd (List.cons.inj h).1 hfg
      · refine .inr ?_
        rw [twinN, Bool.or_eq_true]
        exact .inr h1
/-- two balances with proofs to the same root: the same balance and the same way with the same nodes, or twins, or a collision -/
theorem refuse_leaf (hD : ∀ s, (D s).length = 32) (z z' : List (Bool × Nd)) (b c : Ln) (hb : okB b) (hc : okB c) (hz : ∀ x ∈ z, validN x.2 = true) (hz' : ∀ x ∈ z', validN x.2 = true)
    (hl : z.length = z'.length) (hs : z.map Prod.snd = z'.map Prod.snd ∨ z.map Prod.fst = z'.map Prod.fst) (he : z.foldl (stepN D) (leafN D b) = z'.foldl (stepN D) (leafN D c)) :
    (b = c ∧ z = z') ∨ twinN D (leafN D b) z = true ∨ collB (levels D b z) (levels D c z') = true := by
  cases hcl : collB (levels D b z) (levels D c z')
  case true => exact .inr (.inr rfl)
  case false =>
    unfold levels at hcl
    rw [coll_cons, Bool.or_eq_false_iff] at hcl
    rcases refuse hD z z' _ _ (leaf_valid hD b) (leaf_valid hD c) hz hz' hl hs he hcl.2 with ⟨h1, h2⟩ | h
    · refine .inl ⟨leaf_inj hb hc ?_, h2⟩
      have h4 := congrArg Prod.snd h1
      rcases Bool.and_eq_false_iff.1 hcl.1 with h5 | h5
      · exact Classical.not_not.1 (of_decide_eq_false h5)
      · exact absurd h4 (of_decide_eq_false h5)
    · exact .inr (.inl h)
end
theorem way_inj (n i j : Nat) (hi : i < n) (hj : j < n) (h : wayN i n = wayN j n) : i = j := by
  induction n using Nat.strongRecOn generalizing i j with
  | _ n ih =>
    rcases Nat.lt_or_ge n 2 with h2 | h2
    · omega
    have h3 := cutN_pos _ h2
    have h4 := cutN_lt _ h2
    rw [way_two i n h2, way_two j n h2] at h
    split at h
    · split at h
      · exact ih _ h4 i j (by omega) (by omega) (List.cons.inj h).2
      · cases (List.cons.inj h).1
    · split at h
      · cases (List.cons.inj h).1
      · have := ih (n - cutN n) (by omega) (i - cutN n) (j - cutN n) (by omega) (by omega) (List.cons.inj h).2
        omega
end Go.Proofs.YtjcbohbpkodkoaaGreatDoor

/- Audit, plain: what Verify answers, and what the statements say of it. -/
namespace Go.Proofs.YtjcbohbpkodkoaaGreatDoor
open Go.RowKit Go.Maps Num

section
variable (D : List UInt8 → List UInt8)
/-- what Verify answers -/
def verI (root : Nd) (b : Ln) (i n : Int) (ns : List Nd) : Int :=
  if (listB [b] && validN root && ns.all validN) = false then 1 else if 1024 < n then 4 else if i < 0 ∨ n ≤ i then 2 else if (wayN i.toNat n.toNat).length ≠ ns.length then 9
  else if climbN D (leafN D b) (wayN i.toNat n.toNat).reverse ns ≠ root then 20 else 0
/-- whether a proof is refused, or shows a collision -/
def refB (root : Nd) (own : Ln) (k m : Nat) (hs : List Nd) (b : Ln) (i n : Nat) (ns : List Nd) : Bool :=
  if verI D root b i n ns ≠ 0 then decide (verI D root b i n ns = 20) || decide (verI D root b i n ns = 9)
  else twinN D (leafN D own) ((wayN k m).reverse.zip hs) || collB (levels D own ((wayN k m).reverse.zip hs)) (levels D b ((wayN i n).reverse.zip ns))
variable {D} (hD : ∀ s, (D s).length = 32)
/-- Verify behind its checks -/
theorem ver_checked {root : Nd} {b : Ln} {i n : Nat} {ns : List Nd} (hb : okB b) (hr : validN root = true) (hns : ∀ x ∈ ns, validN x = true) (hn : n ≤ 1024) (hi : i < n) :
    verI D root b i n ns = if (wayN i n).length ≠ ns.length then 9 else if climbN D (leafN D b) (wayN i n).reverse ns ≠ root then 20 else 0 := by
  have h1 : (listB [b] && validN root && ns.all validN) = true := by
    rw [Bool.and_eq_true, Bool.and_eq_true]
    exact ⟨⟨okB_one.2 hb, hr⟩, List.all_eq_true.2 hns⟩
  unfold verI
  rw [if_neg (by rw [h1]; decide), if_neg (by omega), if_neg (by omega)]
  rfl
theorem ver_range {root : Nd} {b : Ln} {i n : Nat} {ns : List Nd} (hb : okB b) (hr : validN root = true) (hns : ∀ x ∈ ns, validN x = true) (hn : n ≤ 1024) (hi : n ≤ i) : verI D root b i n ns = 2 := by
  have h1 : (listB [b] && validN root && ns.all validN) = true := by
    rw [Bool.and_eq_true, Bool.and_eq_true]
    exact ⟨⟨okB_one.2 hb, hr⟩, List.all_eq_true.2 hns⟩
  unfold verI
  rw [if_neg (by rw [h1]; decide), if_neg (by omega), if_pos (by omega)]
theorem okB_at {l : List Ln} (hl : listB l = true) {k : Nat} (hk : k < l.length) : okB (l.getD k ln0) := okB_of hl (lnAt_mem l k hk)
include hD
theorem ver_ok {l : List Ln} (hl : listB l = true) (hm : l.length ≤ 1024) {k : Nat} (hk : k < l.length) : verI D (rootN D l) (l.getD k ln0) k l.length (nodesN D l k) = 0 := by
  rw [ver_checked (okB_at hl hk) (root_valid hD l) (nodes_valid hD l k) hm hk, if_neg (by rw [nodes_len]; omega), climb_nodes D l k hk, if_neg (by simp)]
/-- with another root nothing is accepted -/
theorem ver_root {l : List Ln} (hl : listB l = true) (hm : l.length ≤ 1024) {k : Nat} (hk : k < l.length) {r : Nd} (hr : validN r = true) (hne : rootN D l ≠ r) : verI D r (l.getD k ln0) k l.length (nodesN D l k) = 20 := by
  rw [ver_checked (okB_at hl hk) hr (nodes_valid hD l k) hm hk, if_neg (by rw [nodes_len]; omega), climb_nodes D l k hk, if_pos hne]
/-- with more or less nodes nothing is accepted -/
theorem ver_len {l : List Ln} (hl : listB l = true) (hm : l.length ≤ 1024) {k : Nat} (hk : k < l.length) {ns : List Nd} (hns : ∀ x ∈ ns, validN x = true) (hne : ns.length ≠ (nodesN D l k).length) : verI D (rootN D l) (l.getD k ln0) k l.length ns = 9 := by
  rw [ver_checked (okB_at hl hk) (root_valid hD l) hns hm hk, if_pos (by rw [← nodes_len D]; omega)]
/-- with another number of leaves on the same way the proof is accepted -/
theorem ver_leaves {l : List Ln} (hl : listB l = true) {k n : Nat} (hk : k < l.length) (hn : n ≤ 1024) (hkn : k < n) (hw : wayN k n = wayN k l.length) : verI D (rootN D l) (l.getD k ln0) k n (nodesN D l k) = 0 := by
  rw [ver_checked (okB_at hl hk) (root_valid hD l) (nodes_valid hD l k) hn hkn, hw, if_neg (by rw [nodes_len]; omega), climb_nodes D l k hk, if_neg (by simp)]
/-- a node with a sum that is greater by 1 -/
def bumpN (x : Nd) : Nd := (txt (val x.1 + 1), x.2)
omit hD in
theorem bump_valid {x : Nd} (h : validN x = true) : validN (bumpN x) = true := by
  obtain ⟨h1, h2, h3⟩ := validN_iff.1 h
  refine validN_iff.2 ⟨?_, ?_, h3⟩
  · unfold bumpN; simp only [can, val_txt]
  · unfold bumpN; simp only [val_txt]; omega
omit hD in
theorem sum_set (ns : List Nd) (m : Nat) (hm : m < ns.length) (x : Nd) : ((ns.set m x).map fun x => val x.1).sum = (ns.map fun x => val x.1).sum + val x.1 - val (ns[m]).1 := by
  induction ns generalizing m with
  | nil => cases hm
  | cons y r ih =>
    cases m with
    | zero => simp only [List.set_cons_zero, List.map_cons, List.sum_cons, List.getElem_cons_zero]; omega
    | succ m =>
      have := ih m (by simpa using hm)
      simp only [List.set_cons_succ, List.map_cons, List.sum_cons, List.getElem_cons_succ]
      omega
theorem ver_bump {l : List Ln} (hl : listB l = true) (hm : l.length ≤ 1024) {k : Nat} (hk : k < l.length) {m : Nat} (hmn : m < (nodesN D l k).length) :
    verI D (rootN D l) (l.getD k ln0) k l.length ((nodesN D l k).set m (bumpN (nodesN D l k)[m])) = 20 := by
  have hv : ∀ x ∈ (nodesN D l k).set m (bumpN (nodesN D l k)[m]), validN x = true := fun x hx => by
    rcases List.mem_or_eq_of_mem_set hx with h | h
    · exact nodes_valid hD l k x h
    · rw [h]; exact bump_valid (nodes_valid hD l k _ (List.getElem_mem hmn))
  have hw : (wayN k l.length).reverse.length = (nodesN D l k).length := by rw [List.length_reverse, nodes_len]
  rw [ver_checked (okB_at hl hk) (root_valid hD l) hv hm hk, if_neg (by rw [List.length_set, nodes_len]; omega), if_pos]
  intro e
  have h1 := climb_sum D (wayN k l.length).reverse ((nodesN D l k).set m (bumpN (nodesN D l k)[m])) (leafN D (l.getD k ln0)) (by rw [hw, List.length_set])
  have h2 := climb_sum D (wayN k l.length).reverse (nodesN D l k) (leafN D (l.getD k ln0)) hw
  rw [e] at h1
  rw [climb_nodes D l k hk] at h2
  rw [sum_set _ _ hmn] at h1
  have h3 : val (bumpN (nodesN D l k)[m]).1 = val (nodesN D l k)[m].1 + 1 := by unfold bumpN; rw [val_txt]
  omega
/-- whatever is changed in a proof: it is refused, or shows a collision -/
theorem ref_true {l : List Ln} (hl : listB l = true) (_hm : l.length ≤ 1024) {k : Nat} (hk : k < l.length) {b : Ln} (hb : okB b) {i n : Nat} {ns : List Nd} (hns : ∀ x ∈ ns, validN x = true) (hn : n ≤ 1024) (hi : i < n)
    (hd : b ≠ l.getD k ln0 ∨ wayN i n ≠ wayN k l.length ∨ ns ≠ nodesN D l k) (hs : ns = nodesN D l k ∨ wayN i n = wayN k l.length) :
    refB D (rootN D l) (l.getD k ln0) k l.length (nodesN D l k) b i n ns = true := by
  have hv := ver_checked (D := D) (root := rootN D l) hb (root_valid hD l) hns hn hi
  unfold refB
  by_cases h1 : (wayN i n).length ≠ ns.length
  · rw [if_pos h1] at hv
    rw [hv, if_pos (by decide)]
    decide
  rw [if_neg h1] at hv
  by_cases h2 : climbN D (leafN D b) (wayN i n).reverse ns ≠ rootN D l
  · rw [if_pos h2] at hv
    rw [hv, if_pos (by decide)]
    decide
  rw [if_neg h2] at hv
  rw [hv, if_neg (by decide)]
  have h1' : (wayN i n).length = ns.length := Classical.not_not.1 h1
  have h2' := Classical.not_not.1 h2
  have hw : (wayN k l.length).reverse.length = (nodesN D l k).length := by rw [List.length_reverse, nodes_len]
  have hw' : (wayN i n).reverse.length = ns.length := by rw [List.length_reverse, h1']
  have ml : (wayN k l.length).length = (wayN i n).length := by
    rcases hs with h | h
    · rw [h1', h, nodes_len]
    · rw [h]
  have f1 : ((wayN k l.length).reverse.zip (nodesN D l k)).map Prod.fst = (wayN k l.length).reverse := List.map_fst_zip (by omega)
  have f2 : ((wayN i n).reverse.zip ns).map Prod.fst = (wayN i n).reverse := List.map_fst_zip (by omega)
  have s1 : ((wayN k l.length).reverse.zip (nodesN D l k)).map Prod.snd = nodesN D l k := List.map_snd_zip (by omega)
  have s2 : ((wayN i n).reverse.zip ns).map Prod.snd = ns := List.map_snd_zip (by omega)
  have hr := climb_nodes D l k hk
  unfold climbN at hr h2'
  rcases refuse_leaf hD ((wayN k l.length).reverse.zip (nodesN D l k)) ((wayN i n).reverse.zip ns) (l.getD k ln0) b (okB_at hl hk) hb
    (fun x hx => nodes_valid hD l k _ (List.of_mem_zip hx).2) (fun x hx => hns _ (List.of_mem_zip hx).2)
    (by rw [List.length_zip, List.length_zip, List.length_reverse, List.length_reverse, nodes_len]; omega)
    (by rw [f1, f2, s1, s2]; rcases hs with h | h
        · exact .inl h.symm
        · exact .inr (by rw [h])) (hr.trans h2'.symm) with ⟨e1, e2⟩ | h | h
  · rcases hd with h | h | h
    · exact absurd e1.symm h
    · have := congrArg (List.map Prod.fst) e2
      rw [f1, f2] at this
      exact absurd (List.reverse_inj.1 this).symm h
    · have := congrArg (List.map Prod.snd) e2
      rw [s1, s2] at this
      exact absurd this.symm h
  · rw [h]; rfl
  · rw [h, Bool.or_true]
end
/-- a balance with the opposite amount -/
def turnB (b : Ln) : Ln := (b.1, b.2.1, txt (- val b.2.2))
theorem turn_ok {b : Ln} (h : okB b) : okB (turnB b) ∧ turnB b ≠ b := by
  obtain ⟨h1, h2, h3⟩ := lineI_iff.1 h.1
  have hc := okB_can h
  have hv := val_ne hc h.2
  refine ⟨⟨lineI_iff.2 ⟨h1, h2, ?_⟩, fun e => hv ?_⟩, fun e => hv ?_⟩
  · unfold canB turnB
    simp only [can, val_txt, decide_true]
  · have := txt_nil.1 e
    omega
  · have := congrArg (fun x : Ln => val x.2.2) e
    unfold turnB at this
    simp only [val_txt] at this
    omega
end Go.Proofs.YtjcbohbpkodkoaaGreatDoor

/- The contract of the iterator over two bags, of which the first one is empty and the second one has one money of any amount. -/
namespace Go.Proofs.YtjcbohbpkodkoaaGreatDoor
open Go.RowKit Go.Shelf
attribute [local go_sem] Oper.semAt_some

set_option maxRecDepth 100000 in
set_option maxHeartbeats 4000000 in
theorem both2_stops (d ba bb bm : Nat) (l m : List UInt8) (w : World) (ha : Boxed w ba 167 (.slice none 0 0)) (hb : Boxed w bb 167 (.slice (some ⟨bm, 0, none⟩) 1 1))
    (m0 : w.cell? ⟨bm, 0, none⟩ = some (.string ⟨l.toArray⟩)) (m1 : w.cell? ⟨bm, 1, none⟩ = some (.string ⟨m.toArray⟩)) (hab : ba ≠ bb) (hbm : bm ≠ bb) (lm : bm < w.heap.size) :
    SeqBoxC ba Fence.wide d Tryz.prog 215 #[.pointer (some ⟨ba, 0, none⟩), .pointer (some ⟨bb, 0, none⟩)] (fun _ : Unit => #[.string ⟨l.toArray⟩, (.agg #[.string ⟨#[]⟩, .string ⟨m.toArray⟩])]) bb (fun xs => xs = [()]) (fun _ => True) 1 w := by
  intro lp J Jx W hW hJ hJx hY h0
  have la := ha.lt
  have lb := hb.lt
  have haW : Boxed W ba 167 (.slice none 0 0) := (hW.block ba la).trans ha
  have hbW : Boxed W bb 167 (.slice (some ⟨bm, 0, none⟩) 1 1) := (hW.block bb lb).trans hb
  have m0W : W.cell? ⟨bm, 0, none⟩ = some (.string ⟨l.toArray⟩) := (hW.cell (p := ⟨bm, 0, none⟩) lm).trans m0
  have m1W : W.cell? ⟨bm, 1, none⟩ = some (.string ⟨m.toArray⟩) := (hW.cell (p := ⟨bm, 1, none⟩) lm).trans m1
  refine callsIn_of_wp Tryz.func215 rfl trivial ?_ rfl
  simp only [Tryz.ntmps215, List.size_toArray, List.length_cons, List.length_nil, Nat.reduceAdd, Nat.reduceSub, Array.replicate_succ, Array.replicate_zero, List.push_toArray, List.append_toArray, List.nil_append, List.cons_append]
  gi_wp2
  gi_loopw [4, 5] (fun _ _ wr => (Boxed wr bb 167 (.slice (some ⟨bm, 0, none⟩) 1 1) ∧ Boxed wr ba 167 (.slice none 0 0) ∧ wr.cell? ⟨bm, 0, none⟩ = some (.string ⟨l.toArray⟩) ∧ wr.cell? ⟨bm, 1, none⟩ = some (.string ⟨m.toArray⟩) ∧ J [] wr) ∨ (Boxed wr bb 167 (.slice (some ⟨bm, 0, none⟩) 0 0) ∧ Boxed wr ba 167 (.slice none 0 0) ∧ J [()] wr)) (fun _ _ wr => bagLen bb wr)
  case atStart => exact .inl ⟨hbW, haW, m0W, m1W, h0⟩
  case round =>
    rcases hrel with ⟨hbx, hax, c0, c1, hj⟩ | ⟨hbx, hax, hj⟩
    · have cb := hbx.cell
      have fb := hbx.frozen
      have ca := hax.cell
      have HY := Lib.hid hY
      have HJ := Lib.hid hJ
      have HX := Lib.hid hJx
      clear hY hJ hJx
      have hlt := hbx.lt
      have hbx2 := hbx.alloc (.cells #[.string ⟨#[]⟩, .string ⟨#[]⟩] 235)
      have hax2 := hax.alloc (.cells #[.string ⟨#[]⟩, .string ⟨#[]⟩] 235)
      have hal : Below wr.heap.size wr (wr.alloc (.cells #[.string ⟨#[]⟩, .string ⟨#[]⟩] 235)) := (Below.refl _ _).alloc (Nat.le_refl _) _
      have e0 := (hal.cell (p := ⟨bm, 0, none⟩) (block_lt_of_cell c0)).trans c0
      have e1 := (hal.cell (p := ⟨bm, 1, none⟩) (block_lt_of_cell c1)).trans c1
      have n1 : (wr.alloc (.cells #[.string ⟨#[]⟩, .string ⟨#[]⟩] 235)).cell? ⟨wr.heap.size, 1, none⟩ = some (.string ⟨#[]⟩) := by go_simp
      have n0 : (wr.alloc (.cells #[.string ⟨#[]⟩, .string ⟨#[]⟩] 235)).cell? ⟨wr.heap.size, 0, none⟩ = some (.string ⟨#[]⟩) := by go_simp
      have k1 : (wr.alloc (.cells #[.string ⟨#[]⟩, .string ⟨#[]⟩] 235)).frozen? ⟨wr.heap.size, 1, none⟩ = false := by go_simp
      have hnb := heap_alloc_new wr (.cells #[.string ⟨#[]⟩, .string ⟨#[]⟩] 235)
      have cb2 := hbx2.cell
      have fb2 := hbx2.frozen
      have ca2 := hax2.cell
      have HB2 := Lib.hid hbx2
      have HA2 := Lib.hid hax2
      have HN := Lib.hid hnb
      have HG := Lib.hid (fun n x y => grown_both wr (.cells #[.string ⟨#[]⟩, .string ⟨#[]⟩] 235) n bb x y)
      have HAL := Lib.hid hal
      have hne1 : wr.heap.size ≠ bb := by omega
      have hne2 : bb ≠ wr.heap.size := by omega
      clear hnb hbx2 hax2 hal c0 c1 fb
      gi_wp2
      clear ca cb
      generalize wr.alloc (.cells #[.string ⟨#[]⟩, .string ⟨#[]⟩] 235) = W2 at *
      gi_quiet (fail)
      gi_wp2
      gi_region
      have hgr := HG.out (nq + 1) (.string ⟨m.toArray⟩) (.slice (some ⟨bm, 0, none⟩) 0 0)
      have hbY : Boxed (((W2.drewN (nq + 1)).setCell ⟨wr.heap.size, 1, none⟩ (.string ⟨m.toArray⟩)).setCell ⟨bb, 0, none⟩ (.slice (some ⟨bm, 0, none⟩) 0 0)) bb 167 (.slice (some ⟨bm, 0, none⟩) 0 0) :=
        Boxed.set _ (Boxed.kept (W := W2.drewN (nq + 1)) HB2.out (grown_set _ wr.heap.size 1 _) (fun e => hne2 (by cases e; rfl)))
      have haY : Boxed (((W2.drewN (nq + 1)).setCell ⟨wr.heap.size, 1, none⟩ (.string ⟨m.toArray⟩)).setCell ⟨bb, 0, none⟩ (.slice (some ⟨bm, 0, none⟩) 0 0)) ba 167 (.slice none 0 0) :=
        (Boxed.kept (W := W2.drewN (nq + 1)) HA2.out (grown_set _ wr.heap.size 1 _) (fun e => by have := hax.lt; cases e; omega)).kept (grown_set _ bb 0 _) (fun e => hab (by cases e; rfl))
      have hjY := HJ.out _ _ _ hj hgr
      have y0 : (((W2.drewN (nq + 1)).setCell ⟨wr.heap.size, 1, none⟩ (.string ⟨m.toArray⟩)).setCell ⟨bb, 0, none⟩ (.slice (some ⟨bm, 0, none⟩) 0 0)).cell? ⟨wr.heap.size, 0, none⟩ = some (.string ⟨#[]⟩) := by
        rw [World.cell?_setCell_other _ _ _ _ (by simp), World.cell?_setCell_other _ _ _ _ (by simp)]; exact n0
      have y1 : (((W2.drewN (nq + 1)).setCell ⟨wr.heap.size, 1, none⟩ (.string ⟨m.toArray⟩)).setCell ⟨bb, 0, none⟩ (.slice (some ⟨bm, 0, none⟩) 0 0)).cell? ⟨wr.heap.size, 1, none⟩ = some (.string ⟨m.toArray⟩) := by
        rw [World.cell?_setCell_other _ _ _ _ (by simp)]; exact World.cell?_setCell_same (W2.drewN (nq + 1)) _ _ n1
      generalize ((W2.drewN (nq + 1)).setCell ⟨wr.heap.size, 1, none⟩ (.string ⟨m.toArray⟩)).setCell ⟨bb, 0, none⟩ (.slice (some ⟨bm, 0, none⟩) 0 0) = WY at *
      obtain ⟨fn, tmps, assign, body, hy, hR⟩ := HY.out [] () WY hjY (by simp)
      have HBY := Lib.hid hbY
      have HAY := Lib.hid haY
      clear hbY haY cb2 fb2 ca2 e0 e1 n0 n1 k1
      gi_wp2
      refine ⟨fun h => (by cases h), ?_⟩
      refine hR.mono ?_
      clear hR
      rintro e W5 (⟨rfl, h1, h2⟩ | ⟨rfl, h1⟩)
      · have hb5 : Boxed W5 bb 167 (.slice (some ⟨bm, 0, none⟩) 0 0) := h2.1.trans HBY.out
        have ha5 : Boxed W5 ba 167 (.slice none 0 0) := h2.2.trans HAY.out
        have hbl := Lib.hid hbx.cell
        gi_wp2
        go_roundw
        case rel => exact .inr ⟨hb5, ha5, h1⟩
        case measure => rw [bagLen, bagLen, hb5.cell, hbl.out]; exact Nat.zero_lt_one
      · gi_wp2
        refine bodyPost_ret (results_none rfl _ _ _) rfl ?_
        exact ⟨⟨_, rfl⟩, .inr ⟨_, trivial, h1⟩⟩
    · have cb := hbx.cell
      have ca := hax.cell
      clear hY hJ hJx
      gi_wp2
      go_end0
      exact ⟨⟨_, rfl⟩, .inl ⟨_, rfl, hj⟩⟩
end Go.Proofs.YtjcbohbpkodkoaaGreatDoor

/- Contracts of money.sum and money.Put at no money and one of any amount. -/
namespace Go.Proofs.YtjcbohbpkodkoaaGreatDoor
open Go.RowKit Go.Shelf Num
attribute [local go_sem] Oper.semAt_some

abbrev rowM : Row (List UInt8 × List UInt8) := ⟨167, 171, .agg #[.string ⟨#[]⟩, .string ⟨#[]⟩], 2, 32, fun q => [.string ⟨q.1.toArray⟩, .string ⟨q.2.toArray⟩]⟩
theorem rowM_ok : rowM.Ok where
  hS := Tryz.underlying167
  info := by kernel_rfl
  zc := rfl
  k0 := by decide
  b1 := by decide
  hk _ := rfl
  h1 x v hv := by
    simp only [List.mem_cons, List.not_mem_nil, or_false] at hv
    rcases hv with rfl | rfl <;> rfl
/-- what the loop in sum keeps in memory -/
structure SJ (w : World) (pre : List Unit) (W : World) : Prop where
  ho : ∃ A c, Boxed W w.heap.size 167 (.slice A pre.length c) ∧ (pre = [] → A = none ∧ c = 0)
  bel : Below w.heap.size w W
  sz : w.heap.size + 3 ≤ W.heap.size
theorem SJ.grown {w W W' : World} {pre : List Unit} {row : Option Nat} (h : SJ w pre W) (hg : W.grownBy W' row) (hrow : ∀ r, row = some r → w.heap.size < r) : SJ w pre W' := by
  obtain ⟨A, c, hb, hn⟩ := h.ho
  exact ⟨⟨A, c, hb.kept hg (fun e => by have := hrow _ e.symm; omega), hn⟩, h.bel.grown hg h.bel.size (fun k e => Nat.le_of_lt (hrow k e)), Nat.le_trans h.sz hg.size⟩
theorem SJ.below {w W W' : World} {pre : List Unit} (h : SJ w pre W) (hb : Below W.heap.size W W') : SJ w pre W' := by
  obtain ⟨A, c, hx, hn⟩ := h.ho
  exact ⟨⟨A, c, (hb.block _ hx.lt).trans hx, hn⟩, h.bel.trans (hb.mono h.bel.size), Nat.le_trans h.sz hb.size⟩
def AmJ (m : List UInt8) (_ : Unit) (W0 W : World) : Prop := W.cell? ⟨W0.heap.size, 0, none⟩ = some (.string ⟨#[]⟩) ∧ W.cell? ⟨W0.heap.size, 1, none⟩ = some (.string ⟨m.toArray⟩)
theorem AmJ.put {m : List UInt8} {x : Unit} {W0 W : World} (h : AmJ m x W0 W) {b : Nat} (hb : b < W0.heap.size) (o : Obj) : AmJ m x W0 (W.putObj b o) :=
  ⟨(World.cell?_of_block (a := ⟨W0.heap.size, 0, none⟩) (World.putObj_heap_other (by simp; omega))).trans h.1, (World.cell?_of_block (a := ⟨W0.heap.size, 1, none⟩) (World.putObj_heap_other (by simp; omega))).trans h.2⟩
set_option maxRecDepth 100000 in
set_option maxHeartbeats 4000000 in
theorem sum_two (d : Nat) (hd : 1 ≤ d) (bm : Nat) (l m : List UInt8) (w : World) (m0 : w.cell? ⟨bm, 0, none⟩ = some (.string ⟨l.toArray⟩)) (m1 : w.cell? ⟨bm, 1, none⟩ = some (.string ⟨m.toArray⟩)) (ht : Tab w) (hml : m.length ≤ 120) (hcan : txt (val m) = m) (hne : m ≠ []) :
    CallsIn Fence.wide d Tryz.prog 167 #[.slice none 0 0, .slice (some ⟨bm, 0, none⟩) 1 1] w fun e w' => (∃ v, e = .returned (.tuple #[v, .int .i64 0])) ∧ Below w.heap.size w w' := by
  refine callsIn_of_wp_marks Tryz.func167 rfl trivial ?_ rfl
  simp only [Tryz.ntmps167, List.size_toArray, List.length_cons, List.length_nil, Nat.reduceAdd, Nat.reduceSub, Array.replicate_succ, Array.replicate_zero, List.push_toArray, List.append_toArray, List.nil_append, List.cons_append]
  gi_wp2_with (refine ⟨trivial, ?_⟩; refine (callsIn_wide.2 (both_any _ _ _ _)).mono ?_; rintro e w' ⟨rfl, rfl⟩)
  have hbl : bm < w.heap.size := block_lt_of_cell m0
  have b0 := Boxed.new w 167 (.slice none 0 0)
  have b1 := Boxed.new (w.alloc (.cells #[.slice none 0 0] 167)) 167 (.slice none 0 0)
  have b2 := Boxed.new ((w.alloc (.cells #[.slice none 0 0] 167)).alloc (.cells #[.slice none 0 0] 167)) 167 (.slice (some ⟨bm, 0, none⟩) 1 1)
  simp only [World.size_alloc] at b1 b2 ⊢
  have hB0 : Below w.heap.size w (((w.alloc (.cells #[.slice none 0 0] 167)).alloc (.cells #[.slice none 0 0] 167)).alloc (.cells #[.slice (some ⟨bm, 0, none⟩) 1 1] 167)) := ex_alloc3 w _ _ _
  have hF0 : SJ w [] (((w.alloc (.cells #[.slice none 0 0] 167)).alloc (.cells #[.slice none 0 0] 167)).alloc (.cells #[.slice (some ⟨bm, 0, none⟩) 1 1] 167)) := ⟨⟨none, 0, (b0.alloc _).alloc _, fun _ => ⟨rfl, rfl⟩⟩, hB0, by simp⟩
  have b1' := b1.alloc (.cells #[.slice (some ⟨bm, 0, none⟩) 1 1] 167)
  have hsz : (((w.alloc (.cells #[.slice none 0 0] 167)).alloc (.cells #[.slice none 0 0] 167)).alloc (.cells #[.slice (some ⟨bm, 0, none⟩) 1 1] 167)).heap.size = w.heap.size + 3 := by simp
  clear b0 b1
  generalize (((w.alloc (.cells #[.slice none 0 0] 167)).alloc (.cells #[.slice none 0 0] 167)).alloc (.cells #[.slice (some ⟨bm, 0, none⟩) 1 1] 167)) = W0 at *
  have n0 := (hB0.cell (p := ⟨bm, 0, none⟩) hbl).trans m0
  have n1 := (hB0.cell (p := ⟨bm, 1, none⟩) hbl).trans m1
  refine range_boxA (w.heap.size + 1) rfl hd (gf := 215) (lb := #[.pointer (some ⟨w.heap.size + 1, 0, none⟩), .pointer (some ⟨w.heap.size + 1 + 1, 0, none⟩)]) rfl trivial (enters_of Tryz.func215 (by kernel_rfl) rfl) (w.heap.size + 1 + 1) (by omega) (by omega)
    (both2_stops (d - 1) (w.heap.size + 1) (w.heap.size + 1 + 1) bm l m W0 b1' b2 n0 n1 (by omega) (by omega) (by omega)) (fun _ => rfl)
    (fun s W => SJ w s W) (fun _ _ => False)
    (fun s A B row hs hg hr => hs.grown hg (fun r e => by have := (hr r e).1; omega))
    (fun s A B row hs hg hr => hs)
    (fun s A B hs hg => hs.grown hg (fun r e => by cases e; omega))
    (fun s A B hs hg => hs)
    hF0
    (fun _ Wp => { tmps := #[.slice none 0 0, .slice (some ⟨bm, 0, none⟩) 1 1, undef, undef, .slice none 0 0, .int .i64 0, .pointer (some ⟨w.heap.size, 0, none⟩), .string ⟨l.toArray⟩, .pointer (some ⟨Wp.heap.size, 0, none⟩), undef, .slice none 0 0, .slice (some ⟨bm, 0, none⟩) 1 1, .func (.func 215) #[] #[.pointer (some ⟨w.heap.size + 1, 0, none⟩), .pointer (some ⟨w.heap.size + 1 + 1, 0, none⟩)], .string ⟨l.toArray⟩, .agg #[.string ⟨#[]⟩, .string ⟨m.toArray⟩], undef, undef, undef, undef, undef, undef, undef, undef, undef, undef, undef, undef, undef, undef, undef, undef, undef], defers := [] })
    (AmJ m) (fun x W0 W' o hlt h => h.put hlt o) ?assign ?body ?done ?stop
  case assign =>
    intro lp x W K hK
    gi_wp2
    exact hK _ (World.grownBy_alloc _ _ _) ⟨by go_simp, by go_simp⟩
  case body =>
    rintro lp pre x Wp W hWp hF ⟨p0, p1⟩ hpre
    obtain rfl : pre = [] := List.eq_nil_of_length_eq_zero (by omega)
    have htW : Tab W := ht.below hF.bel
    have hadd : CallsIn (Fence.wide.inRound lp) (d - 1 - 1 - 1) Tryz.prog 68 #[.string ⟨#[]⟩, .string ⟨m.toArray⟩] W fun e w' => e = .returned (.string ⟨m.toArray⟩) ∧ Below W.heap.size W w' := by
      refine CallsIn.inRound lp (callsIn_wide.2 ?_)
      refine (Add_any ⟨#[]⟩ ⟨m.toArray⟩ W (by decide) (by show m.toArray.size ≤ 120; rw [List.size_toArray]; exact hml) htW).mono ?_
      rintro e w' ⟨he, hb⟩
      refine ⟨?_, hb⟩
      have e0 : txt (val (⟨#[]⟩ : ByteArray).data.toList + val (⟨m.toArray⟩ : ByteArray).data.toList) = m := by
        have e1 : val (⟨#[]⟩ : ByteArray).data.toList = 0 := by rfl
        rw [e1, Int.zero_add]
        exact hcan
      rw [he, e0]
    have HA := Lib.hid hadd
    obtain ⟨A, c, hbx, hn⟩ := hF.ho
    obtain ⟨rfl, rfl⟩ := hn rfl
    have HF := Lib.hid hF
    have HX := Lib.hid hbx
    clear hadd b1' b2 hF0 hB0 n0 n1 m0 m1 hn hF hbx
    obtain ⟨v0, vr, rfl⟩ : ∃ v0 vr, m = v0 :: vr := by
      cases m with
      | nil => exact absurd rfl hne
      | cons v0 vr => exact ⟨v0, vr, rfl⟩
    gi_wp2_with (first
      | (refine ⟨trivial, fun h => (by cases h), ?_⟩; refine HA.out.mono ?_; rintro e W3 ⟨rfl, hb3⟩; have HF3 := Lib.hid (HF.out.below hb3); have HX3 := Lib.hid (show Boxed W3 w.heap.size 167 (.slice none 0 0) from (hb3.block _ HX.out.lt).trans HX.out); have HB3 := Lib.hid hb3; have cb := HX3.out.cell; have fb := HX3.out.frozen; clear hb3)
      | (gi_at_builtin; refine wpIn_append1 rowM_ok rfl (.tmp 22) (.tmp 26) rfl w.heap.size _ [] W3 (l, v0 :: vr) _ _ rfl rfl rfl (Row.Own.nil _ _) rfl HF3.out.bel.size (by decide) ?_; intro v1 w5 ho5 hg5; obtain ⟨A5, c5, rfl⟩ := ho5.slice; obtain ⟨k1, k2, k3, k4, k5⟩ := HX3.out.appended (by decide) (Row.Own.nil (R := rowM) w.heap.size W3) HF3.out.bel.size (Nat.le_refl _) ho5 hg5; have hc5 := k1.cell; have hf5 := k1.frozen)
      | gi_in)
    have hb6 : ∀ b, b ≠ w.heap.size → b < W.heap.size → (w5.setCell ⟨w.heap.size, 0, none⟩ (.slice A5 1 c5)).heap[b]? = W.heap[b]? := fun b h1 h2 => by
      rw [Below.heap_setCell _ _ _ _ h1, hg5.block b (by rw [World.size_alloc]; have := HB3.out.size; omega) (fun e => by have e2 : some b = none := e; cases e2), heap_alloc_old _ _ (by have := HB3.out.size; omega)]
      exact HB3.out.block b h2
    have hsW := HF.out.sz
    refine ⟨((keeps_of_below HB3.out).trans k4).from _, ⟨hb6 _ (by omega) (by omega), hb6 _ (by omega) (by omega)⟩, ⟨⟨A5, c5, k2, fun h => by cases h⟩, HF3.out.bel.trans k5, Nat.le_trans HF3.out.sz k4.size⟩⟩
  case done =>
    rintro D ys W hD hys hF hK
    obtain ⟨A, c, hbx, _⟩ := hF.ho
    subst hys
    have c0 := hbx.cell
    clear b1' b2 hF0 hB0 n0 n1 m0 m1
    gi_wp2
    refine ⟨by simp, .inl ⟨_, _, rfl, run_takeDeferred hK, ?_⟩⟩
    refine ⟨.tuple #[.slice A 1 c, .int .i64 0], ?_, ⟨_, rfl⟩, hF.bel.trans (belowK_b (w := w) (Nat.le_refl _) W D _ _ (by omega) hK rfl rfl)⟩
    simp [results, Tryz.f167, go_sem]
  case stop =>
    rintro D pre W hD hpre hF hK
    exact hF.elim
def PutQ (l m : List UInt8) (w : World) (e : Ending) (w' : World) : Prop := (∃ v, e = .returned (.tuple #[v, .int .i64 (if curB l = false then 23 else chkI m)])) ∧ Below w.heap.size w w'
theorem PutQ.of {l m : List UInt8} {w W : World} {v : Value} {i : Int} (hb : Below w.heap.size w W) (h : (if curB l = false then 23 else chkI m) = i) : PutQ l m w (.returned (.tuple #[v, .int .i64 i])) W := ⟨⟨v, by rw [h]⟩, hb⟩
set_option maxRecDepth 100000 in
set_option maxHeartbeats 4000000 in
theorem Put2_any (l m : List UInt8) (w : World) (hl : l.length ≤ maxLen) (hm : m.length ≤ 120) (ht : Tab w) : Calls Tryz.prog 130 #[.slice none 0 0, .agg #[.string ⟨l.toArray⟩, .string ⟨m.toArray⟩]] w (PutQ l m w) := by
  by_cases hme : m = []
  · subst hme
    refine (Put_any l w hl ht).mono ?_
    rintro e w' ⟨rfl, hb⟩
    refine PutQ.of hb ?_
    rw [chkI_nil]
    cases curB l <;> rfl
  have h1 := fun W => isCode_any ⟨l.toArray⟩ W hl
  have e1 : (⟨l.toArray⟩ : ByteArray).data.toList = l := rfl
  rw [e1] at h1
  have h2 := fun W => Check_any ⟨m.toArray⟩ W (by show m.toArray.size ≤ _; rw [List.size_toArray]; first | exact hm | omega)
  have e2 : (⟨m.toArray⟩ : ByteArray).data.toList = m := rfl
  rw [e2] at h2
  unfold IntPost at h2
  have H1 := Lib.hid h1
  have H2 := Lib.hid h2
  have hq := Lib.hid (fun W v i (hb : Below w.heap.size w W) (h : (if curB l = false then 23 else chkI m) = i) => PutQ.of (v := v) hb h)
  have hck := Lib.hid (show chkI m = if can m = m then 0 else 1 from rfl)
  clear h1 h2 e1 e2
  have hbx : Below w.heap.size w (w.alloc (.cells #[.string ⟨l.toArray⟩, .string ⟨m.toArray⟩] 171)) := (Below.refl _ w).alloc (Nat.le_refl _) _
  have x0 : (w.alloc (.cells #[.string ⟨l.toArray⟩, .string ⟨m.toArray⟩] 171)).cell? ⟨w.heap.size, 0, none⟩ = some (.string ⟨l.toArray⟩) := by go_simp
  have x1 : (w.alloc (.cells #[.string ⟨l.toArray⟩, .string ⟨m.toArray⟩] 171)).cell? ⟨w.heap.size, 1, none⟩ = some (.string ⟨m.toArray⟩) := by go_simp
  generalize PutQ l m w = Post at *
  cases hc : curB l
  · have H1' := Lib.hid (by have := H1.out; rw [hc] at this; exact this)
    have hv := Lib.hid (hq.out _ (.slice none 0 0) 23 hbx (by rw [hc, if_pos rfl]))
    clear hq
    go_enter Tryz.func130, Tryz.ntmps130
    go_wp2_with fail
    refine (MCheck_nil _).mono ?_
    rintro e w1 ⟨rfl, rfl⟩
    go_wp2_with fail
    refine (H1'.out _).mono ?_
    rintro e w1 ⟨rfl, rfl⟩
    go_wp2_with fail
    exact hv.out
  have H1' := Lib.hid (by have := H1.out; rw [hc] at this; exact this)
  have hq2 := Lib.hid (fun W v i hb (h : chkI m = i) => hq.out W v i hb (by rw [hc, if_neg (by decide)]; exact h))
  clear hq
  generalize chkI m = ck at *
  go_enter Tryz.func130, Tryz.ntmps130
  go_wp2_with fail
  refine (MCheck_nil _).mono ?_
  rintro e w1 ⟨rfl, rfl⟩
  go_wp2_with fail
  refine (H1'.out _).mono ?_
  rintro e w1 ⟨rfl, rfl⟩
  go_wp2_with fail
  refine (H2.out _).mono ?_
  rintro e w1 ⟨rfl, hb1⟩
  have x0' := (hb1.cell (p := ⟨w.heap.size, 0, none⟩) (by simp)).trans x0
  have x1' := (hb1.cell (p := ⟨w.heap.size, 1, none⟩) (by simp)).trans x1
  have B1 := Lib.hid (hbx.trans (hb1.mono (by simp)))
  clear x0 x1 hb1
  by_cases hz : ck = 0
  case neg =>
    have hzb : (ck != 0) = true := by rw [bne_iff_ne]; exact hz
    have h1 : ck = 1 := by
      rw [hck.out] at hz ⊢
      split at hz
      · exact absurd rfl hz
      · rw [if_neg (by assumption)]
    have hv := Lib.hid (hq2.out w1 (.slice none 0 0) 1 B1.out h1)
    go_wp2_with fail
    exact hv.out
  have hcm : can m = m := by
    have := hck.out
    rw [hz] at this
    by_cases e : can m = m
    · exact e
    · rw [if_neg e] at this; cases this
  subst hz
  go_wp2_with fail
  have hal : Below w1.heap.size w1 (w1.alloc (.cells #[.string ⟨l.toArray⟩, .string ⟨m.toArray⟩] 171)) := (Below.refl _ _).alloc (Nat.le_refl _) _
  have B2 := Lib.hid (B1.out.trans (hal.mono B1.out.size))
  have hs := (callsIn_wide (n := 5)).1 (sum_two 5 (by omega) w1.heap.size l m (w1.alloc (.cells #[.string ⟨l.toArray⟩, .string ⟨m.toArray⟩] 171)) (by go_simp) (by go_simp) (ht.below B2.out) hm hcm hme)
  refine hs.mono ?_
  rintro e w2 ⟨⟨v, rfl⟩, hb2⟩
  have B3 := Lib.hid (B2.out.trans (hb2.mono B2.out.size))
  have hv := Lib.hid (hq2.out w2 v 0 B3.out rfl)
  clear hs hal hb2
  go_wp2_with fail
  exact hv.out
end Go.Proofs.YtjcbohbpkodkoaaGreatDoor

/- The ledger's sums: contract of add. -/
namespace Go.Proofs.YtjcbohbpkodkoaaGreatDoor
open Go.RowKit Go.Maps Num

theorem bd_txt4 {v : Int} {n : Nat} (h : v.natAbs ≤ n * big) (hn : n ≤ 10000) : (txt v).length ≤ 110 := by
  have h1 : n * big ≤ 10000 * big := Nat.mul_le_mul_right _ hn
  have h2 : 10000 * big < 10 ^ 109 := by decide
  have := txt_bd (k := 109) (show v.natAbs < 10 ^ 109 by omega)
  omega
/-- the map holds the sums of the lines L -/
def SumM (L : List Ln) (bm : Nat) (W : World) : Prop := NmR L bm L.length W
theorem NmR.ext {l l' : List Ln} {bm k : Nat} {W : World} (h : NmR l bm k W) (e : l'.take k = l.take k) : NmR l' bm k W := by
  obtain ⟨f, ks, h1, h2, h3⟩ := h
  exact ⟨f, ks, h1, fun q hq => by rw [e]; exact h2 q hq, fun s => by rw [e]; exact h3 s⟩
theorem SumM.zero (w : World) : SumM [] w.heap.size (w.alloc (.map #[] 0)) := NmR.zero [] w
theorem SumM.below {L : List Ln} {bm : Nat} {W W' : World} (h : SumM L bm W) (hb : Below W.heap.size W W') : SumM L bm W' := NmR.below h hb
theorem SumM.kept {L : List Ln} {bm : Nat} {W W' : World} {row : Option Nat} (h : SumM L bm W) (hg : W.grownBy W' row) (hne : some bm ≠ row) : SumM L bm W' := NmR.kept h hg hne
theorem take_all (L : List Ln) (x : Ln) : (L ++ [x]).take L.length = L := by rw [List.take_append_of_le_length (Nat.le_refl _), List.take_length]
set_option maxRecDepth 100000 in
set_option maxHeartbeats 4000000 in
theorem add_s (bm : Nat) (L : List Ln) (a c m : List UInt8) (w : World) (h : SumM L bm w) (hsm : ∀ x ∈ L ++ [(a, c, m)], Sml x) (hL : L.length < 10000) (ht : Tab w) :
    Calls Tryz.prog 95 #[.map (some bm), .agg #[.string ⟨a.toArray⟩, .string ⟨c.toArray⟩], .string ⟨m.toArray⟩] w fun e w' => e = .returned (.tuple #[]) ∧ SumM (L ++ [(a, c, m)]) bm w' ∧ w.grownBy w' (some bm) := by
  have hx : Sml (a, c, m) := hsm _ (by simp)
  have hq : SmK (a, c) := smK_of hx
  have hbm := NmR.lt h
  have h' : NmR (L ++ [(a, c, m)]) bm L.length w := NmR.ext h (by rw [take_all, List.take_length])
  have hl1 := bd_txt4 (tot_bd L (fun x hx => hsm x (List.mem_append_left _ hx)) (a, c)) (by omega)
  have hl2 : (txt (val (txt (tot L (a, c))) + val m)).length ≤ 100000 := by
    have e := tot_bd (L ++ [(a, c, m)]) hsm (a, c)
    rw [tot_snoc, if_pos (show key (a, c, m) = (a, c) from rfl), List.length_append, List.length_singleton] at e
    rw [val_txt]
    exact Nat.le_trans (bd_txt4 e (by omega)) (by omega)
  have htk : (L ++ [(a, c, m)]).take (L.length + 1) = (L ++ [(a, c, m)]).take L.length ++ [(a, c, m)] := by
    rw [take_all, List.take_of_length_le (by rw [List.length_append, List.length_singleton]; exact Nat.le_refl _)]
  have hB0 : Below w.heap.size w (w.alloc (.cells #[.string ⟨a.toArray⟩, .string ⟨c.toArray⟩] 140)) := (Below.refl _ w).alloc (Nat.le_refl _) _
  have hK := Lib.hid (fun W (hb : Below w.heap.size w W) => h'.below hb)
  have hlk := (h'.below (hB0.trans ((Below.drew (Below.refl _ (w.alloc (.cells #[.string ⟨a.toArray⟩, .string ⟨c.toArray⟩] 140)))).mono hB0.size))).look a c hq
  rw [take_all] at hlk
  have x0 : (w.alloc (.cells #[.string ⟨a.toArray⟩, .string ⟨c.toArray⟩] 140)).cell? ⟨w.heap.size, 0, none⟩ = some (.string ⟨a.toArray⟩) := by go_simp
  have x1 : (w.alloc (.cells #[.string ⟨a.toArray⟩, .string ⟨c.toArray⟩] 140)).cell? ⟨w.heap.size, 1, none⟩ = some (.string ⟨c.toArray⟩) := by go_simp
  have HP := Lib.hid (fun W (h1 : NmR (L ++ [(a, c, m)]) bm (L.length + 1) W) (h2 : w.grownBy W (some bm)) => (show (Ending.returned (.tuple #[]) = Ending.returned (.tuple #[]) ∧ SumM (L ++ [(a, c, m)]) bm W ∧ w.grownBy W (some bm)) from ⟨rfl, by unfold SumM; rw [List.length_append, List.length_singleton]; exact h1, h2⟩))
  have HT := Lib.hid ht
  have HL1 := Lib.hid hl1
  have HL2 := Lib.hid hl2
  have HM := Lib.hid hx.2.2
  have HSM := Lib.hid hsm
  have HTK := Lib.hid htk
  have HQ := Lib.hid hq
  have B0 := Lib.hid hB0
  have hsz : (w.alloc (.cells #[.string ⟨a.toArray⟩, .string ⟨c.toArray⟩] 140)).heap.size = w.heap.size + 1 := by simp
  clear h h' hx hq hl1 hl2 hsm ht hB0 htk
  go_enter Tryz.func95, Tryz.ntmps95
  go_upto_region 1 with fail
  generalize w.alloc (.cells #[.string ⟨a.toArray⟩, .string ⟨c.toArray⟩] 140) = w1 at *
  have lw : w.heap.size < w1.heap.size := by omega
  have hne : some w.heap.size ≠ some bm := fun e => by have := Option.some.inj e; omega
  have HX := Lib.hid (And.intro x0 x1)
  have HBr := Lib.hid (Below.refl w1.heap.size w1)
  have HS1 := Lib.hid hsz
  clear hsz
  go_region_held3 (fun w' => w'.cell? ⟨w.heap.size, 0, none⟩ = some (.string ⟨a.toArray⟩) ∧ w'.cell? ⟨w.heap.size, 1, none⟩ = some (.string ⟨c.toArray⟩))
    (first | exact ⟨e0, e1⟩ | exact ⟨d0, d1⟩ | exact ⟨x0, x1⟩ | go_keep)
    (first
      | (go_at_call 68; refine (Add_any ⟨(txt (tot L (a, c))).toArray⟩ ⟨m.toArray⟩ _ (by show (txt (tot L (a, c))).toArray.size ≤ 120; rw [List.size_toArray]; exact Nat.le_trans HL1.out (by decide)) (by show m.toArray.size ≤ 120; rw [List.size_toArray]; exact Nat.le_trans HM.out (by decide)) (HT.out.below (B0.out.trans (((HBr.out.trans ((Below.drew (Below.refl _ _)).mono (Nat.le_refl _))).mono (by rw [HS1.out]; omega)))))).mono ?_; rintro e w' ⟨rfl, hb⟩; have HBr := Lib.hid (below_next HBr.out hb ⟨rfl, rfl, rfl, rfl⟩); have d0 := (HBr.out.cell (p := ⟨w.heap.size, 0, none⟩) lw).trans HX.out.1; have d1 := (HBr.out.cell (p := ⟨w.heap.size, 1, none⟩) lw).trans HX.out.2; clear hb; obtain ⟨wU, hrU, hnU, hgU⟩ := (hK.out w' (B0.out.trans (HBr.out.mono (by rw [HS1.out]; omega)))).put a c m HQ.out (by omega) HTK.out HSM.out (by rw [take_all]; exact HL2.out); rw [take_all] at hrU; have HNU := Lib.hid hnU; have HGU := Lib.hid hgU; have e0 := hgU.cell (a := ⟨w.heap.size, 0, none⟩) d0 hne; have e1 := hgU.cell (a := ⟨w.heap.size, 1, none⟩) d1 hne; clear hnU hgU))
  have hgr := Lib.hid (grown_tr (grown_below (grown_refl w (some bm)) (B0.out.trans (HBr.out.mono (by rw [HS1.out]; omega)))) HGU.out)
  go_wp2_with fail
  go_end0
  exact ⟨rfl, (HP.out _ HNU.out hgr.out).2⟩
end Go.Proofs.YtjcbohbpkodkoaaGreatDoor

/- The ledger's sums: contract of list. -/
namespace Go.Proofs.YtjcbohbpkodkoaaGreatDoor
open Go.RowKit Go.Maps Num

/-- lists of balances -/
abbrev rowB : Row Ln := ⟨49, 48, .agg #[.string ⟨#[]⟩, .string ⟨#[]⟩, .string ⟨#[]⟩], 3, 48, LV⟩
theorem rowB_ok : rowB.Ok where
  hS := Tryz.underlying49
  info := by kernel_rfl
  zc := rfl
  k0 := by decide
  b1 := by decide
  hk _ := rfl
  h1 x v hv := by
    simp only [LV, List.mem_cons, List.not_mem_nil, or_false] at hv
    rcases hv with rfl | rfl | rfl <;> rfl
/-- a list of balances is returned, of the call's own -/
def ListP (l : List Ln) (w : World) (e : Ending) (w' : World) : Prop := ∃ v, e = .returned v ∧ rowB.Own w.heap.size w' v l ∧ Below w.heap.size w w'
/-- the loop: the rows of the keys so far -/
structure LstR (L : List Ln) (m : List Ky) (w w6 : World) (vK : Value) (bm j : Nat) (v : Value) (W : World) : Prop where
  own : rowB.Own w6.heap.size W v (rowsK L (m.take j))
  keys : rowK.Own w.heap.size W vK m
  kb : ∀ g, vK.ownBlock = some g → g < w6.heap.size
  map : NmR L bm L.length W
  bel : Below w.heap.size w W
  sz : w6.heap.size ≤ W.heap.size
theorem LstR.alloc {L : List Ln} {m : List Ky} {w w6 : World} {vK : Value} {bm j : Nat} {v : Value} {W : World} (h : LstR L m w w6 vK bm j v W) (o : Obj) : LstR L m w w6 vK bm j v (W.alloc o) :=
  ⟨h.own.alloc o, h.keys.alloc o, h.kb, h.map.kept (World.grownBy_alloc W o none) (by simp), h.bel.alloc h.bel.size o, by have := h.sz; simp; omega⟩
theorem LstR.skip {L : List Ln} {m : List Ky} {w w6 : World} {vK : Value} {bm j : Nat} {v : Value} {W : World} (h : LstR L m w w6 vK bm j v W) (hj : rowsK L (m.take (j + 1)) = rowsK L (m.take j)) : LstR L m w w6 vK bm (j + 1) v W :=
  ⟨by rw [hj]; exact h.own, h.keys, h.kb, h.map, h.bel, h.sz⟩
theorem LstR.step {L : List Ln} {m : List Ky} {w w6 : World} {vK : Value} {bm j : Nat} {v v' : Value} {W W' : World} {x : Ln} (h : LstR L m w w6 vK bm j v W) (h6 : w.heap.size ≤ w6.heap.size) (hbm : bm < w.heap.size)
    (hown : rowB.Own w6.heap.size W' v' (rowsK L (m.take j) ++ [x])) (hg : W.grownBy W' v.ownBlock) (hj : rowsK L (m.take (j + 1)) = rowsK L (m.take j) ++ [x]) : LstR L m w w6 vK bm (j + 1) v' W' := by
  have hv : ∀ g, v.ownBlock = some g → w6.heap.size ≤ g := fun g e => (h.own.own g e).1
  refine ⟨by rw [hj]; exact hown, h.keys.kept' hg ?_, h.kb, h.map.kept hg (fun e => by have := hv _ e.symm; omega), below_own h.bel (Nat.le_refl _) hg (fun g e => by have := hv g e; omega), Nat.le_trans h.sz hg.size⟩
  cases hk : vK.ownBlock with
  | none => exact .inl rfl
  | some g => exact .inr (fun e => by have := hv g e.symm; have := h.kb g hk; omega)
theorem step_append1dh {α : Type} {R : Row α} (ok : R.Ok) {ops : Array Oper} {o : Oper} {a : Act} {K : Act → World → Prop} {Q : Exit → Act → World → Prop} {E : Prop} (hgd : o.guard = none) (s t : Operand)
    (ho : o.op = .call { callee := .builtin .append, args := #[s, t], argTypes := #[R.S, R.S] })
    (B : Nat) (v : Value) (ns : List α) (w : World) (H : Nat) (hH : w.heap.size = H) (x : α) (cs : Array Value) (E' : TypeId) (hcs : cs = (R.enc x).toArray) (hE : E' = R.E) (hs : a.eval s = v) (hown : R.Own B w v ns) (hx : a.eval t = .slice (some ⟨H, 0, none⟩) 1 1)
    (hB : B ≤ w.heap.size) (hn : ns.length + 1 ≤ 1000000)
    (h : ∀ v' w', R.Own B w' v' (ns ++ [x]) → w.grownBy w' v.ownBlock → (v'.ownBlock = v.ownBlock ∨ ∃ g, v'.ownBlock = some g ∧ w.heap.size ≤ g) → K (a.put o.dst v') w') :
    if Region.wanted o (yielded ops a.tmps) = true then Oper.wp Tryz.prog o a (w.alloc (.cells cs E')).drew K Q else E := by
  subst hH
  exact Row.step_append1d ok hgd s t ho B v ns w x cs E' hcs hE hs hown hx hB hn h
set_option maxRecDepth 100000 in
set_option maxHeartbeats 8000000 in
theorem list_s (bm : Nat) (L : List Ln) (w : World) (h : SumM L bm w) (hsm : ∀ x ∈ L, Sml x) (hL : L.length ≤ 10000) (hcan : ∀ x ∈ L, canB x = true) :
    Calls Tryz.prog 97 #[.map (some bm)] w (ListP (nrmL L) w) := by
  have hbm := NmR.lt h
  have HP := Lib.hid (fun W v (h1 : rowB.Own w.heap.size W v (nrmL L)) (h2 : Below w.heap.size w W) => (show ListP (nrmL L) w (.returned v) W from ⟨v, rfl, h1, h2⟩))
  have HN := Lib.hid h
  have HS := Lib.hid hsm
  have HC := Lib.hid hcan
  have hLL := Lib.hid hL
  clear h hsm hcan hL
  generalize ListP (nrmL L) w = Post at *
  go_enter Tryz.func97, Tryz.ntmps97
  go_wp2_with fail
  refine (Keys_any bm _).mono ?_
  rintro e w4 ⟨rfl, hw4⟩
  have hB4 : Below w.heap.size w w4 := by rw [hw4]; exact (Below.refl _ _).alloc (Nat.le_refl _) _
  have hcell4 : w4.cell? ⟨w.heap.size, 0, none⟩ = some (.map (some bm)) := by rw [hw4]; go_simp
  have hsz4 : w4.heap.size = w.heap.size + 1 := by rw [hw4]; simp
  have HN4 := Lib.hid (HN.out.below hB4)
  obtain ⟨f, ks, ⟨D, hown, him, hat, hhas⟩, hf, hks⟩ := HN4.out
  have hsd := hown.size_le
  have hsk := Lib.hid (SortedK_any w.heap.size bm L.length D w4 (by omega) hcell4 hown (by have := hLL.out; omega))
  have hkeys := Lib.hid (fun m (hm : KeysD D m) hs => keys_of HS.out (D := D) (ks := ks) (m := m) (fun s => by
    have := hks s
    rwa [List.take_length] at this) hhas hm hs)
  have HSD := Lib.hid hsd
  have HB4 := Lib.hid hB4
  have HSZ4 := Lib.hid hsz4
  clear hw4 hB4 hcell4 hown him hat hhas hf hks hsd hsz4 HN
  go_wp2_with fail
  refine hsk.out.mono ?_
  rintro e w6 ⟨vK, m, rfl, hkd, hsr, hoK, hb6⟩
  obtain ⟨hord, hmem, hsmk⟩ := hkeys.out m hkd hsr
  have hml : m.length ≤ 10000 := Nat.le_trans hkd.2.2.1 (Nat.le_trans HSD.out hLL.out)
  have HRN := Lib.hid (show rowsK L m = nrmL L from rowsK_nrm HC.out hord hmem)
  have HSMK := Lib.hid hsmk
  have HMEM := Lib.hid hmem
  have hs46 := hb6.size
  rw [HSZ4.out] at hs46
  have R2 := Lib.hid (show LstR L m w w6 vK bm 0 (.slice none 0 0) w6 from ⟨Row.Own.nil _ _, hoK.mono (by rw [HSZ4.out]; omega), fun g e => (hoK.own g e).2, HN4.out.below hb6, HB4.out.trans (hb6.mono HB4.out.size), Nat.le_refl _⟩)
  obtain ⟨AK, cK, rfl, _⟩ := hoK.rds
  clear hsk hkeys hkd hsr hord hmem hsmk hoK hb6 HN4 HB4 HSD
  obtain ⟨q, hq⟩ : ∃ q, m.length = q := ⟨_, rfl⟩
  have HQ := Lib.hid hq
  rw [hq] at R2 hml ⊢
  clear hq
  go_wp2_with fail
  go_loopw [10, 5, 3] (fun i _ v wr => ∃ j : Nat, j ≤ q ∧ i = .int .i64 (j : Int) ∧ Hid (LstR L m w w6 (.slice AK q cK) bm j v wr)) (fun i _ _ _ => q - (intOf i).toNat)
  case atStart => exact ⟨0, by omega, rfl, R2⟩
  case round =>
    clear R2
    obtain ⟨j, hj, rfl, hR⟩ := hrel
    by_cases hlt : j < q
    · have hjm : j < m.length := by rw [HQ.out]; exact hlt
      obtain ⟨A', c', e', hrd⟩ := hR.out.keys.rds
      injection e' with e1 e2 e3
      subst e1 e3
      rw [HQ.out] at hrd
      clear e2
      obtain ⟨b1, o1, rfl, hb1, _⟩ := hrd.at_ (by omega)
      have r0 := hrd.cell rowK_ok ([], []) j 0 _ hlt rfl
      have r1 := hrd.cell rowK_ok ([], []) j 1 _ hlt rfl
      have hmemq : m.getD j ([], []) ∈ m := by
        rw [List.getD_eq_getElem?_getD, List.getElem?_eq_getElem hjm]; exact List.getElem_mem hjm
      have hsq := HSMK.out _ hmemq
      have htk := take_ky m j hjm
      have hsn := Lib.hid (rowsK_snoc L (m.take j) (m.getD j ([], [])))
      rw [← htk] at hsn
      have hji : (j : Int) < (q : Int) := by omega
      generalize m.getD j ([], []) = ky at *
      obtain ⟨ka, kc⟩ := ky
      simp only [Nat.add_zero] at r0 r1
      have hR5 := Lib.hid (hR.out.alloc (.cells #[.string ⟨ka.toArray⟩, .string ⟨kc.toArray⟩] 140))
      have hlk := hR5.out.map.look ka kc hsq
      rw [List.take_length] at hlk
      have hlk2 : (Instr.lookup 137 (.map (some bm)) (.agg #[.string ⟨ka.toArray⟩, .string ⟨kc.toArray⟩]) false).run Tryz.prog (wr.alloc (.cells #[.string ⟨ka.toArray⟩, .string ⟨kc.toArray⟩] 140)).drew = .ok (.string ⟨(txt (tot L (ka, kc))).toArray⟩) (wr.alloc (.cells #[.string ⟨ka.toArray⟩, .string ⟨kc.toArray⟩] 140)).drew := by
        have := (NmR.kept hR5.out.map (grown_drewN _ 1 none) (by simp)).look ka kc hsq
        rw [List.take_length] at this
        exact this
      have HSN := Lib.hid hsn.out
      have hlt5 : wr.heap.size < (wr.alloc (.cells #[.string ⟨ka.toArray⟩, .string ⟨kc.toArray⟩] 140)).heap.size := by simp
      have X5 := heap_alloc_new wr (.cells #[.string ⟨ka.toArray⟩, .string ⟨kc.toArray⟩] 140)
      have p0 : (wr.alloc (.cells #[.string ⟨ka.toArray⟩, .string ⟨kc.toArray⟩] 140)).cell? ⟨wr.heap.size, 0, none⟩ = some (.string ⟨ka.toArray⟩) := by rw [cell_of_row _ _ _ _ _ _ X5]; rfl
      have p1 : (wr.alloc (.cells #[.string ⟨ka.toArray⟩, .string ⟨kc.toArray⟩] 140)).cell? ⟨wr.heap.size, 1, none⟩ = some (.string ⟨kc.toArray⟩) := by rw [cell_of_row _ _ _ _ _ _ X5]; rfl
      clear hmemq hsq hsn X5 hrd hR htk hjm
      generalize hvv : txt (tot L (ka, kc)) = av at *
      rcases av with _ | ⟨v0, vr⟩
      · have RR := Lib.hid (hR5.out.skip (by rw [HSN.out, if_pos rfl, List.append_nil]))
        clear hvv p0 p1 hlt5 hlk2
        go_wp2_with fail
        exact ⟨⟨j + 1, by omega, by go_num, RR⟩, by simp [intOf]; omega⟩
      · have hO5 := hR5.out.own
        have HO5 := Lib.hid hO5
        have hlr := Lib.hid (rowsK_len L (m.take j))
        have hmt : (m.take j).length ≤ 10000 := by rw [List.length_take, HQ.out]; omega
        have hsz5 := Lib.hid hR5.out.sz
        have hrj := Lib.hid (show rowsK L (m.take (j + 1)) = rowsK L (m.take j) ++ [(ka, kc, v0 :: vr)] by rw [HSN.out, if_neg (by simp)])
        clear hvv hO5
        go_upto_region 6 with fail
        go_region_law (refine step_append1dh rowB_ok rfl (.tmp 18) (.tmp 27) rfl w6.heap.size _ (rowsK L (m.take j)) (wr.alloc (.cells #[.string ⟨ka.toArray⟩, .string ⟨kc.toArray⟩] 140)) (wr.heap.size + 1) (by simp) (ka, kc, v0 :: vr) _ _ rfl rfl rfl HO5.out rfl hsz5.out (by have := hlr.out; omega) ?_; intro v1 w7 hown1 hg1 hat)
        all_goals (
          have RR := Lib.hid (hR5.out.step (by omega) hbm hown1 hg1 hrj.out)
          clear hown1 hg1 hat
          simp only [Act.put, List.getElem_toArray, List.getElem_cons_succ, List.getElem_cons_zero, List.setIfInBounds_toArray, List.set_cons_succ, List.set_cons_zero]
          go_wp2_with fail
          exact ⟨⟨j + 1, by omega, by go_num, RR⟩, by simp [intOf]; omega⟩)
    · have hjq : j = q := by omega
      subst hjq
      have hji : ¬ (j : Int) < (j : Int) := by omega
      have hO := hR.out.own
      have etk : m.take j = m := List.take_of_length_le (by rw [HQ.out]; exact Nat.le_refl _)
      rw [etk, HRN.out] at hO
      have HO := Lib.hid (Row.Own.mono hO (Nat.le_trans (Nat.le_succ _) hs46))
      have HB := Lib.hid hR.out.bel
      clear etk hO hR
      go_wp2_with fail
      exact HP.out _ _ HO.out HB.out
end Go.Proofs.YtjcbohbpkodkoaaGreatDoor

/- Contracts of the sorting of entries: insertionSortCmpFunc, pdqsortCmpFunc (12 elements or fewer), SortFunc. -/
namespace Go.Proofs.YtjcbohbpkodkoaaGreatDoor
open Go.RowKit Go.Maps Num

def cE (p q : RE) : Int := cmpE p.2 q.2
theorem cE_cmp : Cmp cE := cmpE_cmp.pull Prod.snd
theorem getD_mem {α : Type} (x0 : α) (l : List α) (k : Nat) (h : k < l.length) : l.getD k x0 ∈ l := by
  rw [List.getD_eq_getElem?_getD, List.getElem?_eq_getElem h]
  exact List.getElem_mem h
/-- the row holds, up to place k, entries in order -/
def OutR (B : Nat) (w : World) (v : Value) (g : Nat) (ps : List RE) (k : Nat) (W : World) : Prop :=
  ∃ qs : List RE, qs.Perm ps ∧ Upto cE re0 qs (k - 1) ∧ rowE.Own B W v qs ∧ w.grownBy W (some g)
def InR (B : Nat) (w : World) (v : Value) (g : Nat) (ps : List RE) (k q : Nat) (W : World) : Prop :=
  ∃ qs : List RE, qs.Perm ps ∧ Sink cE re0 qs q k ∧ rowE.Own B W v qs ∧ w.grownBy W (some g)
theorem InR.dr {B : Nat} {w W : World} {v : Value} {g : Nat} {ps : List RE} {k q : Nat} (h : Hid (InR B w v g ps k q W)) : Hid (InR B w v g ps k q W.drew) := by
  obtain ⟨qs, q1, q2, q3, q4⟩ := h.out
  exact ⟨qs, q1, q2, q3.dr 1, grown_below q4 (below_dr (Below.refl W.heap.size W) 1)⟩
def SortP (B : Nat) (w : World) (v : Value) (ps : List RE) (e : Ending) (w' : World) : Prop :=
  e = .returned (.tuple #[]) ∧ ∃ qs : List RE, qs.Perm ps ∧ Srt cE qs ∧ rowE.Own B w' v qs ∧ w.grownBy w' v.ownBlock
theorem SortP.nil (B : Nat) (w : World) (A : Option Addr) (c : Nat) (h : rowE.Own B w (.slice A 0 c) []) : SortP B w (.slice A 0 c) [] (.returned (.tuple #[])) w :=
  ⟨rfl, [], List.Perm.refl _, List.Pairwise.nil, h, grown_refl w _⟩
theorem len_any (n : Nat) (hn : n ≤ 12) (w : World) : Calls Tryz.prog 200 #[.int .u64 (n : Int)] w fun e w' => ∃ i : Int, e = .returned (.int .i64 i) ∧ w = w' := by
  have hl := fun W => Any.bits_Len (SlLaysF0.n15.bits (P := Tryz.prog) (ρ := Tryz.laysSortK_ren) { Tryz.laysSortK with }) n W (by omega) (by omega)
  exact Calls.mono (show Calls Tryz.prog 200 #[.int .u64 (n : Int)] w _ from hl w) fun e w' h => ⟨_, h.1, h.2.symm⟩
end Go.Proofs.YtjcbohbpkodkoaaGreatDoor

/- Contracts of slices.IndexFunc and ContainsFunc at the closure 101: an entry that is not valid (printed by gen_idx.py). -/
namespace Go.Proofs.YtjcbohbpkodkoaaGreatDoor
open Go.RowKit Go.Maps Num

/-- the entry is not valid -/
def badR (p : RE) : Bool := decide (chkE p.2.1 p.2.2.1 p.2.2.2 ≠ 0)
theorem any_snoc (l : List RE) (k : Nat) (h : k < l.length) : (l.take (k + 1)).any badR = ((l.take k).any badR || badR (l.getD k re0)) := by
  rw [List.take_succ_eq_append_getElem h, List.any_append, List.getD_eq_getElem?_getD, List.getElem?_eq_getElem h]
  simp
theorem any_hit (l : List RE) (k : Nat) (h : k < l.length) (hb : badR (l.getD k re0) = true) : l.any badR = true := List.any_eq_true.2 ⟨_, getD_mem re0 l k h, hb⟩
def IdxP (b : Bool) (w : World) (e : Ending) (w' : World) : Prop := ∃ i : Int, e = .returned (.int .i64 i) ∧ decide (0 ≤ i) = b ∧ Below w.heap.size w w'
set_option maxRecDepth 100000 in
theorem clo101_any (p : RE) (w : World) (hp : RdE w p) (hz : p.2.2.1.length ≤ 1000) (ht : Tab w) (hm : ML w) : Calls Tryz.prog 107 #[.agg (encE p).toArray] w (BoolPost (badR p) w) := by
  obtain ⟨⟨d1, z1, A1, n1, c1⟩, e1, f1, k1⟩ := p
  obtain ⟨h1, h2, h3⟩ := hp
  simp only at h1 h2 hz
  subst h1 h2
  have hb := Lib.hid (show badR ((d1, z1, A1, n1, c1), d1, z1, k1) = decide (chkE d1 z1 k1 ≠ 0) from rfl)
  have hB0 : Below w.heap.size w (w.alloc (.cells #[.int .i64 d1, .string ⟨z1.toArray⟩, .slice A1 n1 c1] 40)) := (Below.refl _ w).alloc (Nat.le_refl _) _
  have hc := Chk_any d1 z1 A1 n1 c1 k1 _ (Lns.below h3 hB0) (by unfold maxLen; omega) (ht.below hB0) (hm.below hB0)
  unfold IntPost enV at hc
  have HC := Lib.hid hc
  have HB := Lib.hid hB0
  generalize badR ((d1, z1, A1, n1, c1), d1, z1, k1) = r at *
  generalize chkE d1 z1 k1 = v at *
  clear hc hB0 h3
  unfold encE rawA rawN rawC
  simp only
  go_enter Tryz.func107, Tryz.ntmps107
  go_wp2_with fail
  refine HC.out.mono ?_
  rintro e w1 ⟨rfl, hb1⟩
  have HB2 := Lib.hid (below_next HB.out hb1 ⟨rfl, rfl, rfl, rfl⟩)
  clear hb1 HC
  go_wp2_with fail
  go_ret
  refine ⟨?_, HB2.out⟩
  rw [hb.out]
  by_cases h : v = 0
  · subst h; rfl
  · have : (v != 0) = true := by rw [bne_iff_ne]; exact h
    rw [this, decide_eq_true h]; rfl
set_option maxRecDepth 100000 in
set_option maxHeartbeats 4000000 in
theorem idx101 (A : Option Addr) (n c : Nat) (ps : List RE) (w : World) (h : Res w A n c ps) (hz : ∀ p ∈ ps, p.2.2.1.length ≤ 1000) (hn : n ≤ 1000) (ht : Tab w) (hm : ML w) :
    Calls Tryz.prog 146 #[.slice A n c, .func (.func 107) #[] #[]] w (IdxP (ps.any badR) w) := by
  have ll := Lib.hid h.rds.len
  have L1 := Lib.hid h
  have HT := Lib.hid ht
  have HM := Lib.hid hm
  have HZ := Lib.hid hz
  have HS := Lib.hid (any_snoc ps)
  have HH := Lib.hid (any_hit ps)
  have HP := Lib.hid (show ∀ i W, decide (0 ≤ i) = ps.any badR → Below w.heap.size w W → IdxP (ps.any badR) w (.returned (.int .i64 i)) W from fun i W h1 h2 => ⟨i, rfl, h1, h2⟩)
  clear h ht hm hz
  generalize IdxP (ps.any badR) w = Post at *
  go_enter Tryz.func146, Tryz.ntmps146
  go_wp2_with fail
  have R0 := Lib.hid (show (ps.take 0).any badR = false ∧ Below w.heap.size w w from ⟨by simp, Below.refl _ _⟩)
  go_loopw [8, 5] (fun i _ wr => ∃ k : Nat, k ≤ n ∧ i = .int .i64 (k : Int) ∧ Hid ((ps.take k).any badR = false ∧ Below w.heap.size w wr)) (fun i _ _ => n - (intOf i).toNat)
  case atStart => exact ⟨0, by omega, rfl, R0⟩
  case round =>
    obtain ⟨k, hk, rfl, hR⟩ := hrel
    have HE := Lib.hid hR.out.1
    have HB := Lib.hid hR.out.2
    clear hR R0
    by_cases hlt : k < n
    · have hkl : k < ps.length := by rw [ll.out]; exact hlt
      have hmem := getD_mem re0 ps k hkl
      have hs1 := Lib.hid (HS.out k hkl)
      have hh1 := Lib.hid (HH.out k hkl)
      obtain ⟨b1, o1, rfl, hb1, _⟩ := L1.out.rds.at_ (by omega)
      have q0 := (L1.out.rds.below HB.out).cell rowE_ok re0 k 0 _ hlt rfl
      have q1 := (L1.out.rds.below HB.out).cell rowE_ok re0 k 1 _ hlt rfl
      have q2 := (L1.out.rds.below HB.out).cell rowE_ok re0 k 2 _ hlt rfl
      have cl := clo101_any (ps.getD k re0) wr ((L1.out.all _ hmem).below HB.out) (HZ.out _ hmem) (HT.out.below HB.out) (HM.out.below HB.out)
      have hki : (k : Int) < (n : Int) := by omega
      have hk0 : (0 : Int) ≤ (k : Int) := by omega
      generalize badR (ps.getD k re0) = bd at *
      generalize ps.getD k re0 = p at *
      obtain ⟨⟨d1, z1, A1, n1, c1⟩, e1, f1, k1⟩ := p
      unfold encE rawA rawN rawC at cl
      simp only [rawA, rawN, rawC, Nat.add_zero] at q0 q1 q2 cl
      have CL := Lib.hid cl
      clear cl hmem hkl
      go_wp2_with fail
      refine CL.out.mono ?_
      rintro e w1 ⟨rfl, hb⟩
      have HB2 := Lib.hid (below_next HB.out hb ⟨rfl, rfl, rfl, rfl⟩)
      clear hb CL
      cases bd
      · have HE2 := Lib.hid (show (ps.take (k + 1)).any badR = false by rw [hs1.out, HE.out]; rfl)
        go_wp2_with fail
        go_roundw
        case rel => exact ⟨k + 1, by omega, by go_num, Lib.hid ⟨HE2.out, HB2.out⟩⟩
        case measure => simp [intOf]; omega
      · have hv := Lib.hid (HP.out (k : Int) w1 (by rw [hh1.out rfl]; exact decide_eq_true hk0) HB2.out)
        go_wp2_with fail
        exact hv.out
    · have hki : decide ((k : Int) < (n : Int)) = false := by rw [decide_eq_false_iff_not]; omega
      have hv := Lib.hid (HP.out (-1) wr (by
        have e := HE.out
        rw [List.take_of_length_le (by rw [ll.out]; omega)] at e
        rw [e]; rfl) HB.out)
      go_wp2_with fail
      exact hv.out
set_option maxRecDepth 100000 in
theorem con101 (A : Option Addr) (n c : Nat) (ps : List RE) (w : World) (h : Res w A n c ps) (hz : ∀ p ∈ ps, p.2.2.1.length ≤ 1000) (hn : n ≤ 1000) (ht : Tab w) (hm : ML w) :
    Calls Tryz.prog 106 #[.slice A n c, .func (.func 107) #[] #[]] w (BoolPost (ps.any badR) w) := by
  have HI := Lib.hid (idx101 A n c ps w h hz hn ht hm)
  clear h hz ht hm
  go_enter Tryz.func106, Tryz.ntmps106
  go_wp2_with fail
  refine HI.out.mono ?_
  rintro e w1 ⟨i, rfl, hi, hb⟩
  have HI2 := Lib.hid hi
  have HB := Lib.hid hb
  clear hi hb HI
  go_wp2_with fail
  go_ret
  exact ⟨by rw [HI2.out]; rfl, HB.out⟩
end Go.Proofs.YtjcbohbpkodkoaaGreatDoor

/- Ledgers, plain: what the laws say of trial balances. -/
namespace Go.Proofs.YtjcbohbpkodkoaaGreatDoor
open Go.RowKit Go.Maps Num

theorem flat_congr {l : List En} {p q : Int → Bool} (h : ∀ e ∈ l, p e.1 = q e.1) : flat l p = flat l q := by
  induction l with
  | nil => rfl
  | cons e r ih => rw [flat_cons, flat_cons, h e (by simp), ih fun x hx => h x (List.mem_cons_of_mem _ hx)]
theorem flat_split {l : List En} {p q r : Int → Bool} (h : ∀ e ∈ l, p e.1 = (q e.1 || r e.1) ∧ (q e.1 && r e.1) = false) (k : Ky) : tot (flat l p) k = tot (flat l q) k + tot (flat l r) k := by
  induction l with
  | nil => rfl
  | cons e m ih =>
    obtain ⟨h1, h2⟩ := h e (by simp)
    rw [flat_cons, flat_cons, flat_cons, tot_append, tot_append, tot_append, ih fun x hx => h x (List.mem_cons_of_mem _ hx), h1]
    cases hq : q e.1 <;> cases hr : r e.1
    · simp [tot_nil]
    · simp [tot_nil]; omega
    · simp [tot_nil]; omega
    · rw [hq, hr] at h2; cases h2
/-- a period: the later day's balances less the earlier day's -/
theorem period {l : List En} (hl : OkL l) {p q r : Int → Bool} (h : ∀ e ∈ l, p e.1 = (q e.1 || r e.1) ∧ (q e.1 && r e.1) = false) : lessB (nrmL (flat l p)) (nrmL (flat l q)) = nrmL (flat l r) := by
  have hp := hl.of p
  have hq := hl.of q
  refine nrmL_tot (fun x hx => ?_) (hl.can r) fun k => ?_
  · rcases List.mem_append.1 hx with h | h
    · exact (hp.amt x h).1
    · obtain ⟨y, _, rfl⟩ := List.mem_map.1 h
      exact canB_t
  · rw [tot_append, tot_neg, hp.tot, hq.tot, flat_split h]; omega
theorem lessB_self {a : List Ln} (ha : listB a = true) : lessB a a = [] := by
  have h := less_of (a := a) (b := a) (listB_can ha)
  have : nrmL (a ++ a.map negL) = nrmL [] := nrmL_tot (fun x hx => by
    rcases List.mem_append.1 hx with h | h
    · exact listB_can ha x h
    · obtain ⟨y, _, rfl⟩ := List.mem_map.1 h
      exact canB_t) (fun x hx => (List.not_mem_nil hx).elim) fun k => by rw [tot_append, tot_neg, tot_nil]; omega
  exact this
theorem lessB_list {a b : List Ln} (ha : listB a = true) (hb : ∀ x ∈ b, lineI x = 0) : listB (lessB a b) = true :=
  norm_listB (less_of (listB_can ha)) fun x hx => by
    rcases List.mem_append.1 hx with h | h
    · exact ((listB_iff.1 ha).1 x h).1
    · exact negL_ln hb x h
theorem listB_ln {a : List Ln} (ha : listB a = true) : ∀ x ∈ a, lineI x = 0 := fun x hx => ((listB_iff.1 ha).1 x hx).1
theorem listB_nil : listB [] = true := by decide
/-- what was subtracted can be added again -/
theorem lessB_back {a b : List Ln} (ha : listB a = true) (hb : listB b = true) : lessB (lessB a b) (lessB [] b) = a := by
  have h1 := lessB_list ha (listB_ln hb)
  have h2 := lessB_list listB_nil (listB_ln hb)
  refine listB_ext (lessB_list h1 (listB_ln h2)) ha fun k => ?_
  rw [less_tot (listB_can h1), less_tot (listB_can ha), less_tot (listB_can listB_nil), tot_nil]
  omega
/-- entries that are reversed -/
def revL (l : List En) : List En := l.map fun e => (e.1, e.2.1, e.2.2.map negL)
theorem revL_ok {l : List En} (h : OkL l) : OkL (revL l) := fun e he => by
  obtain ⟨x, hx, rfl⟩ := List.mem_map.1 he
  exact decide_eq_true (chkE_iff.2 (h.vld hx).neg)
theorem revL_tot (l : List En) (p : Int → Bool) (k : Ky) : tot (flat (revL l) p) k = - tot (flat l p) k := by
  induction l with
  | nil => rfl
  | cons e r ih =>
    have : revL (e :: r) = (e.1, e.2.1, e.2.2.map negL) :: revL r := rfl
    rw [this, flat_cons, flat_cons, tot_append, tot_append, ih]
    simp only
    split
    · rw [tot_neg]; omega
    · simp [tot_nil]
theorem revL_trial {l : List En} (h : OkL l) (p : Int → Bool) : nrmL (flat (revL l) p) = lessB [] (nrmL (flat l p)) := by
  refine listB_ext ((revL_ok h).list p) (lessB_list listB_nil (listB_ln (h.list p))) fun k => ?_
  rw [((revL_ok h).of p).tot, less_tot (listB_can listB_nil), tot_nil, (h.of p).tot, revL_tot]
  omega
theorem okL_append {a b : List En} (ha : OkL a) (hb : OkL b) : OkL (a ++ b) := fun e he => by
  rcases List.mem_append.1 he with h | h
  · exact ha e h
  · exact hb e h
theorem both_trial {l : List En} (h : OkL l) (p : Int → Bool) : nrmL (flat (l ++ revL l) p) = [] := by
  have : nrmL (flat (l ++ revL l) p) = nrmL [] := nrmL_tot ((okL_append h (revL_ok h)).can p) (fun x hx => (List.not_mem_nil hx).elim) fun k => by
    rw [flat_append, tot_append, revL_tot, tot_nil]; omega
  exact this
/-- the amounts of a currency of a trial balance add up to 0 -/
theorem trial_cur {l : List En} (h : OkL l) (p : Int → Bool) (c : List UInt8) : curT (nrmL (flat l p)) c = 0 := by
  rw [curT_of_tot (h.of p).tot c, h.cur]
/-- a line's key is in the trial balance exactly if its balance is not 0 -/
theorem trial_has {l : List En} (h : OkL l) (p : Int → Bool) (k : Ky) : decide (txt (tot (flat l p) k) ≠ []) = (nrmL (flat l p)).any fun b => decide (key b = k) := by
  have hn := h.of p
  rw [Bool.eq_iff_iff, decide_eq_true_iff, List.any_eq_true]
  constructor
  · intro h0
    by_cases e : ∃ b ∈ nrmL (flat l p), key b = k
    · obtain ⟨b, hb, hk⟩ := e
      exact ⟨b, hb, decide_eq_true hk⟩
    · have h1 := tot_none fun b hb hk => e ⟨b, hb, hk⟩
      rw [hn.tot] at h1
      exact absurd (by rw [h1]; exact txt_zero) h0
  · rintro ⟨b, hb, hk⟩ e
    have hk := of_decide_eq_true hk
    subst hk
    have h1 := (hn.mem b).1 hb
    exact h1.2 (txt_nil.1 e)
theorem trial_amt {l : List En} (h : OkL l) (p : Int → Bool) {b : Ln} (hb : b ∈ nrmL (flat l p)) : txt (tot (flat l p) (key b)) = b.2.2 := (((h.of p).mem b).1 hb).1.symm
end Go.Proofs.YtjcbohbpkodkoaaGreatDoor
