/- The reference's greatest subtrees and its Grow; Grow outside its range. -/
import Derived.Test.YtlgpdmejnabinaaRefRoot
import Derived.Test.YtlgpdmejnabinaaGrowP
import Derived.Maps.AppendAt
import Derived.Laws.AppendOwnNone
import Derived.Outline
namespace Go.Proofs.Ytlgpdmejnabinaa
open Go.RowKit

theorem OwnS.kept {B : Nat} {w w' : World} {v : Value} {l : List ByteArray} {row : Option Nat} (h : OwnS B w v l) (hg : w.grownBy w' row) (hne : ∀ g, v.ownBlock = some g → row ≠ some g) : OwnS B w' v l := by
  refine World.ownsRow.kept h hg ?_
  cases hv : v.ownBlock with
  | none => exact .inl rfl
  | some g => exact .inr (fun e => hne g hv e.symm)
theorem OwnS.lt {B : Nat} {w : World} {v : Value} {l : List ByteArray} (h : OwnS B w v l) : ∀ g, v.ownBlock = some g → B ≤ g ∧ g < w.heap.size := World.ownsRow.lt h
theorem below_of_grown {B : Nat} {w w' : World} {row : Option Nat} (hg : w.grownBy w' row) (hB : B ≤ w.heap.size) (hr : ∀ g, row = some g → B ≤ g) : Below B w w' := (Below.refl B w).grown hg hB hr
theorem wp_append_both {ops : Array Oper} {rest : List Oper} {o : Oper} {a : Act} {Q : Exit → Act → World → Prop} (hgd : o.guard = none) (s x : Operand)
    (ho : o.op = .call { callee := .builtin .append, args := #[s, x], argTypes := #[27, 27] })
    (B : Nat) (v xv : Value) (ns zs : List ByteArray) (w : World) (hs : a.eval s = v) (hx : a.eval x = xv) (hown : OwnS B w v ns) (hsrc : OwnS B w xv zs)
    (hB : B ≤ w.heap.size) (hn : ns.length + zs.length ≤ 1000000)
    (h : ∀ v' w', OwnS B w' v' (ns ++ zs) → w.grownBy w' v.ownBlock → (v'.ownBlock = v.ownBlock ∨ v'.ownBlock = some w.heap.size) → wpList Try.prog ops Q rest (a.put o.dst v') w') :
    wpList Try.prog ops Q (o :: rest) a w := by
  obtain ⟨i0, hi, hz0, hz1, hz2⟩ := info_parts info9
  rcases hsrc.2 with ⟨rfl, h0⟩ | ⟨g, cap, cur, rfl, hg, hgg, hc, hm, hsz, htake⟩
  · have e : zs = [] := List.eq_nil_of_length_eq_zero h0
    subst e
    refine wpList_append_own_none hgd s x 27 ho B 9 i0 1 Try.underlying27 hi v ns.length (SVs ns) hs hown hx ?_
    refine h v w (by rw [List.append_nil]; exact hown) ⟨rfl, rfl, rfl, Nat.le_refl _, fun _ _ _ => rfl⟩ (.inl rfl)
  · refine wpList_append_own_at w hgd s x 27 ho B 9 i0 (.string ⟨#[]⟩) 1 16 Try.underlying27 hi hz0 hz1 hz2 rfl (by decide) v ns.length (SVs ns) hs hown ⟨g, 0, none⟩ zs.length cap (SVs zs) hx (by simp [SVs]) ?_ ?_ (by simp only [maxLen]; omega) (by omega) hB ?_
    · intro j u hu
      have hj := (List.getElem?_eq_some_iff.1 hu).1
      have hadd : (⟨g, 0, none⟩ : Addr).add j = ⟨g, j, none⟩ := by unfold Addr.add; split <;> simp_all
      rw [hadd, cell_of_row _ _ _ _ _ _ hgg]
      have h1 : cur[j]? = (SVs zs)[j]? := by
        rw [← htake, List.getElem?_take, if_pos (by simpa [SVs] using hj), Array.getElem?_toList]
      rw [h1, hu]
    · intro u hu
      simp only [SVs, List.mem_map] at hu
      obtain ⟨z, _, rfl⟩ := hu
      rfl
    · intro v' w' h2 h3 _ h5
      refine h v' w' ?_ h3 h5
      unfold OwnS
      rw [List.length_append, show SVs (ns ++ zs) = SVs ns ++ SVs zs by simp [SVs]]
      exact h2
/-- two slices of the call's own, in different blocks -/
def RetTwo (a b : List ByteArray) (w : World) (e : Ending) (w' : World) : Prop :=
  ∃ v1 v2, e = .returned (.tuple #[v1, v2]) ∧ OwnS w.heap.size w' v1 a ∧ OwnS w.heap.size w' v2 b ∧ (∀ g, v1.ownBlock = some g → v2.ownBlock ≠ some g) ∧ Below w.heap.size w w'
theorem own_one (w : World) (x : ByteArray) : OwnS w.heap.size (w.alloc (.cells #[.string x] 9)) (.slice (some ⟨w.heap.size, 0, none⟩) 1 1) [x] :=
  ⟨rfl, .inr ⟨w.heap.size, 1, #[.string x], rfl, Nat.le_refl _, heap_alloc_new w _, by simp, by unfold maxLen; omega, rfl, rfl⟩⟩
theorem OwnS.low {B B' : Nat} {w : World} {v : Value} {l : List ByteArray} (h : OwnS B w v l) (hb : B' ≤ B) : OwnS B' w v l := by
  rcases h.2 with ⟨rfl, h0⟩ | ⟨g, cap, cur, rfl, hB, hr⟩
  · exact ⟨h.1, .inl ⟨rfl, h0⟩⟩
  · exact ⟨h.1, .inr ⟨g, cap, cur, rfl, Nat.le_trans hb hB, hr⟩⟩
set_option maxHeartbeats 1000000 in
theorem greatest_none (A : Option Addr) (c : Nat) (t : Int) (w : World) : Calls Try.prog 52 #[.slice A 0 c, .int .i64 t] w (RetTwo [] [] w) := by
  go_enter Try.func52, Try.ntmps52
  go_wp2_with fail
  go_ret2
  exact ⟨.slice none 0 0, .slice none 0 0, rfl, OwnS.nil _ _, OwnS.nil _ _, (fun g h => by cases h), Below.refl _ _⟩
set_option maxHeartbeats 1000000 in
set_option maxRecDepth 100000 in
theorem greatest_low (A : Option Addr) (n c : Nat) (t : Int) (l : List ByteArray) (w : World) (h : Strs w A n c l) (hl : ∀ x ∈ l, x.size ≤ 1000000) (h1 : 1 ≤ n) (hn : n ≤ 1000000) (ht : (n : Int) ≤ t) : Calls Try.prog 52 #[.slice A n c, .int .i64 t] w (RetTwo [rootB l] [] w) := by
  have d0 : ((n : Int) == 0) = false := beq_eq_false_iff_ne.2 (by omega)
  have d1 : decide ((n : Int) ≤ t) = true := by simpa using ht
  have HR := Lib.hid (refRoot_any n A n c l w (Nat.le_refl _) hn h hl)
  obtain ⟨R, hR⟩ : ∃ R, rootB l = R := ⟨_, rfl⟩
  rw [hR] at HR ⊢
  clear h hl hR
  go_enter Try.func52, Try.ntmps52
  go_wp2_with fail
  refine HR.out.mono ?_
  rintro e w1 ⟨rfl, hb1⟩
  go_wp2_with fail
  go_ret2
  exact ⟨.slice (some ⟨w1.heap.size, 0, none⟩) 1 1, .slice none 0 0, rfl, (own_one w1 R).low hb1.size, OwnS.nil _ _, (fun g _ h => by cases h), hb1.trans ((Below.refl _ _).alloc hb1.size _)⟩
set_option maxHeartbeats 1000000 in
set_option maxRecDepth 100000 in
theorem greatest_high (A : Option Addr) (n c : Nat) (t : Int) (l : List ByteArray) (w : World) (h : Strs w A n c l) (hl : ∀ x ∈ l, x.size ≤ 1000000) (h1 : 1 ≤ n) (hn : n ≤ 1000000) (ht : t ≤ 0) : Calls Try.prog 52 #[.slice A n c, .int .i64 t] w (RetTwo [] [rootB l] w) := by
  have d0 : ((n : Int) == 0) = false := beq_eq_false_iff_ne.2 (by omega)
  have d1 : decide ((n : Int) ≤ t) = false := by simp; omega
  have d2 : decide (t ≤ 0) = true := by simpa using ht
  have HR := Lib.hid (refRoot_any n A n c l w (Nat.le_refl _) hn h hl)
  obtain ⟨R, hR⟩ : ∃ R, rootB l = R := ⟨_, rfl⟩
  rw [hR] at HR ⊢
  clear h hl hR
  go_enter Try.func52, Try.ntmps52
  go_wp2_with fail
  refine HR.out.mono ?_
  rintro e w1 ⟨rfl, hb1⟩
  go_wp2_with fail
  go_ret2
  exact ⟨.slice none 0 0, .slice (some ⟨w1.heap.size, 0, none⟩) 1 1, rfl, OwnS.nil _ _, (own_one w1 R).low hb1.size, (fun g h => by cases h), hb1.trans ((Below.refl _ _).alloc hb1.size _)⟩
set_option maxHeartbeats 2000000 in
set_option maxRecDepth 100000 in
theorem greatest_mid (N k b o c : Nat) (t : Int) (a1 b1 a2 b2 : List ByteArray) (w : World) (hN : N ≤ 1000000) (ht : 0 < t) (ht' : t < (N : Int)) (hk : k = cutN N) (hkN : k < N) (hc : N ≤ c) (l1 : a1.length ≤ 100000) (l2 : b1.length ≤ 100000) (l3 : a2.length ≤ 100000) (l4 : b2.length ≤ 100000)
    (hc1 : Calls Try.prog 52 #[.slice (some ⟨b, o, none⟩) k c, .int .i64 t] w (RetTwo a1 b1 w))
    (hc2 : ∀ W, Below w.heap.size w W → Calls Try.prog 52 #[.slice (some ⟨b, o + k, none⟩) (N - k) (c - k), .int .i64 (t - (k : Int))] W (RetTwo a2 b2 W)) :
    Calls Try.prog 52 #[.slice (some ⟨b, o, none⟩) N c, .int .i64 t] w (RetTwo (a1 ++ a2) (b1 ++ b2) w) := by
  have d0 : ((N : Int) == 0) = false := beq_eq_false_iff_ne.2 (by omega)
  have hd1 : decide ((N : Int) ≤ t) = false := by simp; omega
  have hd2 : decide (t ≤ 0) = false := by simp; omega
  have hhalf : ∀ W, Calls Try.prog 60 #[.int .i64 (N : Int)] W fun e w' => e = .returned (.int .i64 (k : Int)) ∧ W = w' := fun W => by rw [hk]; exact (refHalf_any N W (by omega)).mono fun _ _ ⟨h, h'⟩ => ⟨h, h'.symm⟩
  have HH := Lib.hid hhalf
  have H1 := Lib.hid hc1
  obtain ⟨t', ht2⟩ : ∃ t' : Int, t - (k : Int) = t' := ⟨_, rfl⟩
  rw [ht2] at hc2
  have H2 := Lib.hid hc2
  have i1 : (k : Int) ≤ (c : Int) := by omega
  have i2 : (k : Int) ≤ (N : Int) := by omega
  have hne : ¬ c = k := by omega
  clear hc1 hc2 hhalf hk
  go_enter Try.func52, Try.ntmps52
  go_wp2_with fail
  refine (HH.out _).mono ?_
  rintro e w1 ⟨rfl, rfl⟩
  go_wp2_with fail
  refine H1.out.mono ?_
  rintro e w1 ⟨v1, v2, rfl, o1, o2, dj1, hb1⟩
  go_wp2_with fail
  refine (H2.out _ hb1).mono ?_
  rintro e w2 ⟨v3, v4, rfl, o3, o4, dj2, hb2⟩
  have p1 := o1.below hb2
  have p2 := o2.below hb2
  have s1 := hb1.size
  have s2 := hb2.size
  have m1 := o1.lt
  have m2 := o2.lt
  have m3 := o3.lt
  have m4 := o4.lt
  have HP := Lib.hid (And.intro p1 (And.intro p2 (And.intro (o3.low s1) (And.intro (o4.low s1) (And.intro dj1 (And.intro dj2 (And.intro m1 (And.intro m2 (And.intro m3 m4)))))))))
  clear p1 p2 o1 o2 o3 o4 dj1 dj2 m1 m2 m3 m4
  go_wp2_with (first
    | (at_builtin; refine wp_append_both rfl (.tmp 47) (.tmp 48) rfl w.heap.size v1 v3 a1 a2 w2 rfl rfl HP.out.1 HP.out.2.2.1 (by omega) (by omega) ?_; intro v5 w3 o5 g5 n5; have q2 := Lib.hid (OwnS.kept HP.out.2.1 g5 (fun g hg e => HP.out.2.2.2.2.1 g e hg)); have q4 := Lib.hid (OwnS.kept HP.out.2.2.2.1 g5 (fun g hg e => by have x1 := HP.out.2.2.2.2.2.2.1 g e; have x2 := HP.out.2.2.2.2.2.2.2.2.2 g hg; omega)); have z3 := g5.size; have G5 := Lib.hid (And.intro o5 (And.intro g5 n5)); clear o5 g5 n5)
    | (at_builtin; refine wp_append_both rfl (.tmp 50) (.tmp 51) rfl w.heap.size v2 v4 b1 b2 w3 rfl rfl q2.out q4.out (by omega) (by omega) ?_; intro v6 w4 o6 g6 n6; have G6 := Lib.hid (And.intro o6 (And.intro g6 n6)); clear o6 g6 n6))
  go_ret2
  have hb3 : Below w.heap.size w2 w3 := below_of_grown G5.out.2.1 (by omega) (fun g e => (HP.out.2.2.2.2.2.2.1 g e).1)
  have hb4 : Below w.heap.size w3 w4 := below_of_grown G6.out.2.1 (by omega) (fun g e => (HP.out.2.2.2.2.2.2.2.1 g e).1)
  have lt5 := G5.out.1.lt
  have q5 : OwnS w.heap.size w4 v5 (a1 ++ a2) := OwnS.kept G5.out.1 G6.out.2.1 (fun g hg e => by
    rcases G5.out.2.2 with h | h
    · rw [h] at hg; exact HP.out.2.2.2.2.1 g hg e
    · rw [h] at hg; cases hg; have := (HP.out.2.2.2.2.2.2.2.1 _ e).2; omega)
  refine ⟨v5, v6, rfl, q5, G6.out.1, fun g hg e => ?_, (hb1.trans (hb2.mono s1)).trans (hb3.trans hb4)⟩
  rcases G6.out.2.2 with h6 | h6
  · rw [h6] at e
    rcases G5.out.2.2 with h | h
    · rw [h] at hg; exact HP.out.2.2.2.2.1 g hg e
    · rw [h] at hg; cases hg; have := (HP.out.2.2.2.2.2.2.2.1 _ e).2; omega
  · rw [h6] at e
    cases e
    have := (lt5 _ hg).2
    omega
theorem greatest_any (m : Nat) (l : List ByteArray) (k : Nat) (hl : l.length ≤ 10000) (hx : ∀ x ∈ l, x.size ≤ 1000000) : ∀ (a b : Nat) (A : Option Addr) (n c : Nat) (w : World), b - a ≤ m → a ≤ b → b ≤ l.length → n = b - a → Strs w A n c (seg l a b) →
    Calls Try.prog 52 #[.slice A n c, .int .i64 ((k : Int) - (a : Int))] w (RetTwo (visitB l k true a b) (visitB l k false a b) w) := by
  have hseg : ∀ a b, ∀ x ∈ seg l a b, x.size ≤ 1000000 := fun a b x h => hx x (List.mem_of_mem_drop (List.mem_of_mem_take h))
  have hlen : ∀ bf a b, b ≤ l.length → (visitB l k bf a b).length ≤ 100000 := fun bf a b hb => Nat.le_trans (visitN _ l k bf a b) (by omega)
  induction m with
  | zero =>
    intro a b A n c w hm hab hb hn h
    obtain rfl : n = 0 := by omega
    rw [visitB_none (.inl (by omega)), visitB_none (.inl (by omega))]
    exact greatest_none A c _ w
  | succ m ih =>
    intro a b A n c w hm hab hb hn h
    subst hn
    rcases Nat.eq_or_lt_of_le hab with e | hab
    · subst e
      rw [visitB_none (.inl (by omega)), visitB_none (.inl (by omega)), Nat.sub_self]
      exact greatest_none A c _ w
    · by_cases hlow : b ≤ k
      · obtain ⟨e1, e2⟩ := v_low (l := l) hab hlow
        rw [e1, e2]
        exact greatest_low A _ c _ _ w h (hseg a b) (by omega) (by omega) (by omega)
      · by_cases hhigh : k ≤ a
        · obtain ⟨e1, e2⟩ := v_high (l := l) hab hhigh
          rw [e1, e2]
          exact greatest_high A _ c _ _ w h (hseg a b) (by omega) (by omega) (by omega)
        · obtain ⟨hba, e1⟩ := v_mid (l := l) true (by omega : a < k) (by omega : k < b)
          obtain ⟨-, e2⟩ := v_mid (l := l) false (by omega : a < k) (by omega : k < b)
          have k1 := cutN_pos _ hba
          have k2 := cutN_lt _ hba
          rw [e1, e2]
          obtain ⟨B, O, rfl, -⟩ := h.at_ (by omega)
          have hS1 : (seg l a b).take (cutN (b - a)) = seg l a (a + cutN (b - a)) := by
            unfold seg; rw [List.take_take, Nat.min_eq_left (by omega)]; congr 1; omega
          have hS2 : (seg l a b).drop (cutN (b - a)) = seg l (a + cutN (b - a)) b := by
            unfold seg; rw [List.drop_take, List.drop_drop]; congr 1; omega
          refine greatest_mid (b - a) (cutN (b - a)) B O c _ _ _ _ _ w (by omega) (by omega) (by omega) rfl k2 h.cap (hlen _ _ _ (by omega)) (hlen _ _ _ (by omega)) (hlen _ _ _ hb) (hlen _ _ _ hb) ?_ ?_
          · have t1 := h.take (cutN (b - a)) (by omega)
            rw [hS1] at t1
            exact ih a (a + cutN (b - a)) _ _ c w (by omega) (by omega) (by omega) (by omega) t1
          · intro W hW
            have t2 := (h.below hW).drop (cutN (b - a)) (by omega)
            rw [hS2] at t2
            have := ih (a + cutN (b - a)) b _ _ _ W (by omega) (by omega) hb (by omega) t2
            rw [show (k : Int) - ((a + cutN (b - a) : Nat) : Int) = (k : Int) - (a : Int) - ((cutN (b - a) : Nat) : Int) by omega] at this
            exact this
set_option maxHeartbeats 1000000 in
theorem RefGrow_any (A : Option Addr) (n c k : Nat) (l : List ByteArray) (w : World) (hn : n ≤ 1024) (hk : k ≤ n) (h : Strs w A n c l) (hl : ∀ x ∈ l, x.size ≤ 1000000) :
    Calls Try.prog 34 #[.slice A n c, .int .i64 (k : Int)] w (RetS (visitB l k true 0 n ++ visitB l k false 0 n) 0 w) := by
  have hlen := h.len
  have l1 : (visitB l k true 0 n).length ≤ 1024 := Nat.le_trans (visitN _ l k true 0 n) (by omega)
  have l2 : (visitB l k false 0 n).length ≤ 1024 := Nat.le_trans (visitN _ l k false 0 n) (by omega)
  have HG := greatest_any n l k (by omega) hl 0 n A n c w (by omega) (by omega) (by omega) rfl (by rw [← hlen, seg_all]; rw [hlen]; exact h)
  simp only [Int.natCast_zero, Int.sub_zero, Int.ofNat_zero, Int.cast_ofNat_Int] at HG
  have HG := Lib.hid HG
  have d1 : decide (1024 < (n : Int)) = false := by simp; omega
  have d2 : decide ((k : Int) < 0) = false := by simp
  have d3 : decide (n < k) = false := by simpa using hk
  clear h hl hlen
  generalize visitB l k true 0 n = V1 at *
  generalize visitB l k false 0 n = V2 at *
  go_enter Try.func34, Try.ntmps34
  go_wp2_with fail
  refine HG.out.mono ?_
  rintro e w1 ⟨v1, v2, rfl, o1, o2, dj, hb1⟩
  have s1 := hb1.size
  go_wp2_with (at_builtin; refine wp_append_both rfl (.tmp 25) (.tmp 26) rfl w.heap.size v1 v2 V1 V2 w1 rfl rfl o1 o2 s1 (by omega) ?_; intro v5 w3 o5 g5 n5)
  go_ret2
  exact ⟨v5, rfl, o5, hb1.trans (below_of_grown g5 s1 (fun g e => (o1.lt g e).1))⟩
theorem RefGrow_big (A : Option Addr) (n c : Nat) (i : Int) (w : World) (hn : 1024 < n) (hm : n ≤ 9223372036854775807) :
    Calls Try.prog 34 #[.slice A n c, .int .i64 i] w (RetS [] 4 w) := by
  have hd : decide (1024 < (n : Int)) = true := by simp; omega
  go_enter Try.func34, Try.ntmps34
  go_wp2_with fail
  go_ret2
  exact ⟨_, rfl, OwnS.nil _ _, Below.refl _ _⟩
theorem RefGrow_neg (A : Option Addr) (n c : Nat) (i : Int) (w : World) (hn : n ≤ 1024) (hi : i < 0) :
    Calls Try.prog 34 #[.slice A n c, .int .i64 i] w (RetS [] 2 w) := by
  have hd : decide (1024 < (n : Int)) = false := by simp; omega
  have hd1 : decide (i < 0) = true := by simpa using hi
  go_enter Try.func34, Try.ntmps34
  go_wp2_with fail
  go_ret2
  exact ⟨_, rfl, OwnS.nil _ _, Below.refl _ _⟩
theorem RefGrow_out (A : Option Addr) (n c : Nat) (i : Int) (w : World) (hn : n ≤ 1024) (hi : 0 ≤ i) (hin : (n : Int) < i) :
    Calls Try.prog 34 #[.slice A n c, .int .i64 i] w (RetS [] 2 w) := by
  have hd : decide (1024 < (n : Int)) = false := by simp; omega
  have hd1 : decide (i < 0) = false := by simp; omega
  have hd2 : decide ((n : Int) < i) = true := by simpa using hin
  go_enter Try.func34, Try.ntmps34
  go_wp2_with fail
  go_ret2
  exact ⟨_, rfl, OwnS.nil _ _, Below.refl _ _⟩
end Go.Proofs.Ytlgpdmejnabinaa
