/- The walk of DigestPaths. -/
import Derived.Test.YtlgpdmejnabinaaPath
import Derived.Test.YtlgpdmejnabinaaClimb
import Derived.Test.YtlgpdmejnabinaaRoots
namespace Go.Proofs.Ytlgpdmejnabinaa
open Go.RowKit

theorem getD_take_lt (l : List ByteArray) (k i : Nat) (h : i < k) : (l.take k).getD i ByteArray.empty = l.getD i ByteArray.empty := by
  rw [List.getD_eq_getElem?_getD, List.getD_eq_getElem?_getD, List.getElem?_take, if_pos h]
theorem getD_drop_add (l : List ByteArray) (k i : Nat) : (l.drop k).getD i ByteArray.empty = l.getD (k + i) ByteArray.empty := by
  rw [List.getD_eq_getElem?_getD, List.getD_eq_getElem?_getD, List.getElem?_drop]
theorem snoc_parts (P : List ByteArray) (R : ByteArray) : (P ++ [R]).length - 1 = P.length ∧ (P ++ [R]).take P.length = P ∧ (P ++ [R]).getD P.length ByteArray.empty = R := by
  refine ⟨by simp, by simp, by simp⟩
/-- a path leads to the root -/
theorem climb_path (m : Nat) : ∀ (l : List ByteArray) (i : Nat), l.length ≤ m → i < l.length → climbB (dig (⟨#[0]⟩ ++ l.getD i ByteArray.empty)) i l.length (pathB l i) = (rootB l, true) := by
  induction m with
  | zero => intro l i h hi; omega
  | succ m ih =>
    intro l i h hi
    by_cases h1 : l.length = 1
    · obtain rfl : i = 0 := by omega
      rw [h1, climbB_leaf, pathB_one l 0 (by omega), rootB_one l h1]
      rfl
    · have h2 : 2 ≤ l.length := by omega
      have a := cutN_pos l.length h2
      have b := cutN_lt l.length h2
      by_cases hik : i < cutN l.length
      · rw [pathB_left l i h2 hik]
        obtain ⟨e1, e2, e3⟩ := snoc_parts (pathB (l.take (cutN l.length)) i) (rootB (l.drop (cutN l.length)))
        rw [climbB_left _ _ _ _ h1 (by simp) hik, e1, e2, e3]
        have ht : (l.take (cutN l.length)).length = cutN l.length := by simp; omega
        have := ih (l.take (cutN l.length)) i (by omega) (by omega)
        rw [getD_take_lt l _ i hik, ht] at this
        rw [this, rootB_two l h2]
      · rw [pathB_right l i h2 hik]
        obtain ⟨e1, e2, e3⟩ := snoc_parts (pathB (l.drop (cutN l.length)) (i - cutN l.length)) (rootB (l.take (cutN l.length)))
        rw [climbB_right _ _ _ _ h1 (by simp) hik, e1, e2, e3]
        have ht : (l.drop (cutN l.length)).length = l.length - cutN l.length := by simp
        have := ih (l.drop (cutN l.length)) (i - cutN l.length) (by omega) (by omega)
        rw [getD_drop_add, show cutN l.length + (i - cutN l.length) = i by omega, ht] at this
        rw [this, rootB_two l h2]
/-- a path of another length is none -/
theorem climb_other (m : Nat) : ∀ (l : List ByteArray) (i : Nat) (p : List ByteArray) (leaf : ByteArray), l.length ≤ m → i < l.length → p.length ≠ (pathB l i).length → (climbB leaf i l.length p).2 = false := by
  induction m with
  | zero => intro l i p leaf h hi; omega
  | succ m ih =>
    intro l i p leaf h hi hp
    by_cases h1 : l.length = 1
    · rw [pathB_one l i (by omega)] at hp
      rw [h1, climbB_leaf]
      simpa using hp
    · have h2 : 2 ≤ l.length := by omega
      have a := cutN_pos l.length h2
      have b := cutN_lt l.length h2
      by_cases hp0 : p.length = 0
      · rw [climbB_none _ _ _ _ h1 hp0]
      · by_cases hik : i < cutN l.length
        · rw [climbB_left _ _ _ _ h1 hp0 hik]
          have ht : (l.take (cutN l.length)).length = cutN l.length := by simp; omega
          rw [pathB_left l i h2 hik] at hp
          have := ih (l.take (cutN l.length)) i (p.take (p.length - 1)) leaf (by omega) (by omega) (by simp at hp ⊢; omega)
          rw [ht] at this
          exact this
        · rw [climbB_right _ _ _ _ h1 hp0 hik]
          have ht : (l.drop (cutN l.length)).length = l.length - cutN l.length := by simp
          rw [pathB_right l i h2 hik] at hp
          have := ih (l.drop (cutN l.length)) (i - cutN l.length) (p.take (p.length - 1)) leaf (by omega) (by omega) (by simp at hp ⊢; omega)
          rw [ht] at this
          exact this
theorem verify_no (root s : ByteArray) (i n : Nat) (A : Option Addr) (np c : Nat) (p : List ByteArray) (w : World) (hn : n ≤ 1024) (hi : i < n) (hnp : np ≤ 1000000) (hs : s.size ≤ 999999) (h : Strs w A np c p) (hp : ∀ x ∈ p, x.size ≤ 1000000)
    (hno : (climbB (dig (⟨#[0]⟩ ++ s)) i n p).2 = false) :
    Calls Try.prog 24 #[.string root, .string s, .int .i64 (i : Int), .int .i64 (n : Int), .slice A np c] w (RetBC (false, 0) w) := by
  have := verify_in root s i n A np c p w hn hi hnp hs h hp
  rw [hno] at this
  exact this
theorem verify_yes (s : ByteArray) (i n : Nat) (A : Option Addr) (np c : Nat) (p : List ByteArray) (w : World) (R : ByteArray) (hn : n ≤ 1024) (hi : i < n) (hnp : np ≤ 1000000) (hs : s.size ≤ 999999) (h : Strs w A np c p) (hp : ∀ x ∈ p, x.size ≤ 1000000)
    (hyes : climbB (dig (⟨#[0]⟩ ++ s)) i n p = (R, true)) :
    Calls Try.prog 24 #[.string R, .string s, .int .i64 (i : Int), .int .i64 (n : Int), .slice A np c] w (RetBC (true, 0) w) := by
  have := verify_in R s i n A np c p w hn hi hnp hs h hp
  rw [hyes] at this
  simpa using this
theorem clone_any (A : Option Addr) (n c : Nat) (l : List ByteArray) (w : World) (h : Strs w A n c l) (hn : n ≤ 1000000) : Calls Try.prog 31 #[.slice A n c] w (RetOwn l w) := by
  rcases Nat.eq_zero_or_pos n with h0 | h0
  · subst h0
    have e : l = [] := List.eq_nil_of_length_eq_zero h.len
    subst e
    rcases A with _ | a
    · refine (Try.slices_Clone_string_nil 0 c w).mono ?_
      rintro e w' ⟨rfl, rfl⟩
      exact ⟨_, rfl, OwnS.nil _ _, Below.refl _ _⟩
    · refine (Try.slices_Clone_string_zero a c w).mono ?_
      rintro e w' ⟨v, rfl, ho, _, hb⟩
      exact ⟨v, rfl, ho, hb⟩
  · obtain ⟨b, o, rfl, _, hc⟩ := h.at_ h0
    refine (Try.slices_Clone_string b o n c l w (by rw [h.len]; omega) (by omega) (fun j hj => hc j (by rw [← h.len]; exact hj))).mono ?_
    rintro e w' ⟨v, rfl, ho, _, hb⟩
    refine ⟨v, rfl, ?_, hb⟩
    have hl := h.len
    rw [List.take_of_length_le (by omega)] at ho
    unfold OwnS
    rw [hl]
    exact ho
theorem OwnS.lower {B B' : Nat} {w : World} {v : Value} {l : List ByteArray} (h : OwnS B w v l) (hb : B' ≤ B) : OwnS B' w v l := by
  rcases h.2 with ⟨rfl, h0⟩ | ⟨g, cap, cur, rfl, hB, hr⟩
  · exact ⟨h.1, .inl ⟨rfl, h0⟩⟩
  · exact ⟨h.1, .inr ⟨g, cap, cur, rfl, Nat.le_trans hb hB, hr⟩⟩
theorem step_append_from {ops : Array Oper} {o : Oper} {a : Act} {K : Act → World → Prop} {Q : Exit → Act → World → Prop} {E : Prop} (hgd : o.guard = none) (s x : Operand)
    (ho : o.op = .call { callee := .builtin .append, args := #[s, x], argTypes := #[27, 27] })
    (B : Nat) (v : Value) (ns : List ByteArray) (w : World) (A : Option Addr) (m c : Nat) (zs : List ByteArray) (hs : a.eval s = v) (hown : OwnS B w v ns) (hx : a.eval x = .slice A m c) (hz : Strs w A m c zs)
    (hB : B ≤ w.heap.size) (hn : ns.length + m ≤ 8796093022208)
    (h : ∀ v' w', OwnS B w' v' (ns ++ zs) → Below B w w' → K (a.put o.dst v') w') :
    if Region.wanted o (yielded ops a.tmps) = true then Oper.wp Try.prog o a w K Q else E := by
  have hw : Region.wanted o (yielded ops a.tmps) = true := by simp [Region.wanted, hgd]
  rw [if_pos hw]
  exact op_append_from s x ho B v ns w A m c zs hs hown hx hz hB hn h
theorem pathB_pos (l : List ByteArray) (i : Nat) (h : 2 ≤ l.length) : 0 < (pathB l i).length := by
  by_cases hi : i < cutN l.length
  · rw [pathB_left l i h hi]; simp
  · rw [pathB_right l i h hi]; simp
theorem strs1p (w : World) (s : ByteArray) : Strs (w.alloc (.cells #[.string s] 9)) (some ⟨w.heap.size, 0, none⟩) 1 1 [s] :=
  ⟨rfl, Nat.le_refl _, by omega, fun _ => ⟨w.heap.size, 0, rfl, by simp, fun k hk => by
    obtain rfl : k = 0 := by omega
    rw [cell_of_row _ _ _ _ _ _ (heap_alloc_new w _)]; rfl⟩⟩
theorem belowP (w : World) (o : Obj) : Below w.heap.size w (w.alloc o) := (Below.refl _ _).alloc (Nat.le_refl _) _
set_option maxHeartbeats 4000000 in
set_option maxRecDepth 100000 in
theorem paths_law (A : Option Addr) (n c : Nat) (l : List ByteArray) (a : Int) (more : ByteArray) (w : World) (h : Strs w A n c l) (hl : ∀ x ∈ l, x.size ≤ 9223372036854775807) (wa : (Lit.int .u8 a).wf = true) (hm : more.size ≤ 9223372036854775807) :
    Calls Try.prog 9 #[.slice A n c, .int .u8 a, .string more] w fun e w' => e = .returned (.bool true) ∧ Below w.heap.size w w' := by
  have ha : 0 ≤ a ∧ a ≤ 255 := by simpa [Lit.wf, IntKind.min, IntKind.max, IntKind.signed, IntKind.bits] using wa
  obtain ⟨ha0, ha1⟩ := ha
  clear wa
  have hb1 : Below w.heap.size w (w.alloc (.cells #[.string more] 9)) := belowP _ _
  cases hg : greatB l
  · cases hgm : greatB [more]
    · obtain ⟨h12, h200⟩ := not_great l hg
      have hm200 := (not_great [more] hgm).2 more (by simp)
      have hlen := h.len
      have hn12 : n ≤ 12 := by omega
      rcases Nat.eq_zero_or_pos n with h0 | h0
      · subst h0
        go_enter Try.func9, Try.ntmps9
        go_wp2_with fail
        refine (great_any A 0 c l _ h hl).mono ?_
        rintro e w1 ⟨rfl, rfl⟩
        rw [hg]
        go_wp2_with fail
        refine (great_any _ 1 1 [more] _ (strs1p w more) (by simpa using hm)).mono ?_
        rintro e w1 ⟨rfl, rfl⟩
        rw [hgm]
        go_wp2_with fail
        refine (awake_any _).mono ?_
        rintro e w4 ⟨rfl, hb4⟩
        go_wp2_with fail
        go_ret
        exact ⟨rfl, hb1.trans (hb4.mono (by simp))⟩
      · have z : ∀ x ∈ l, x.size ≤ 1000000 := fun x hx => Nat.le_trans (h200 x hx) (by omega)
        have hd0 : ((n : Int) == 0) = false := beq_eq_false_iff_ne.2 (by omega)
        obtain ⟨k, hk⟩ : ∃ k : Nat, a % (n : Int) = (k : Int) := ⟨(a % (n : Int)).toNat, by have := Int.emod_nonneg a (show (n : Int) ≠ 0 by omega); omega⟩
        have hkn : k < n := by have := Int.emod_lt_of_pos a (show (0 : Int) < n by omega); omega
        have hx200 := h200 _ (getD_mem l k (by omega))
        have Z := Lib.hid (And.intro z (And.intro hlen (And.intro h12 h200)))
        clear z hlen h12 h200
        obtain ⟨b, o, rfl, hbb, hcell⟩ := h.at_ h0
        have hc0 := hcell k hkn
        clear hcell
        have hyes := climb_path l.length l k (Nat.le_refl _) (by rw [Z.out.2.1]; exact hkn)
        have hno := fun p leaf => climb_other l.length l k p leaf (Nat.le_refl _) (by rw [Z.out.2.1]; exact hkn)
        rw [Z.out.2.1] at hyes
        simp only [Z.out.2.1] at hno
        have hp1 := pathB_len l k
        rw [Z.out.2.1] at hp1
        have hps := pathB_size l k
        generalize hx : l.getD k ByteArray.empty = x at *
        generalize hP : pathB l k = P at *
        have HY := Lib.hid (And.intro hyes (And.intro hno (And.intro hps (And.intro hP hc0))))
        clear hyes hno hps hx hP hc0
        have hki : (k : Int) < (n : Int) := by omega
        go_enter Try.func9, Try.ntmps9
        go_wp2_with fail
        refine (great_any _ n c l _ h hl).mono ?_
        rintro e w1 ⟨rfl, rfl⟩
        rw [hg]
        go_wp2_with fail
        refine (great_any _ 1 1 [more] _ (strs1p w more) (by simpa using hm)).mono ?_
        rintro e w1' ⟨rfl, rfl⟩
        rw [hgm]
        go_wp2_with fail
        have h1 := h.below hb1
        generalize hw2 : w.alloc (.cells #[.string more] 9) = w2 at *
        clear hw2
        refine (Root_any _ n c l _ (by omega) h1 Z.out.1).mono ?_
        rintro e w3 ⟨rfl, hb3⟩
        have b3 : Below w.heap.size w w3 := hb1.trans (hb3.mono hb1.size)
        clear hb3 h1
        go_wp2_with fail
        refine (Path_any _ n c l k _ hkn (by omega) (h.below b3) Z.out.1).mono ?_
        rintro e w4 ⟨v4, rfl, ho4, hb4⟩
        have b4 : Below w.heap.size w w4 := b3.trans (hb4.mono b3.size)
        rw [HY.out.2.2.2.1] at ho4
        obtain ⟨A4, c4, rfl, hs4⟩ := ho4.strs
        clear ho4 hb4
        obtain ⟨np, hnp⟩ : ∃ np, np = P.length := ⟨_, rfl⟩
        rw [← hnp] at hs4 hp1 ⊢
        have HNP := Lib.hid hnp
        clear hnp
        have hc4 : w4.cell? ⟨b, o + k, none⟩ = some (.string x) := by rw [b4.cell (by simpa using hbb)]; exact HY.out.2.2.2.2
        have hbb4 : b < w4.heap.size := Nat.lt_of_lt_of_le hbb b4.size
        go_wp2_with fail
        refine (verify_yes x k n A4 np c4 P _ (rootB l) (by omega) hkn (by omega) (by omega) hs4 (fun y hy => Nat.le_trans (HY.out.2.2.1 y hy) (by omega)) HY.out.1).mono ?_
        rintro e w5 ⟨rfl, hb5⟩
        have b5 : Below w.heap.size w w5 := b4.trans (hb5.mono b4.size)
        have hs5 := hs4.below hb5
        have hc5 : w5.cell? ⟨b, o + k, none⟩ = some (.string x) := by rw [hb5.cell (by simpa using hbb4)]; exact hc4
        have hbb5 : b < w5.heap.size := Nat.lt_of_lt_of_le hbb4 hb5.size
        clear hc4 hbb4 hs4 hb5
        go_upto_region 9 with fail
        have hcl : ∃ R : Ending → World → Prop, Calls Try.prog 31 #[.slice A4 np c4] w5.drew R ∧ ∀ e w6, R e w6 → ∃ v6, e = .returned v6 ∧ OwnS w5.heap.size w6 v6 P ∧ Below w5.heap.size w5 w6 ∧ w6.cell? ⟨b, o + k, none⟩ = some (.string x) ∧ (w6.alloc (.cells #[.string more] 9)).cell? ⟨b, o + k, none⟩ = some (.string x) := by
          refine ⟨_, clone_any A4 np c4 P _ (Strs.drew hs5) (by omega), ?_⟩
          rintro e w6 ⟨v6, rfl, ho6, hb6'⟩
          have hb6 := below_undrew hb6'
          have hc6 : w6.cell? ⟨b, o + k, none⟩ = some (.string x) := by rw [hb6.cell (by simpa using hbb5)]; exact hc5
          exact ⟨v6, rfl, ho6, hb6, hc6, by rw [(belowP w6 _).cell (by have := hb6.size; simp; omega)]; exact hc6⟩
        obtain ⟨R6, hR6, hR6'⟩ := hcl
        have HR6 := Lib.hid (And.intro hR6 hR6')
        have hap : ∀ (w6 w7 : World) (v7 : Value), Below w5.heap.size w5 w6 → w6.cell? ⟨b, o + k, none⟩ = some (.string x) → OwnS w5.heap.size w7 v7 (P ++ [more]) → Below w5.heap.size w6 w7 →
            ∃ A7 c7, v7 = .slice A7 (np + 1) c7 ∧ Strs w7 A7 (np + 1) c7 (P ++ [more]) ∧ w7.cell? ⟨b, o + k, none⟩ = some (.string x) ∧ Below w5.heap.size w5 w7 := by
          intro w6 w7 v7 h6 hc6 ho7 hb7
          obtain ⟨A7, c7, rfl, hs7⟩ := ho7.strs
          have hl7 : (P ++ [more]).length = np + 1 := by rw [List.length_append, ← HNP.out]; rfl
          rw [hl7] at hs7 ⊢
          exact ⟨A7, c7, rfl, hs7, by rw [hb7.cell (by simpa using hbb5)]; exact hc6, h6.trans hb7⟩
        have HAP := Lib.hid hap
        have hvn : ∀ (A7 : Option Addr) (c7 : Nat) (w7 : World), Strs w7 A7 (np + 1) c7 (P ++ [more]) → Calls Try.prog 24 #[.string (rootB l), .string x, .int .i64 (k : Int), .int .i64 (n : Int), .slice A7 (np + 1) c7] w7 (RetBC (false, 0) w7) := by
          intro A7 c7 w7 hs7
          refine verify_no (rootB l) x k n A7 (np + 1) c7 (P ++ [more]) _ (by omega) hkn (by omega) (by omega) hs7 ?_ (HY.out.2.1 (P ++ [more]) _ (by simp))
          intro y hy
          rcases List.mem_append.1 hy with hy | hy
          · exact Nat.le_trans (HY.out.2.2.1 y hy) (by omega)
          · simp at hy; subst hy; omega
        have HVN := Lib.hid hvn
        have hcl2 : ∃ R : Ending → World → Prop, Calls Try.prog 31 #[.slice A4 np c4] (w5.alloc (.cells #[.string more] 9)).drew R ∧ ∀ e w6, R e w6 → ∃ v6, e = .returned v6 ∧ OwnS w5.heap.size w6 v6 P ∧ Below w5.heap.size w5 w6 ∧ w6.cell? ⟨b, o + k, none⟩ = some (.string x) ∧ Strs w6 (some ⟨w5.heap.size, 0, none⟩) 1 1 [more] := by
          have hba := belowP w5 (.cells #[.string more] 9)
          refine ⟨_, clone_any A4 np c4 P _ (Strs.drew (hs5.below hba)) (by omega), ?_⟩
          rintro e w6 ⟨v6, rfl, ho6, hb6'⟩
          have hb6 := below_undrew hb6'
          have hb56 := hba.trans (hb6.mono hba.size)
          exact ⟨v6, rfl, OwnS.lower ho6 (by simp), hb56, by rw [hb56.cell (by simpa using hbb5)]; exact hc5, (strs1p w5 more).below hb6⟩
        obtain ⟨R7, hR7, hR7'⟩ := hcl2
        have HR7 := Lib.hid (And.intro hR7 hR7')
        have hne5 : (w5.alloc (.cells #[.string more] 9)).cell? ⟨b, o + k, none⟩ = some (.string x) := by rw [(belowP w5 _).cell (by simpa using hbb5)]; exact hc5
        clear hR6 hR6' hap hvn hR7 hR7'
        go_cut [14, 15] (fun s14 s15 wx => s14 = .bool false ∧ s15 = .int .i64 0 ∧ Below w5.heap.size w5 wx)
        case first =>
          go_region_law (first
            | (refine step_append_strs rfl (.tmp 76) (.tmp 78) rfl w5.heap.size _ P w6 [more] rfl ho6 rfl hb6.size (by have := HNP.out; simp; omega) ?_; intro v7 w7 ho7 hb7; obtain ⟨A7, c7, rfl, hs7, hc7, b57⟩ := HAP.out w6 w7 v7 hb6 hc6 ho7 hb7)
            | (refine step_append_from rfl (.tmp 76) (.tmp 78) rfl w5.heap.size _ P w6 _ 1 1 [more] rfl ho6 rfl hs6 hb6.size (by have := HNP.out; simp; omega) ?_; intro v7 w7 ho7 hb7; obtain ⟨A7, c7, rfl, hs7, hc7, b57⟩ := HAP.out w6 w7 v7 hb6 hc6 ho7 hb7)
            | (go_simp; go_at_call 31; with_reducible refine HR6.out.1.mono ?_; intro e w6 hq6; obtain ⟨v6, rfl, ho6, hb6, hc6, hne6⟩ := HR6.out.2 e w6 hq6)
            | (go_simp; go_at_call 31; with_reducible refine HR7.out.1.mono ?_; intro e w6 hq6; obtain ⟨v6, rfl, ho6, hb6, hc6, hs6⟩ := HR7.out.2 e w6 hq6)
            | (go_simp; go_at_call 24; refine (HVN.out A7 c7 w7 hs7).mono ?_; rintro e w8 ⟨rfl, hb8⟩))
          all_goals (go_wp2_with fail; go_meet; exact ⟨rfl, rfl, b57.trans (hb8.mono b57.size)⟩)
        case rest =>
          obtain ⟨rfl, rfl, hb8⟩ := hcut
          have b8 : Below w.heap.size w wc := b5.trans (hb8.mono b5.size)
          have hs8 := hs5.below hb8
          have hc8 : wc.cell? ⟨b, o + k, none⟩ = some (.string x) := by rw [hb8.cell (by simpa using hbb5)]; exact hc5
          clear hne5 HR6 HR7 HAP HVN
          rcases Nat.eq_zero_or_pos np with q0 | q0
          · have hdp : decide (0 < (np : Int)) = false := by simp; omega
            have hn1 : n = 1 := by
              have hpp := pathB_pos l k
              rw [Z.out.2.1, HY.out.2.2.2.1, ← HNP.out] at hpp
              omega
            have hd1 : ((n : Int) == 1) = true := beq_iff_eq.2 (by omega)
            clear hn1
            go_wp2_with fail
            refine (awake_any _).mono ?_
            rintro e w9 ⟨rfl, hb9⟩
            go_wp2_with fail
            go_ret
            exact ⟨rfl, b8.trans (hb9.mono b8.size)⟩
          · have hdp : decide (0 < (np : Int)) = true := by simp; omega
            obtain ⟨b2, o2, rfl, _, _⟩ := hs8.at_ q0
            have hcap8 := hs8.cap
            have hs9 : Strs wc (if c4 = 1 then some ⟨b2, o2, none⟩ else some ⟨b2, o2 + 1, none⟩) (np - 1) (c4 - 1) (P.drop 1) := by
              split
              · exact ⟨by have := hs8.len; simp; omega, by omega, by omega, fun hh => by omega⟩
              · exact hs8.drop 1 (by omega)
            have hv9 : ∀ (A9 : Option Addr) (W : World), Strs W A9 (np - 1) (c4 - 1) (P.drop 1) → Calls Try.prog 24 #[.string (rootB l), .string x, .int .i64 (k : Int), .int .i64 (n : Int), .slice A9 (np - 1) (c4 - 1)] W (RetBC (false, 0) W) := by
              intro A9 W hW
              refine verify_no (rootB l) x k n _ (np - 1) (c4 - 1) (P.drop 1) _ (by omega) hkn (by omega) (by omega) hW (fun y hy => Nat.le_trans (HY.out.2.2.1 y (List.mem_of_mem_drop hy)) (by omega)) (HY.out.2.1 (P.drop 1) _ (by have := HNP.out; simp; omega))
            have HV9 := Lib.hid (And.intro hs9 hv9)
            have hb1c : (1 : Int) ≤ (c4 : Int) := by omega
            have hb1n : (1 : Int) ≤ (np : Int) := by omega
            · clear hs9 hv9
              go_upto_region 13 with fail
              go_cut [16, 17] (fun s16 s17 wx => s16 = .bool false ∧ s17 = .int .i64 0 ∧ Below wc.heap.size wc wx)
              case first =>
                go_region_law (go_simp; go_at_call 24; refine (HV9.out.2 _ _ (Strs.drew HV9.out.1)).mono ?_; rintro e w9 ⟨rfl, hb9⟩)
                all_goals (generalize (if c4 = 1 then some (⟨b2, o2, none⟩ : Addr) else some ⟨b2, o2 + 1, none⟩) = A9 at *; go_wp2_with fail; go_meet; exact ⟨rfl, rfl, below_undrew hb9⟩)
              case rest =>
                obtain ⟨rfl, rfl, hb9⟩ := hcut
                have b9 : Below w.heap.size w _ := b8.trans (hb9.mono b8.size)
                go_wp2_with fail
                refine (awake_any _).mono ?_
                rintro e w10 ⟨rfl, hb10⟩
                go_wp2_with fail
                go_ret
                exact ⟨rfl, b9.trans (hb10.mono b9.size)⟩
    · go_enter Try.func9, Try.ntmps9
      go_wp2_with fail
      refine (great_any A n c l _ h hl).mono ?_
      rintro e w1 ⟨rfl, rfl⟩
      rw [hg]
      go_wp2_with fail
      refine (great_any _ 1 1 [more] _ (strs1p w more) (by simpa using hm)).mono ?_
      rintro e w1 ⟨rfl, rfl⟩
      rw [hgm]
      go_wp2_with fail
      refine (awake_any _).mono ?_
      rintro e w2 ⟨rfl, hb2⟩
      go_wp2_with fail
      go_ret
      exact ⟨rfl, hb1.trans (hb2.mono (by simp))⟩
  · go_enter Try.func9, Try.ntmps9
    go_wp2_with fail
    refine (great_any A n c l _ h hl).mono ?_
    rintro e w1 ⟨rfl, rfl⟩
    rw [hg]
    go_wp2_with fail
    refine (awake_any _).mono ?_
    rintro e w2 ⟨rfl, hb2⟩
    go_wp2_with fail
    go_ret
    exact ⟨rfl, hb2⟩
end Go.Proofs.Ytlgpdmejnabinaa
