/- The walk of DigestTrees. -/
import Derived.Test.YtlgpdmejnabinaaRefGreat
import Derived.Test.YtlgpdmejnabinaaGrow
namespace Go.Proofs.Ytlgpdmejnabinaa
open Go.RowKit

theorem Grow_big (A : Option Addr) (n c : Nat) (i : Int) (w : World) (hn : 1024 < n) (hm : n ≤ 9223372036854775807) :
    Calls Try.prog 27 #[.slice A n c, .int .i64 i] w (RetS [] 4 w) := by
  have hd : decide (1024 < (n : Int)) = true := by simp; omega
  go_enter Try.func27, Try.ntmps27
  go_wp2_with fail
  go_ret2
  exact ⟨_, rfl, OwnS.nil _ _, Below.refl _ _⟩
theorem Grow_neg (A : Option Addr) (n c : Nat) (i : Int) (w : World) (hn : n ≤ 1024) (hi : i < 0) :
    Calls Try.prog 27 #[.slice A n c, .int .i64 i] w (RetS [] 2 w) := by
  have hd : decide (1024 < (n : Int)) = false := by simp; omega
  have hd1 : decide (i < 0) = true := by simpa using hi
  go_enter Try.func27, Try.ntmps27
  go_wp2_with fail
  go_ret2
  exact ⟨_, rfl, OwnS.nil _ _, Below.refl _ _⟩
theorem Grow_out (A : Option Addr) (n c : Nat) (i : Int) (w : World) (hn : n ≤ 1024) (hi : 0 ≤ i) (hin : (n : Int) < i) :
    Calls Try.prog 27 #[.slice A n c, .int .i64 i] w (RetS [] 2 w) := by
  have hd : decide (1024 < (n : Int)) = false := by simp; omega
  have hd1 : decide (i < 0) = false := by simp; omega
  have hd2 : decide ((n : Int) < i) = true := by simpa using hin
  go_enter Try.func27, Try.ntmps27
  go_wp2_with fail
  go_ret2
  exact ⟨_, rfl, OwnS.nil _ _, Below.refl _ _⟩
set_option maxHeartbeats 4000000 in
set_option maxRecDepth 100000 in
theorem trees_walk (A : Option Addr) (n c : Nat) (i k : Int) (X : ByteArray) (P G : List ByteArray) (cx cp cg : Int) (w : World)
    (h0 : Calls Try.prog 16 #[.slice A n c, .int .i64 1024] w fun e w' => e = .returned (.bool false) ∧ w = w')
    (h1 : ∀ W, Below w.heap.size w W → Calls Try.prog 22 #[.slice A n c] W (RetStr X cx W))
    (h2 : ∀ W, Below w.heap.size w W → Calls Try.prog 32 #[.slice A n c] W (RetStr X cx W))
    (h3 : ∀ W, Below w.heap.size w W → Calls Try.prog 30 #[.slice A n c, .int .i64 i] W (RetS P cp W))
    (h4 : ∀ W, Below w.heap.size w W → Calls Try.prog 33 #[.slice A n c, .int .i64 i] W (RetS P cp W))
    (h5 : ∀ W, Below w.heap.size w W → Calls Try.prog 27 #[.slice A n c, .int .i64 k] W (RetS G cg W))
    (h6 : ∀ W, Below w.heap.size w W → Calls Try.prog 34 #[.slice A n c, .int .i64 k] W (RetS G cg W)) :
    Calls Try.prog 10 #[.slice A n c, .int .i64 i, .int .i64 k] w fun e w' => e = .returned (.bool true) ∧ Below w.heap.size w w' := by
  have H := Lib.hid (And.intro h0 (And.intro h1 (And.intro h2 (And.intro h3 (And.intro h4 (And.intro h5 h6))))))
  clear h0 h1 h2 h3 h4 h5 h6
  go_enter Try.func10, Try.ntmps10
  go_wp2_with fail
  refine H.out.1.mono ?_
  rintro e w0 ⟨rfl, rfl⟩
  go_wp2_with fail
  refine (H.out.2.1 _ (Below.refl _ _)).mono ?_
  rintro e w1 ⟨rfl, b1⟩
  go_wp2_with fail
  refine (H.out.2.2.1 _ b1).mono ?_
  rintro e w2 ⟨rfl, b2'⟩
  have b2 := b1.trans (b2'.mono b1.size)
  go_wp2_with fail
  refine (H.out.2.2.2.1 _ b2).mono ?_
  rintro e w3 ⟨v3, rfl, o3, b3'⟩
  have b3 := b2.trans (b3'.mono b2.size)
  go_wp2_with fail
  refine (H.out.2.2.2.2.1 _ b3).mono ?_
  rintro e w4 ⟨v4, rfl, o4, b4'⟩
  have b4 := b3.trans (b4'.mono b3.size)
  go_wp2_with fail
  refine (H.out.2.2.2.2.2.1 _ b4).mono ?_
  rintro e w5 ⟨v5, rfl, o5, b5'⟩
  have b5 := b4.trans (b5'.mono b4.size)
  go_wp2_with fail
  refine (H.out.2.2.2.2.2.2 _ b5).mono ?_
  rintro e w6 ⟨v6, rfl, o6, b6'⟩
  have b6 := b5.trans (b6'.mono b5.size)
  obtain ⟨A3, c3, rfl, s3⟩ := (((o3.below b4').below b5').below b6').strs
  obtain ⟨A4, c4, rfl, s4⟩ := ((o4.below b5').below b6').strs
  obtain ⟨A5, c5, rfl, s5⟩ := (o5.below b6').strs
  obtain ⟨A6, c6, rfl, s6⟩ := o6.strs
  have E1 := Lib.hid (equal_any A3 A4 _ c3 _ c4 P P w6 s3 s4)
  have E2 := Lib.hid (fun W (hW : Below w6.heap.size w6 W) => equal_any A5 A6 _ c5 _ c6 G G W (s5.below hW) (s6.below hW))
  have B6 := Lib.hid b6
  simp only [decide_true] at E1 E2
  clear H o3 o4 o5 o6 s3 s4 s5 s6 b1 b2 b2' b3 b3' b4 b4' b5 b5' b6 b6'
  generalize P.length = np at *
  generalize G.length = ng at *
  go_wp2_with fail
  refine E1.out.mono ?_
  rintro e w7 ⟨rfl, b7⟩
  go_wp2_with fail
  refine (E2.out _ b7).mono ?_
  rintro e w8 ⟨rfl, b8'⟩
  have b8 := b7.trans (b8'.mono b7.size)
  have B8 := B6.out.trans (b8.mono B6.out.size)
  go_wp2_with fail
  refine (awake_any _).mono ?_
  rintro e w9 ⟨rfl, b9⟩
  go_wp2_with fail
  go_ret
  exact ⟨rfl, B8.trans (b9.mono B8.size)⟩
theorem tr_great (l : List ByteArray) (h : greatB l = false) : l.length ≤ 12 ∧ ∀ x ∈ l, x.size ≤ 200 := by
  simp only [greatB, Bool.or_eq_false_iff, decide_eq_false_iff_not, List.any_eq_false] at h
  refine ⟨by omega, fun x hx => ?_⟩
  have := h.2 x hx
  simp only [big, decide_eq_true_eq] at this
  omega
theorem tr_many (l : List ByteArray) (limit : Nat) (h : manyB l limit = false) (_h12 : 12 ≤ limit) : (∀ x ∈ l, x.size ≤ 200) ∧ (l.length ≤ 12 ∨ limit < l.length) := by
  simp only [manyB, Bool.and_eq_false_iff, Bool.or_eq_false_iff, decide_eq_false_iff_not, List.any_eq_false] at h
  rcases h with h | ⟨⟨h1, h2⟩, h3⟩
  · have := tr_great l h
    exact ⟨this.2, .inl this.1⟩
  · refine ⟨fun x hx => ?_, .inr (by omega)⟩
    have := h3 x hx
    have h0 : x.toList.isEmpty = true := by simpa [filled] using this
    rw [← decide_eq_emptyBytes x] at h0
    have hz : x = ByteArray.empty := of_decide_eq_true h0
    rw [hz]
    exact Nat.zero_le _
set_option maxHeartbeats 1000000 in
theorem trees_law (A : Option Addr) (n c : Nat) (l : List ByteArray) (i k : Int) (w : World) (h : Strs w A n c l) (hl : ∀ x ∈ l, x.size ≤ 9223372036854775807) :
    Calls Try.prog 10 #[.slice A n c, .int .i64 i, .int .i64 k] w fun e w' => e = .returned (.bool true) ∧ Below w.heap.size w w' := by
  have HM := many_any A n c l w h hl 1024 (by omega)
  have hlen := h.len
  have htop := h.top
  cases hb : manyB l 1024
  · rw [hb] at HM
    obtain ⟨h200, hn⟩ := tr_many l 1024 hb (by omega)
    have z : ∀ x ∈ l, x.size ≤ 1000000 := fun x hx => Nat.le_trans (h200 x hx) (by omega)
    rw [hlen] at hn
    rcases hn with hn | hn
    · have hn' : n ≤ 1024 := by omega
      have h3 : ∃ P cp, (∀ W, Below w.heap.size w W → Calls Try.prog 30 #[.slice A n c, .int .i64 i] W (RetS P cp W)) ∧ (∀ W, Below w.heap.size w W → Calls Try.prog 33 #[.slice A n c, .int .i64 i] W (RetS P cp W)) := by
        by_cases h0 : i < 0
        · exact ⟨[], 2, fun W _ => Path_neg A n c i W hn' h0, fun W _ => RefPath_neg A n c i W hn' h0⟩
        · by_cases h1 : (n : Int) ≤ i
          · exact ⟨[], 2, fun W _ => Path_out A n c i W hn' (by omega) h1, fun W _ => RefPath_out A n c i W hn' (by omega) h1⟩
          · obtain ⟨j, rfl⟩ : ∃ j : Nat, i = (j : Int) := ⟨i.toNat, by omega⟩
            exact ⟨pathB l j, 0, fun W hW => Path_any A n c l j W (by omega) hn' (h.below hW) z, fun W hW => RefPath_any A n c l j W (by omega) hn' (h.below hW) z⟩
      have h5 : ∃ G cg, (∀ W, Below w.heap.size w W → Calls Try.prog 27 #[.slice A n c, .int .i64 k] W (RetS G cg W)) ∧ (∀ W, Below w.heap.size w W → Calls Try.prog 34 #[.slice A n c, .int .i64 k] W (RetS G cg W)) := by
        by_cases h0 : k < 0
        · exact ⟨[], 2, fun W _ => Grow_neg A n c k W hn' h0, fun W _ => RefGrow_neg A n c k W hn' h0⟩
        · by_cases h1 : (n : Int) < k
          · exact ⟨[], 2, fun W _ => Grow_out A n c k W hn' (by omega) h1, fun W _ => RefGrow_out A n c k W hn' (by omega) h1⟩
          · obtain ⟨j, rfl⟩ : ∃ j : Nat, k = (j : Int) := ⟨k.toNat, by omega⟩
            have hj : j ≤ n := by omega
            refine ⟨visitB l j true 0 n ++ visitB l j false 0 n, 0, fun W hW => ?_, fun W hW => RefGrow_any A n c j l W hn' hj (h.below hW) z⟩
            exact Grow_any A n c j l W hn' hj (h.below hW) z 1024 (Nat.le_trans (visitN _ l j true 0 n) (by omega)) (Nat.le_trans (visitN _ l j false 0 n) (by omega)) (by omega)
      obtain ⟨P, cp, p1, p2⟩ := h3
      obtain ⟨G, cg, g1, g2⟩ := h5
      exact trees_walk A n c i k (rootB l) P G 0 cp cg w HM (fun W hW => Root_any A n c l W hn' (h.below hW) z) (fun W hW => RefRoot_any A n c l W hn' (h.below hW) z) p1 p2 g1 g2
    · exact trees_walk A n c i k ⟨#[]⟩ [] [] 4 4 4 w HM (fun W _ => Root_many A n c W hn htop) (fun W _ => RefRoot_many A n c W hn htop) (fun W _ => Path_big A n c i W hn htop) (fun W _ => RefPath_big A n c i W hn htop) (fun W _ => Grow_big A n c k W hn htop) (fun W _ => RefGrow_big A n c k W hn htop)
  · rw [hb] at HM
    have HM := Lib.hid HM
    clear h hl hb hlen
    go_enter Try.func10, Try.ntmps10
    go_wp2_with fail
    refine HM.out.mono ?_
    rintro e w1 ⟨rfl, rfl⟩
    go_wp2_with fail
    refine (awake_any _).mono ?_
    rintro e w4 ⟨rfl, hb4⟩
    go_wp2_with fail
    go_ret
    exact ⟨rfl, hb4⟩
theorem trees_row (A : Option Addr) (n c : Nat) (l : List ByteArray) (i k : Int) (w : World) (h : Strs w A n c l) (hl : ∀ x ∈ l, x.size ≤ 9223372036854775807) (_ : (Lit.int .i64 i).wf = true) (_ : (Lit.int .i64 k).wf = true) :
    Calls Try.prog 10 #[.slice A n c, .int .i64 i, .int .i64 k] w fun e w' => e = .returned (.bool true) ∧ Below w.heap.size w w' := trees_law A n c l i k w h hl
end Go.Proofs.Ytlgpdmejnabinaa
