/- The walk of rebuild. -/
import Derived.Test.YtlgpdmejnabinaaGrowP
import Derived.Test.YtlgpdmejnabinaaPath
import Derived.Test.YtlgpdmejnabinaaClimb
import Derived.Test.YtlgpdmejnabinaaRoots
import Derived.Outline
namespace Go.Proofs.Ytlgpdmejnabinaa
open Go.RowKit

def RetRB (x : ByteArray) (r1 r2 : List ByteArray) (w : World) (e : Ending) (w' : World) : Prop :=
  ∃ A1 c1 A2 c2, e = .returned (.tuple #[.string x, .slice A1 r1.length c1, .slice A2 r2.length c2, .bool true]) ∧ Strs w' A1 r1.length c1 r1 ∧ Strs w' A2 r2.length c2 r2 ∧ Below w.heap.size w w'
theorem strs_tail {w : World} {b o p d : Nat} {x : ByteArray} {r : List ByteArray} (h : Strs w (some ⟨b, o, none⟩) (p + 1) (d + 1) (x :: r)) : Strs w (if d = 0 then some ⟨b, o, none⟩ else some ⟨b, o + 1, none⟩) p d r := by
  have h1 := h.drop 1 (by omega)
  by_cases hd : d = 0
  · have hp : p = 0 := by have := h.cap; omega
    subst hd hp
    refine ⟨by have := h.len; simpa using this, by omega, by omega, fun hh => by omega⟩
  · rw [if_neg hd]
    exact h1
theorem Strs.drewN {w : World} {A : Option Addr} {n c : Nat} {l : List ByteArray} (h : Strs w A n c l) (q : Nat) : Strs (w.drewN q) A n c l := ⟨h.len, h.cap, h.top, h.at_⟩
theorem below_drewN (w : World) (q : Nat) : Below w.heap.size w (w.drewN q) := ⟨rfl, rfl, rfl, Nat.le_refl _, fun _ _ => rfl⟩
set_option maxHeartbeats 2000000 in
set_option maxRecDepth 100000 in
theorem rebuild_low (N : Nat) (t : Int) (x : ByteArray) (b o p d : Nat) (A2 : Option Addr) (n2 c2 : Nat) (r1 r2 : List ByteArray) (w : World) (hN : N ≤ 1000000) (ht : (N : Int) ≤ t) (h1 : Strs w (some ⟨b, o, none⟩) (p + 1) (d + 1) (x :: r1)) (h2 : Strs w A2 n2 c2 r2) :
    Calls Try.prog 28 #[.int .i64 (N : Int), .int .i64 t, .slice (some ⟨b, o, none⟩) (p + 1) (d + 1), .slice A2 n2 c2] w (RetRB x r1 r2 w) := by
  have HT := Lib.hid (strs_tail h1)
  have H2 := Lib.hid h2
  have hlen : r1.length = p := by have := h1.len; simpa using this
  have hlen2 := h2.len
  have hcap : (p : Int) + 1 ≤ (d : Int) + 1 := by have := h1.cap; omega
  obtain ⟨b', o', he, hbb, hcell⟩ := h1.at_ (by omega)
  cases he
  have hc := hcell 0 (by omega)
  simp at hc
  have hd1 : decide ((N : Int) ≤ t) = true := by simpa using ht
  have d0 : ((p : Int) + 1 == 0) = false := beq_eq_false_iff_ne.2 (by omega)
  have i1 : (1 : Int) ≤ (p : Int) + 1 := by omega
  have HE := Lib.hid (And.intro hlen hlen2)
  clear hcell h1 h2 hlen hlen2
  obtain ⟨A', hA'⟩ : ∃ A', (if d = 0 then (some ⟨b, o, none⟩ : Option Addr) else some ⟨b, o + 1, none⟩) = A' := ⟨_, rfl⟩
  rw [hA'] at HT
  go_enter Try.func28, Try.ntmps28
  go_wp2_with fail
  go_quiet (fail)
  go_wp2_with fail
  refine bodyPost_ret (v := .tuple #[.string x, .slice A' p d, .slice A2 n2 c2, .bool true]) (by simp [results, Try.results28, go_sem]) rfl ⟨A', d, A2, c2, by rw [HE.out.1, HE.out.2], ?_, ?_, ?_⟩
  · rw [HE.out.1]; exact HT.out.drewN _
  · rw [HE.out.2]; exact H2.out.drewN _
  · exact below_drewN _ _
set_option maxHeartbeats 2000000 in
set_option maxRecDepth 100000 in
theorem rebuild_high (N : Nat) (t : Int) (x : ByteArray) (b o p d : Nat) (A2 : Option Addr) (n2 c2 : Nat) (r1 r2 : List ByteArray) (w : World) (hN : N ≤ 1000000) (ht : t < (N : Int)) (ht0 : t ≤ 0) (h1 : Strs w (some ⟨b, o, none⟩) (p + 1) (d + 1) (x :: r1)) (h2 : Strs w A2 n2 c2 r2) :
    Calls Try.prog 28 #[.int .i64 (N : Int), .int .i64 t, .slice A2 n2 c2, .slice (some ⟨b, o, none⟩) (p + 1) (d + 1)] w (RetRB x r2 r1 w) := by
  have HT := Lib.hid (strs_tail h1)
  have H2 := Lib.hid h2
  have hlen : r1.length = p := by have := h1.len; simpa using this
  have hlen2 := h2.len
  have hcap : (p : Int) + 1 ≤ (d : Int) + 1 := by have := h1.cap; omega
  obtain ⟨b', o', he, hbb, hcell⟩ := h1.at_ (by omega)
  cases he
  have hc := hcell 0 (by omega)
  simp at hc
  have hd1 : decide ((N : Int) ≤ t) = false := by simp; omega
  have hd2 : decide (t ≤ 0) = true := by simpa using ht0
  have d0 : ((p : Int) + 1 == 0) = false := beq_eq_false_iff_ne.2 (by omega)
  have i1 : (1 : Int) ≤ (p : Int) + 1 := by omega
  have HE := Lib.hid (And.intro hlen hlen2)
  clear hcell h1 h2 hlen hlen2
  obtain ⟨A', hA'⟩ : ∃ A', (if d = 0 then (some ⟨b, o, none⟩ : Option Addr) else some ⟨b, o + 1, none⟩) = A' := ⟨_, rfl⟩
  rw [hA'] at HT
  go_enter Try.func28, Try.ntmps28
  go_wp2_with fail
  go_quiet (fail)
  go_wp2_with fail
  refine bodyPost_ret (v := .tuple #[.string x, .slice A2 n2 c2, .slice A' p d, .bool true]) (by simp [results, Try.results28, go_sem]) rfl ⟨A2, c2, A', d, by rw [HE.out.1, HE.out.2], ?_, ?_, ?_⟩
  · rw [HE.out.2]; exact H2.out.drewN _
  · rw [HE.out.1]; exact HT.out.drewN _
  · exact below_drewN _ _
set_option maxHeartbeats 2000000 in
set_option maxRecDepth 100000 in
theorem rebuild_mid (N k : Nat) (t : Int) (A1 A2 : Option Addr) (n1 c1 n2 c2 : Nat) (x y : ByteArray) (m1 m2 r1 r2 : List ByteArray) (w : World) (hN : N ≤ 1000000) (ht : 0 < t) (ht' : t < (N : Int)) (hk : k = cutN N) (hkN : k < N) (hx : x.size ≤ 1000000) (hy : y.size ≤ 1000000)
    (hc1 : Calls Try.prog 28 #[.int .i64 (k : Int), .int .i64 t, .slice A1 n1 c1, .slice A2 n2 c2] w (RetRB x m1 m2 w))
    (hc2 : ∀ W B1 e1 B2 e2, Strs W B1 m1.length e1 m1 → Strs W B2 m2.length e2 m2 → Calls Try.prog 28 #[.int .i64 ((N - k : Nat) : Int), .int .i64 (t - (k : Int)), .slice B1 m1.length e1, .slice B2 m2.length e2] W (RetRB y r1 r2 W)) :
    Calls Try.prog 28 #[.int .i64 (N : Int), .int .i64 t, .slice A1 n1 c1, .slice A2 n2 c2] w (RetRB (nodeB x y) r1 r2 w) := by
  have hd1 : decide ((N : Int) ≤ t) = false := by simp; omega
  have hd2 : decide (t ≤ 0) = false := by simp; omega
  have hhalf : ∀ W, Calls Try.prog 23 #[.int .i64 (N : Int)] W fun e w' => e = .returned (.int .i64 (k : Int)) ∧ w' = W := fun W => by rw [hk]; exact half_any N W (by omega)
  have HH := Lib.hid hhalf
  have H1 := Lib.hid hc1
  obtain ⟨N', hN'⟩ : ∃ N' : Nat, N - k = N' := ⟨_, rfl⟩
  obtain ⟨t', ht2⟩ : ∃ t' : Int, t - (k : Int) = t' := ⟨_, rfl⟩
  rw [hN', ht2] at hc2
  have hw : (N : Int) - (k : Int) = (N' : Int) := by omega
  have H2 := Lib.hid hc2
  clear hc1 hc2 hhalf hN' hk
  go_enter Try.func28, Try.ntmps28
  go_wp2_with fail
  refine (HH.out _).mono ?_
  rintro e w1 ⟨rfl, rfl⟩
  go_wp2_with fail
  refine H1.out.mono ?_
  rintro e w2 ⟨B1, e1, B2, e2, rfl, s1, s2, hb2⟩
  have S := Lib.hid (And.intro s1 s2)
  clear s1 s2
  go_wp2_with fail
  refine (H2.out _ _ _ _ _ S.out.1 S.out.2).mono ?_
  rintro e w3 ⟨D1, f1, D2, f2, rfl, s1, s2, hb3⟩
  have T := Lib.hid (And.intro s1 s2)
  clear s1 s2
  go_wp2_with fail
  refine (sum_dig _ _ (by simp only [append_size]; have : (⟨#[1]⟩ : ByteArray).size = 1 := rfl; omega)).mono ?_
  rintro e w4 ⟨rfl, hb4⟩
  go_wp2_with fail
  have hb23 := hb2.trans (hb3.mono hb2.size)
  refine bodyPost_ret (v := .tuple #[.string (nodeB x y), .slice D1 r1.length f1, .slice D2 r2.length f2, .bool true]) (by simp [results, Try.results28, go_sem, nodeB]) rfl ⟨D1, f1, D2, f2, rfl, T.out.1.below hb4, T.out.2.below hb4, hb23.trans (hb4.mono hb23.size)⟩
theorem rebuild_any (m : Nat) (l : List ByteArray) (k : Nat) (hl : l.length ≤ 1000000) (hk : k ≤ 1000000) : ∀ (a b : Nat) (A1 A2 : Option Addr) (n1 c1 n2 c2 : Nat) (r1 r2 : List ByteArray) (w : World), b - a ≤ m → a < b → b ≤ l.length →
    Strs w A1 n1 c1 (visitB l k true a b ++ r1) → Strs w A2 n2 c2 (visitB l k false a b ++ r2) →
    Calls Try.prog 28 #[.int .i64 ((b - a : Nat) : Int), .int .i64 ((k : Int) - (a : Int)), .slice A1 n1 c1, .slice A2 n2 c2] w (RetRB (rootB (seg l a b)) r1 r2 w) := by
  induction m with
  | zero => intro a b A1 A2 n1 c1 n2 c2 r1 r2 w h1 h2; omega
  | succ m ih =>
    intro a b A1 A2 n1 c1 n2 c2 r1 r2 w hm hab hb h1 h2
    by_cases hlow : b ≤ k
    · obtain ⟨e1, e2⟩ := v_low (l := l) hab hlow
      rw [e1, List.singleton_append] at h1
      rw [e2, List.nil_append] at h2
      have hlen := h1.len
      have hcap := h1.cap
      simp at hlen
      obtain ⟨p, rfl⟩ : ∃ p, n1 = p + 1 := ⟨n1 - 1, by omega⟩
      obtain ⟨d, rfl⟩ : ∃ d, c1 = d + 1 := ⟨c1 - 1, by omega⟩
      obtain ⟨B, O, rfl, -⟩ := h1.at_ (by omega)
      exact rebuild_low (b - a) _ _ B O p d A2 n2 c2 r1 r2 w (by omega) (by omega) h1 h2
    · by_cases hhigh : k ≤ a
      · obtain ⟨e1, e2⟩ := v_high (l := l) hab hhigh
        rw [e1, List.nil_append] at h1
        rw [e2, List.singleton_append] at h2
        have hlen := h2.len
        have hcap := h2.cap
        simp at hlen
        obtain ⟨p, rfl⟩ : ∃ p, n2 = p + 1 := ⟨n2 - 1, by omega⟩
        obtain ⟨d, rfl⟩ : ∃ d, c2 = d + 1 := ⟨c2 - 1, by omega⟩
        obtain ⟨B, O, rfl, -⟩ := h2.at_ (by omega)
        exact rebuild_high (b - a) _ _ B O p d A1 n1 c1 r2 r1 w (by omega) (by omega) (by omega) h2 h1
      · obtain ⟨hba, e1⟩ := v_mid (l := l) true (by omega : a < k) (by omega : k < b)
        obtain ⟨-, e2⟩ := v_mid (l := l) false (by omega : a < k) (by omega : k < b)
        have k1 := cutN_pos _ hba
        have k2 := cutN_lt _ hba
        rw [root_seg (l := l) hb hba rfl]
        rw [e1, List.append_assoc] at h1
        rw [e2, List.append_assoc] at h2
        refine rebuild_mid (b - a) (cutN (b - a)) _ A1 A2 n1 c1 n2 c2 _ _ (visitB l k true (a + cutN (b - a)) b ++ r1) (visitB l k false (a + cutN (b - a)) b ++ r2) r1 r2 w (by omega) (by omega) (by omega) rfl k2 (by rw [rootB_size]; omega) (by rw [rootB_size]; omega) ?_ ?_
        · have := ih a (a + cutN (b - a)) A1 A2 n1 c1 n2 c2 _ _ w (by omega) (by omega) (by omega) h1 h2
          rw [show a + cutN (b - a) - a = cutN (b - a) by omega] at this
          exact this
        · intro W B1 e1' B2 e2' s1 s2
          have := ih (a + cutN (b - a)) b B1 B2 _ e1' _ e2' r1 r2 W (by omega) (by omega) hb s1 s2
          rw [show b - (a + cutN (b - a)) = b - a - cutN (b - a) by omega, show (k : Int) - ((a + cutN (b - a) : Nat) : Int) = (k : Int) - (a : Int) - ((cutN (b - a) : Nat) : Int) by omega] at this
          exact this
end Go.Proofs.Ytlgpdmejnabinaa
