/- The walk of DigestGrows. -/
import Derived.Test.YtlgpdmejnabinaaGrow
import Derived.Test.YtlgpdmejnabinaaReb
import Derived.Test.YtlgpdmejnabinaaFold
import Derived.Test.YtlgpdmejnabinaaPaths
import Derived.Outline
import Derived.WalkLawsBesides
import Derived.Deep.RegionHeld3
import Derived.Deep.DrawnRows
namespace Go.Proofs.Ytlgpdmejnabinaa
open Go.RowKit
attribute [local go_sem ↓] Go.wp_at_zero Go.wp_at_succ

theorem strs_dropif {w : World} {b o n c k : Nat} {l : List ByteArray} (h : Strs w (some ⟨b, o, none⟩) n c l) (hk : k ≤ n) : Strs w (if c = k then some ⟨b, o, none⟩ else some ⟨b, o + k, none⟩) (n - k) (c - k) (l.drop k) := by
  have h1 := h.drop k hk
  by_cases hd : c = k
  · have := h.cap
    have hz : n - k = 0 := by omega
    have hz' : n = k := by omega
    rw [if_pos hd, hz]
    refine ⟨by rw [List.length_drop, h.len]; omega, by omega, by omega, fun hh => by omega⟩
  · rw [if_neg hd]
    exact h1
theorem bits_step (f x : Nat) (hx : x ≠ 0) : bitsF (f + 1) x = x % 2 + bitsF f (x / 2) := by rw [bitsF, if_neg hx]
theorem bits_le (f x : Nat) : bitsF f x ≤ f := by
  induction f generalizing x with
  | zero => simp [bitsF]
  | succ f ih =>
    rw [bitsF]
    split
    · omega
    · have := ih (x / 2); omega
theorem bits_zero (f : Nat) : bitsF f 0 = 0 := by cases f <;> simp [bitsF]
/-- all that the law needs of the plain side -/
structure Good (l : List ByteArray) (n k : Nat) (V1 V2 : List ByteArray) : Prop where
  v1 : visitB l k true 0 n = V1
  v2 : visitB l k false 0 n = V2
  ne : 1 ≤ V1.length + V2.length
  le1 : V1.length ≤ 12
  le2 : V2.length ≤ 12
  cnt : V1.length = if k = n then 1 else bitsF 4 k
  fold : 1 ≤ k → foldB k V1 = rootB (l.take k) ∧ foldOk k V1
  s1 : ∀ x ∈ V1, x.size ≤ 1000000
theorem visit_size (f : Nat) (l : List ByteArray) (k : Nat) (bf : Bool) (a b : Nat) : ∀ x ∈ visitF f l k bf a b, x.size = 32 := by
  induction f generalizing a b with
  | zero => simp [visitF]
  | succ f ih =>
    rw [visitF]
    intro x hx
    split at hx
    · simp at hx
    · split at hx
      · simp at hx; rw [hx, rootB_size]
      · rcases List.mem_append.1 hx with h | h
        · exact ih _ _ x h
        · exact ih _ _ x h
theorem good_of (l : List ByteArray) (n k : Nat) (hl : l.length = n) (h1 : 1 ≤ n) (h12 : n ≤ 12) (hk : k ≤ n) : Good l n k (visitB l k true 0 n) (visitB l k false 0 n) := by
  subst hl
  have hf := fun h => fold_visit l.length l k 0 l.length (by omega) (Nat.le_refl _) h hk
  refine ⟨rfl, rfl, ?_, ?_, ?_, ?_, ?_, ?_⟩
  · rcases Nat.eq_zero_or_pos k with h | h
    · rw [(v_high (l := l) (k := k) (a := 0) (b := l.length) (by omega) (by omega)).2]; simp
    · have := (hf h).2.1
      have : 0 < (visitB l k true 0 l.length).length := List.length_pos_iff.2 this
      omega
  · exact Nat.le_trans (visitN _ l k true 0 l.length) (by omega)
  · exact Nat.le_trans (visitN _ l k false 0 l.length) (by omega)
  · split
    · rename_i h
      rw [(v_low (l := l) (k := k) (a := 0) (b := l.length) (by omega) (by omega)).1]; rfl
    · rw [visitB, visit_cnt]
      exact cnt_bits _ (by omega) k (by omega)
  · intro h
    obtain ⟨i1, _, i3⟩ := hf h
    rw [seg_take] at i1
    exact ⟨i1, i3⟩
  · intro x hx
    rw [visit_size _ _ _ _ _ _ x hx]; omega
set_option maxHeartbeats 8000000 in
set_option maxRecDepth 100000 in
theorem grows_walk (A : Option Addr) (n c k : Nat) (l : List ByteArray) (a : Int) (w : World) (h : Strs w A n c l) (hl : ∀ x ∈ l, x.size ≤ 9223372036854775807) (ha0 : 0 ≤ a) (ha1 : a ≤ 255) (hg : greatB l = false) (h0 : 1 ≤ n) (hk : a % ((n : Int) + 1) = (k : Int)) (hkn : k ≤ n) :
    Calls Try.prog 8 #[.slice A n c, .int .u8 a] w fun e w' => e = .returned (.bool true) ∧ Below w.heap.size w w' := by
  obtain ⟨h12, h200⟩ := not_great l hg
  have hlen := h.len
  have hn12 : n ≤ 12 := by omega
  have z : ∀ x ∈ l, x.size ≤ 1000000 := fun x hx => Nat.le_trans (h200 x hx) (by omega)
  have G := Lib.hid (good_of l n k hlen h0 hn12 hkn)
  have HG := Lib.hid (great_any A n c l w h hl)
  rw [hg] at HG
  obtain ⟨b, o, rfl, hbb, -⟩ := h.at_ (by omega)
  have HR := Lib.hid (fun W (hW : Below w.heap.size w W) => Root_any _ n c l W (by omega) (h.below hW) z)
  have HF := Lib.hid (fun W (hW : Below w.heap.size w W) => Root_any _ k c (l.take k) W (by omega) ((h.below hW).take k hkn) (fun x hx => z x (List.mem_of_mem_take hx)))
  have HGr := Lib.hid (Grow_any _ n c k l w (by omega) hkn h z 12 G.out.le1 G.out.le2 (by omega))
  have HL := Lib.hid hlen
  have hcap := h.cap
  clear h hl hg hlen h12 h200 z
  obtain ⟨R, hR⟩ : ∃ R, rootB l = R := ⟨_, rfl⟩
  obtain ⟨F, hF⟩ : ∃ F, rootB (l.take k) = F := ⟨_, rfl⟩
  rw [hR] at HR
  rw [hF] at HF
  have HRF := Lib.hid (And.intro hR hF)
  clear hR hF
  obtain ⟨V1, hV1⟩ : ∃ V1, visitB l k true 0 n = V1 := ⟨_, rfl⟩
  obtain ⟨V2, hV2⟩ : ∃ V2, visitB l k false 0 n = V2 := ⟨_, rfl⟩
  rw [hV1, hV2] at G HGr
  have hd0 : ((n : Int) == 0) = false := beq_eq_false_iff_ne.2 (by omega)
  have hkc : (k : Int) ≤ (c : Int) := by omega
  have hki : (k : Int) ≤ (n : Int) := by omega
  have HV := Lib.hid (And.intro hV1 hV2)
  clear hV1 hV2
  go_enter Try.func8, Try.ntmps8
  go_wp2_with fail
  refine HG.out.mono ?_
  rintro e w1 ⟨rfl, rfl⟩
  go_upto_region 4 with fail
  rw [hk]
  have HK := Lib.hid hk
  clear hk
  go_wp2_with fail
  refine HGr.out.mono ?_
  rintro e w2 ⟨v2, rfl, ho2, hb2⟩
  go_wp2_with fail
  refine (HR.out _ hb2).mono ?_
  rintro e w3 ⟨rfl, hb3⟩
  have hb13 := hb2.trans (hb3.mono hb2.size)
  go_wp2_with fail
  refine (HF.out _ hb13).mono ?_
  rintro e w4 ⟨rfl, hb4⟩
  have hb14 := hb13.trans (hb4.mono hb13.size)
  obtain ⟨PA, pc, rfl, hPA⟩ := ((ho2.below hb3).below hb4).strs
  obtain ⟨L, hL⟩ : ∃ L, (V1 ++ V2).length = L := ⟨_, rfl⟩
  rw [hL] at hPA ⊢
  have hL' : V1.length + V2.length = L := by rw [← hL, List.length_append]
  have hL1 : 1 ≤ L := by have := G.out.ne; omega
  have hL24 : L ≤ 24 := by have := G.out.le1; have := G.out.le2; omega
  obtain ⟨pb, po, rfl, -⟩ := hPA.at_ (by omega)
  have hpc : (L : Int) ≤ (pc : Int) := by have := hPA.cap; omega
  obtain ⟨m1, hm1⟩ : ∃ m1, V1.length = m1 := ⟨_, rfl⟩
  have hm1L : m1 ≤ L := by omega
  have HM := Lib.hid (And.intro hm1 (And.intro hL hL'))
  have s1 := hPA.take m1 hm1L
  have s2 := strs_dropif hPA hm1L
  rw [List.take_left' hm1] at s1
  rw [List.drop_left' hm1] at s2
  have HS := Lib.hid (And.intro s1 s2)
  have HB := Lib.hid hb14
  clear hPA ho2 hb2 hb3 hb4 hb13 hb14 hm1 hL hL' s1 s2
  go_wp2_with fail
  go_loop [12, 13] (fun s12 s13 => ∃ f x cn : Nat, x < 2 ^ f ∧ x ≤ 12 ∧ cn ≤ 12 ∧ Hid (cn + bitsF f x = bitsF 4 k) ∧ s12 = .int .i64 (cn : Int) ∧ s13 = .int .i64 (x : Int)) (fun _ s13 => (intOf s13).toNat)
  case atStart => exact ⟨4, k, 0, by omega, by omega, by omega, Lib.hid (by omega), rfl, rfl⟩
  case round =>
    obtain ⟨f, x, cn, hxf, hx12, hcn, hbits, rfl, rfl⟩ := hrel
    have hb4 := bits_le 4 k
    rcases Nat.eq_zero_or_pos x with hx0 | hx0
    · subst hx0
      have hbz : cn = bitsF 4 k := by rw [← hbits.out, bits_zero]; rfl
      have hcm : if k = n then m1 = 1 else m1 = cn := by
        have := G.out.cnt
        rw [HM.out.1] at this
        split
        · rename_i hh; rw [this, if_pos hh]
        · rename_i hh; rw [this, if_neg hh, hbz]
      have HCM := Lib.hid hcm
      clear hcm hbz
      go_upto_if 68 with fail
      go_cut [12] (fun s12 wx => s12 = .int .i64 (m1 : Int) ∧ wx = w4)
      case first =>
        by_cases hkn' : k = n
        · have hdk : ((k : Int) == (n : Int)) = true := by rw [hkn']; simp
          have e : m1 = 1 := by have := HCM.out; rw [if_pos hkn'] at this; exact this
          clear hkn'
          rw [hdk]
          go_wp2_with fail
          go_meet
          exact ⟨by rw [e]; rfl, rfl⟩
        · have hdk : ((k : Int) == (n : Int)) = false := beq_eq_false_iff_ne.2 (by omega)
          have e : m1 = cn := by have := HCM.out; rw [if_neg hkn'] at this; exact this
          clear hkn'
          rw [hdk]
          go_wp2_with fail
          go_meet
          exact ⟨by rw [e], rfl⟩
      case rest =>
        obtain ⟨rfl, rfl⟩ := hcut
        go_wp2_with fail
        obtain ⟨A2, hA2⟩ : ∃ A2, (if pc = m1 then (some ⟨pb, po, none⟩ : Option Addr) else some ⟨pb, po + m1, none⟩) = A2 := ⟨_, rfl⟩
        rw [hA2] at HS
        have hreb : Calls Try.prog 28 #[.int .i64 (n : Int), .int .i64 (k : Int), .slice (some ⟨pb, po, none⟩) m1 pc, .slice A2 (L - m1) (pc - m1)] wc.drew (RetRB R [] [] wc.drew) := by
          have := rebuild_any l.length l k (by rw [HL.out]; omega) (by omega) 0 l.length (some ⟨pb, po, none⟩) A2 m1 pc (L - m1) (pc - m1) [] [] wc.drew (by omega) (by rw [HL.out]; omega) (Nat.le_refl _) (by rw [HL.out, HV.out.1, List.append_nil]; exact HS.out.1.drew) (by rw [HL.out, HV.out.2, List.append_nil]; exact HS.out.2.drew)
          rw [seg_all, HRF.out.1, HL.out] at this
          simpa using this
        have HREB := Lib.hid hreb
        have hmp : (m1 : Int) ≤ (pc : Int) := by omega
        have hml : (m1 : Int) ≤ (L : Int) := by omega
        clear hreb
        go_region_held3 (fun _ => True) (exact True.intro) (first | (go_at_call 28; refine HREB.out.mono ?_; rintro e w5 ⟨D1, f1, D2, f2, rfl, -, -, hb5'⟩))
        have hb5 := below_undrew hb5'
        have HB5 := Lib.hid (HB.out.trans (hb5.mono HB.out.size))
        have HBC := Lib.hid hb5
        clear hb5 hb5' hA2
        rcases Nat.eq_zero_or_pos k with hk0 | hk0
        · have hkd : ((k : Int) == 0) = true := by rw [hk0]; rfl
          have hF0 : F = dig ⟨#[]⟩ := by rw [← HRF.out.2, hk0, rootB_none _ (by simp)]
          have HF0 := Lib.hid hF0
          clear hF0 hk0
          go_wp2_with fail
          refine (sum_dig ⟨#[]⟩ _ (by simp [ByteArray.size])).mono ?_
          rintro e w6 ⟨rfl, hb6⟩
          rw [← HF0.out]
          go_wp2_with fail
          refine (awake_any _).mono ?_
          rintro e w7 ⟨rfl, hb7⟩
          have hb56 := HB5.out.trans (hb6.mono HB5.out.size)
          go_wp2_with fail
          go_ret
          exact ⟨rfl, hb56.trans (hb7.mono hb56.size)⟩
        · have hkd : ((k : Int) == 0) = false := beq_eq_false_iff_ne.2 (by omega)
          have hfold := fold_any m1 (some ⟨pb, po, none⟩) m1 pc k V1 w5 (Nat.le_refl _) (by omega) (by omega) (G.out.fold hk0).2 (HS.out.1.below HBC.out) G.out.s1
          rw [(G.out.fold hk0).1, HRF.out.2] at hfold
          have HFO := Lib.hid hfold
          clear hfold
          go_wp2_with fail
          refine HFO.out.mono ?_
          rintro e w6 ⟨rfl, hb6⟩
          go_wp2_with fail
          refine (awake_any _).mono ?_
          rintro e w7 ⟨rfl, hb7⟩
          have hb56 := HB5.out.trans (hb6.mono HB5.out.size)
          go_wp2_with fail
          go_ret
          exact ⟨rfl, hb56.trans (hb7.mono hb56.size)⟩
    · rcases f with _ | g
      · simp at hxf; omega
      have hb1 := bits_step g x (by omega)
      have hbs := hbits.out
      rw [hb1] at hbs
      have HBS := Lib.hid hbs
      have hcn4 : cn + x % 2 ≤ 12 := by omega
      have hx2 : x / 2 < 2 ^ g := by rw [Nat.pow_succ] at hxf; omega
      clear hbits hbs hb1
      go_wp2_with fail
      go_round
      case rel => exact ⟨g, x / 2, cn + x % 2, hx2, by omega, by omega, Lib.hid (by rw [← HBS.out]; omega), by go_num, by go_num⟩
      case measure => simp [intOf]; omega
set_option maxHeartbeats 2000000 in
set_option maxRecDepth 100000 in
theorem grows_law (A : Option Addr) (n c : Nat) (l : List ByteArray) (a : Int) (w : World) (h : Strs w A n c l) (hl : ∀ x ∈ l, x.size ≤ 9223372036854775807) (wa : (Lit.int .u8 a).wf = true) :
    Calls Try.prog 8 #[.slice A n c, .int .u8 a] w fun e w' => e = .returned (.bool true) ∧ Below w.heap.size w w' := by
  have ha : 0 ≤ a ∧ a ≤ 255 := by simpa [Lit.wf, IntKind.min, IntKind.max, IntKind.signed, IntKind.bits] using wa
  obtain ⟨ha0, ha1⟩ := ha
  cases hg : greatB l
  · rcases Nat.eq_zero_or_pos n with h0 | h0
    · subst h0
      have HG := Lib.hid (great_any A 0 c l w h hl)
      rw [hg] at HG
      clear hg h hl wa
      go_enter Try.func8, Try.ntmps8
      go_wp2_with fail
      refine HG.out.mono ?_
      rintro e w1 ⟨rfl, rfl⟩
      go_wp2_with fail
      refine (awake_any _).mono ?_
      rintro e w4 ⟨rfl, hb4⟩
      go_wp2_with fail
      go_ret
      exact ⟨rfl, hb4⟩
    · obtain ⟨k, hk⟩ : ∃ k : Nat, a % ((n : Int) + 1) = (k : Int) := ⟨(a % ((n : Int) + 1)).toNat, by have := Int.emod_nonneg a (show (n : Int) + 1 ≠ 0 by omega); omega⟩
      have hkn : k ≤ n := by have := Int.emod_lt_of_pos a (show (0 : Int) < (n : Int) + 1 by omega); omega
      exact grows_walk A n c k l a w h hl ha0 ha1 hg h0 hk hkn
  · have HG := Lib.hid (great_any A n c l w h hl)
    rw [hg] at HG
    clear hg h hl wa
    go_enter Try.func8, Try.ntmps8
    go_wp2_with fail
    refine HG.out.mono ?_
    rintro e w1 ⟨rfl, rfl⟩
    go_wp2_with fail
    refine (awake_any _).mono ?_
    rintro e w4 ⟨rfl, hb4⟩
    go_wp2_with fail
    go_ret
    exact ⟨rfl, hb4⟩
end Go.Proofs.Ytlgpdmejnabinaa
