/- The reference's Expand: one way. -/
import Derived.Test.YtklmgogppljolaaRefX
namespace Go.Proofs.Ytklmgogppljolaa
open Go.RowKit

set_option maxHeartbeats 4000000 in
set_option maxRecDepth 100000 in
theorem rExpand_ff (t one two : List UInt8) (w : World) (ht : t.length ≤ 120) (h1 : one.length ≤ 120) (h2 : two.length ≤ 120) (hc : codeT t = true) (r1 : (one == []) = false) (r2 : (two == []) = false) (n1 : nameB one = true) (n2 : nameB two = true) :
    Calls Try.prog 22 #[.string ⟨t.toArray⟩, .string ⟨one.toArray⟩, .string ⟨two.toArray⟩] w (RetSE (xS t one two) (xE t one two) w) := by
  have HT := Lib.hid (fun w => rTemplate_any t w (by omega))
  rw [hc] at HT
  have HSEG := Lib.hid (fun w => rSegs_any t w (by omega))
  have hany := Lib.hid (anyE_mis (one := one) (two := two) hc)
  have hS := Lib.hid (show xS t one two = if anyE t one two then [] else Lib.join ((segs t).map (rep one two)) [46] from rfl)
  have hE := Lib.hid (show xE t one two = if anyE t one two then 9 else 0 from rfl)
  have hjl := Lib.hid (exS_len ht h1 h2)
  have hpos := segs_pos t
  have N1 := Lib.hid n1
  have N2 := Lib.hid n2
  have X1 := Lib.hid (fun w => rname_any ⟨one.toArray⟩ w (by unfold maxLen; show one.length ≤ _; omega))
  have X2 := Lib.hid (fun w => rname_any ⟨two.toArray⟩ w (by unfold maxLen; show two.length ≤ _; omega))
  have hm1 := Lib.hid (fun x => show mis one two x = ((x == [42] && false) || (x == [43] && false)) by rw [mis, r1, r2])
  clear hc n1 n2
  generalize segs t = l at *
  obtain ⟨n, hn⟩ : ∃ n, n = l.length := ⟨_, rfl⟩
  have HN := Lib.hid hn
  rw [← hn] at hpos
  clear hn
  go_enter Try.func22, Try.ntmps22
  go_wp2_with fail
  refine (HT.out _).mono ?_
  rintro e w1 ⟨rfl, hb1⟩
  go_wp2_with fail
  refine (X1.out _).mono ?_
  rintro e w2 ⟨rfl, rfl⟩
  rw [show nameB (ByteArray.mk one.toArray).data.toList = true from N1.out]
  go_wp2_with fail
  refine (X2.out _).mono ?_
  rintro e w2 ⟨rfl, rfl⟩
  rw [show nameB (ByteArray.mk two.toArray).data.toList = true from N2.out]
  go_wp2_with fail
  refine (HSEG.out _).mono ?_
  rintro e w3 ⟨v, rfl, hown, hb3⟩
  obtain ⟨g, c, f, rfl, hBg, hlc, hct, hrow, hf⟩ := hown.rowIs (by rw [← HN.out]; exact hpos)
  rw [← HN.out] at hlc hf ⊢
  have hBg' : w.heap.size ≤ g := Nat.le_trans hb1.size hBg
  have HB := Lib.hid (hb1.trans (hb3.mono hb1.size))
  have HROW := Lib.hid (And.intro hrow hf)
  clear hrow hf hown hb1 hb3 hBg
  go_wp2_with fail
  go_loop [9] (fun i => ∃ k : Nat, k ≤ n ∧ i = .int .i64 (k : Int) ∧ Hid ((l.take k).any (mis one two) = false)) (fun i => n - (intOf i).toNat)
  case atStart => exact ⟨0, by omega, rfl, Lib.hid rfl⟩
  case round =>
    obtain ⟨k, hk, rfl, ha⟩ := hrel
    by_cases hlt : k < n
    · have hsn := Lib.hid (any_take_succ (mis one two) l k (by rw [← HN.out]; exact hlt))
      have hcl := HROW.out.1.cell (i := k) (by omega)
      rw [HROW.out.2 k hlt] at hcl
      have hmem := Lib.hid (show l.getD k [] ∈ l by rw [List.getD_eq_getElem?_getD, List.getElem?_eq_getElem (by rw [← HN.out]; exact hlt)]; exact List.getElem_mem _)
      have hglt := HROW.out.1.lt
      generalize l.getD k [] = x at *
      have hbad := Lib.hid (show mis one two x = true → xS t one two = [] ∧ xE t one two = 9 from fun hx => by
        rw [hS.out, hE.out, hany.out, List.any_eq_true.2 ⟨x, hmem.out, hx⟩]; exact ⟨rfl, rfl⟩)
      by_cases e1 : x = [42]
      · subst e1
        go_wp2_with fail
        first
          | (go_ret2
             exact RetSE.of ⟨rfl, HB.out⟩ (hbad.out (by rw [hm1.out]; rfl)).1.symm (hbad.out (by rw [hm1.out]; rfl)).2.symm)
          | (go_round
             case rel => exact ⟨k + 1, by omega, by go_num, Lib.hid (by rw [hsn.out, ha.out, hm1.out]; rfl)⟩
             case measure => simp [intOf]; omega)
      by_cases e2 : x = [43]
      · subst e2
        go_wp2_with fail
        first
          | (go_ret2
             exact RetSE.of ⟨rfl, HB.out⟩ (hbad.out (by rw [hm1.out]; rfl)).1.symm (hbad.out (by rw [hm1.out]; rfl)).2.symm)
          | (go_round
             case rel => exact ⟨k + 1, by omega, by go_num, Lib.hid (by rw [hsn.out, ha.out, hm1.out]; rfl)⟩
             case measure => simp [intOf]; omega)
      have d1 : (x == [42]) = false := by simp [e1]
      have d2 : (x == [43]) = false := by simp [e2]
      have hmx := Lib.hid (show mis one two x = false by rw [hm1.out, d1, d2]; rfl)
      clear e1 e2
      go_wp2_with fail
      go_round
      case rel => exact ⟨k + 1, by omega, by go_num, Lib.hid (by rw [hsn.out, ha.out, hmx.out]; rfl)⟩
      case measure => simp [intOf]; omega
    · have hno := Lib.hid (show xS t one two = Lib.join (l.map (rep one two)) [46] ∧ xE t one two = 0 by
        have h := ha.out
        rw [List.take_of_length_le (by rw [← HN.out]; omega)] at h
        rw [hS.out, hE.out, hany.out, h]; exact ⟨rfl, rfl⟩)
      go_wp2_with fail
      go_loopw [10] (fun i wr => ∃ m : Nat, m ≤ n ∧ i = .int .i64 (m : Int) ∧ XI w g c n l one two m wr) (fun i _ => n - (intOf i).toNat)
      case atStart => exact ⟨0, by omega, rfl, ⟨f, HROW.out.1, fun j hj => by rw [HROW.out.2 j hj, if_neg (by omega)]⟩, HB.out⟩
      case round =>
        obtain ⟨m, hm, rfl, hx⟩ := hrel
        by_cases hlt2 : m < n
        · obtain ⟨f2, hr2, hf2⟩ := hx.row
          have hcl := hr2.cell (i := m) (by omega)
          rw [hf2 m hlt2, if_neg (by omega)] at hcl
          have hfz := hr2.frozen m
          have hglt := hr2.lt
          clear hf2 hr2
          by_cases e1 : l.getD m [] = [42]
          · have HP := Lib.hid (hx.put hBg' one (by rw [rep, if_pos e1]))
            rw [e1] at hcl
            clear e1 hx
            go_wp2_with fail
            go_roundw
            case rel => exact ⟨m + 1, by omega, by go_num, HP.out⟩
            case measure => simp [intOf]; omega
          by_cases e2 : l.getD m [] = [43]
          · have HP := Lib.hid (hx.put hBg' two (by rw [rep, if_neg e1, if_pos e2]))
            rw [e2] at hcl
            clear e1 e2 hx
            go_wp2_with fail
            go_roundw
            case rel => exact ⟨m + 1, by omega, by go_num, HP.out⟩
            case measure => simp [intOf]; omega
          have HP := Lib.hid (hx.keep (by rw [rep, if_neg e1, if_neg e2]))
          have d1 : (l.getD m [] == [42]) = false := by simp only [beq_eq_false_iff_ne]; exact e1
          have d2 : (l.getD m [] == [43]) = false := by simp only [beq_eq_false_iff_ne]; exact e2
          clear e1 e2 hx
          generalize l.getD m [] = x at *
          go_wp2_with fail
          go_roundw
          case rel => exact ⟨m + 1, by omega, by go_num, HP.out⟩
          case measure => simp [intOf]; omega
        · have HR := Lib.hid (show SRow wr (some ⟨g, 0, none⟩) n c (l.map (rep one two)) from ⟨by rw [List.length_map]; exact HN.out.symm, hlc, hct, fun _ => by
            obtain ⟨f2, hr2, hf2⟩ := hx.row
            refine ⟨g, rfl, hr2.lt, fun j hj => ?_⟩
            rw [hr2.cell (i := j) (by omega), hf2 j hj, if_pos (by omega)]
            have : j < l.length := by rw [← HN.out]; exact hj
            simp [this]⟩)
          have HX := Lib.hid hx.bel
          clear hx
          go_wp2_with fail
          refine (join_any _ _ _ _ _ HR.out hjl.out).mono ?_
          rintro e w5 ⟨rfl, rfl⟩
          go_wp2_with fail
          go_ret2
          exact RetSE.of ⟨rfl, HX.out⟩ hno.out.1.symm hno.out.2.symm
end Go.Proofs.Ytklmgogppljolaa
