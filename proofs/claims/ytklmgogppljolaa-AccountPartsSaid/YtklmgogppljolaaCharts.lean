/- The walk of AccountCharts. -/
import Derived.Test.YtklmgogppljolaaRefA
namespace Go.Proofs.Ytklmgogppljolaa
open Go.RowKit

theorem great_small {l : List Acc} (h : greatB l = false) : ∀ a ∈ l, a.1.length ≤ 120 := by
  intro a ha
  simp only [greatB, Bool.or_eq_false_iff] at h
  have := List.any_eq_false.1 h.1.1 a ha
  simpa using this
set_option maxHeartbeats 4000000 in
set_option maxRecDepth 100000 in
theorem charts_law (A : Option Addr) (n c : Nat) (l : List Acc) (code : List UInt8) (w : World) (h : Accs w A n c l) (hn : ∀ a ∈ l, a.1.length ≤ 9223372036854775807) (hm : ML w) :
    Calls Try.prog 3 #[.slice A n c, .string ⟨code.toArray⟩] w (Yes w) := by
  have HG := Lib.hid (Great_any A n c l w h hn)
  have HM := Lib.hid hm
  have HA := Lib.hid h
  clear hn hm h
  cases hg : greatB l
  · have HS := Lib.hid (great_small hg)
    rw [hg] at HG
    clear hg
    by_cases hl : 120 < code.length
    · have hd : decide (120 < (code.length : Int)) = true := by simp; omega
      go_enter Try.func3, Try.ntmps3
      go_wp2_with fail
      refine HG.out.mono ?_
      rintro e w1 ⟨rfl, rfl⟩
      go_wp2_with fail
      refine (awake_any _ HM.out).mono ?_
      rintro e w2 ⟨rfl, hb2⟩
      go_wp2_with fail
      go_ret
      exact ⟨rfl, hb2⟩
    · have hd : decide (120 < (code.length : Int)) = false := by simp; omega
      obtain ⟨⟨⟨r1, r2⟩, r3⟩, hr⟩ : ∃ r, findL l code = r := ⟨_, rfl⟩
      have HF := Lib.hid (fun W (hW : Accs W A n c l) => Find_any A n c l code W hW (fun a ha => by have := HS.out a ha; omega))
      have HRF := Lib.hid (fun W (hW : Accs W A n c l) => rFind_any A n c l code W hW (fun a ha => by have := HS.out a ha; omega))
      rw [hr] at HF HRF
      have HC := Lib.hid (fun W (hW : Accs W A n c l) (hM : ML W) => CheckAll_any A n c l W hW (fun a ha => by have := HS.out a ha; omega) hM)
      have HRC := Lib.hid (fun W (hW : Accs W A n c l) => rCheckAll_any A n c l W hW (fun a ha => by have := HS.out a ha; omega))
      go_enter Try.func3, Try.ntmps3
      go_wp2_with fail
      refine HG.out.mono ?_
      rintro e w1 ⟨rfl, rfl⟩
      go_wp2_with fail
      refine (HF.out _ HA.out).mono ?_
      rintro e w2 ⟨rfl, hb2⟩
      have hb3 : Below w.heap.size w (w2.alloc (.cells #[.string ⟨r1.toArray⟩, .int .i64 r2] 26)) := hb2.alloc hb2.size _
      go_wp2_with fail
      refine (HRF.out _ (HA.out.below hb3)).mono ?_
      rintro e w4 ⟨rfl, hb4⟩
      have hB4 := hb3.trans (hb4.mono hb3.size)
      have hb5 : Below w.heap.size w (w4.alloc (.cells #[.string ⟨r1.toArray⟩, .int .i64 r2] 26)) := hB4.alloc hB4.size _
      have p0 : w4.cell? ⟨w2.heap.size, 0, none⟩ = some (.string ⟨r1.toArray⟩) := (hb4.cell (p := ⟨w2.heap.size, 0, none⟩) (by simp)).trans (by go_simp)
      have p1 : w4.cell? ⟨w2.heap.size, 1, none⟩ = some (.int .i64 r2) := (hb4.cell (p := ⟨w2.heap.size, 1, none⟩) (by simp)).trans (by go_simp)
      have s4 : w2.heap.size < w4.heap.size := by have := hb4.size; simp at this; omega
      go_wp2_with fail
      refine (HC.out _ (HA.out.below hb5) (HM.out.below hb5)).mono ?_
      rintro e w6 ⟨rfl, hb6⟩
      have hB6 := hb5.trans (hb6.mono hb5.size)
      go_wp2_with fail
      refine (HRC.out _ (HA.out.below hB6)).mono ?_
      rintro e w7 ⟨rfl, hb7⟩
      have hB7 := hB6.trans (hb7.mono hB6.size)
      have s6 : w4.heap.size < w6.heap.size := by have := hb6.size; simp at this; omega
      have k0 : w7.cell? ⟨w2.heap.size, 0, none⟩ = some (.string ⟨r1.toArray⟩) := (hb7.cell (p := ⟨w2.heap.size, 0, none⟩) (by simp; omega)).trans ((hb6.cell (p := ⟨w2.heap.size, 0, none⟩) (by simp; omega)).trans ((((Below.refl w4.heap.size w4).alloc (Nat.le_refl _) _).cell (p := ⟨w2.heap.size, 0, none⟩) s4).trans p0))
      have k1 : w7.cell? ⟨w2.heap.size, 1, none⟩ = some (.int .i64 r2) := (hb7.cell (p := ⟨w2.heap.size, 1, none⟩) (by simp; omega)).trans ((hb6.cell (p := ⟨w2.heap.size, 1, none⟩) (by simp; omega)).trans ((((Below.refl w4.heap.size w4).alloc (Nat.le_refl _) _).cell (p := ⟨w2.heap.size, 1, none⟩) s4).trans p1))
      have k2 : w7.cell? ⟨w4.heap.size, 0, none⟩ = some (.string ⟨r1.toArray⟩) := (hb7.cell (p := ⟨w4.heap.size, 0, none⟩) s6).trans ((hb6.cell (p := ⟨w4.heap.size, 0, none⟩) (by simp)).trans (by go_simp))
      have k3 : w7.cell? ⟨w4.heap.size, 1, none⟩ = some (.int .i64 r2) := (hb7.cell (p := ⟨w4.heap.size, 1, none⟩) s6).trans ((hb6.cell (p := ⟨w4.heap.size, 1, none⟩) (by simp)).trans (by go_simp))
      have HB7 := Lib.hid (And.intro hB7 (HM.out.below hB7))
      clear hb2 hb3 hb4 hB4 hb5 p0 p1 hb6 hB6 hb7 hB7
      go_wp2_with fail
      refine (awake_any _ HB7.out.2).mono ?_
      rintro e w8 ⟨rfl, hb8⟩
      go_wp2_with fail
      go_ret
      exact ⟨rfl, HB7.out.1.trans (hb8.mono HB7.out.1.size)⟩
  · rw [hg] at HG
    clear hg
    go_enter Try.func3, Try.ntmps3
    go_wp2_with fail
    refine HG.out.mono ?_
    rintro e w1 ⟨rfl, rfl⟩
    go_wp2_with fail
    refine (awake_any _ HM.out).mono ?_
    rintro e w2 ⟨rfl, hb2⟩
    go_wp2_with fail
    go_ret
    exact ⟨rfl, hb2⟩
theorem charts_row (A : Option Addr) (n c : Nat) (l : List Acc) (code : ByteArray) (w : World) (hm : ML w) (h : Accs w A n c l) (hn : ∀ a ∈ l, a.1.length ≤ 9223372036854775807) (_ : code.size ≤ maxLen) :
    Calls Try.prog 3 #[.slice A n c, .string code] w (Yes w) := charts_law A n c l code.data.toList w h hn hm
end Go.Proofs.Ytklmgogppljolaa
