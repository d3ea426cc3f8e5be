/- Contract of awake: true. -/
import Derived.Test.YtlgpdmejnabinaaAwk
namespace Go.Proofs.Ytlgpdmejnabinaa
open Go.RowKit
theorem sum_abc (w : World) : Calls Try.prog 14 #[.string ⟨#[97, 98, 99]⟩] w fun e w' => e = .returned (.string ⟨#[186, 120, 22, 191, 143, 1, 207, 234, 65, 65, 64, 222, 93, 174, 34, 35, 176, 3, 97, 163, 150, 23, 122, 156, 180, 16, 255, 97, 242, 0, 21, 173]⟩) ∧ Below w.heap.size w w' := by
  have h := sum_any ⟨#[97, 98, 99]⟩ w (by decide)
  rw [show (⟨#[97, 98, 99]⟩ : ByteArray).data.toList = [97, 98, 99] from rfl, shaA] at h
  exact h
theorem sum_none (w : World) : Calls Try.prog 14 #[.string ⟨#[]⟩] w fun e w' => e = .returned (.string ⟨#[227, 176, 196, 66, 152, 252, 28, 20, 154, 251, 244, 200, 153, 111, 185, 36, 39, 174, 65, 228, 100, 155, 147, 76, 164, 149, 153, 27, 120, 82, 184, 85]⟩) ∧ Below w.heap.size w w' := by
  have h := sum_any ⟨#[]⟩ w (by decide)
  rw [show (⟨#[]⟩ : ByteArray).data.toList = [] from rfl, shaB] at h
  exact h
theorem hex_abc (w : World) : Calls Try.prog 13 #[.string ⟨#[186, 120, 22, 191, 143, 1, 207, 234, 65, 65, 64, 222, 93, 174, 34, 35, 176, 3, 97, 163, 150, 23, 122, 156, 180, 16, 255, 97, 242, 0, 21, 173]⟩] w fun e w' => e = .returned (.string ⟨#[98, 97, 55, 56, 49, 54, 98, 102, 56, 102, 48, 49, 99, 102, 101, 97, 52, 49, 52, 49, 52, 48, 100, 101, 53, 100, 97, 101, 50, 50, 50, 51, 98, 48, 48, 51, 54, 49, 97, 51, 57, 54, 49, 55, 55, 97, 57, 99, 98, 52, 49, 48, 102, 102, 54, 49, 102, 50, 48, 48, 49, 53, 97, 100]⟩) ∧ Below w.heap.size w w' := by
  have h := hex_any ⟨#[186, 120, 22, 191, 143, 1, 207, 234, 65, 65, 64, 222, 93, 174, 34, 35, 176, 3, 97, 163, 150, 23, 122, 156, 180, 16, 255, 97, 242, 0, 21, 173]⟩ w (by decide)
  have e := hexA
  rw [shaA] at e
  rw [e] at h
  exact h
theorem hex_none (w : World) : Calls Try.prog 13 #[.string ⟨#[227, 176, 196, 66, 152, 252, 28, 20, 154, 251, 244, 200, 153, 111, 185, 36, 39, 174, 65, 228, 100, 155, 147, 76, 164, 149, 153, 27, 120, 82, 184, 85]⟩] w fun e w' => e = .returned (.string ⟨#[101, 51, 98, 48, 99, 52, 52, 50, 57, 56, 102, 99, 49, 99, 49, 52, 57, 97, 102, 98, 102, 52, 99, 56, 57, 57, 54, 102, 98, 57, 50, 52, 50, 55, 97, 101, 52, 49, 101, 52, 54, 52, 57, 98, 57, 51, 52, 99, 97, 52, 57, 53, 57, 57, 49, 98, 55, 56, 53, 50, 98, 56, 53, 53]⟩) ∧ Below w.heap.size w w' := by
  have h := hex_any ⟨#[227, 176, 196, 66, 152, 252, 28, 20, 154, 251, 244, 200, 153, 111, 185, 36, 39, 174, 65, 228, 100, 155, 147, 76, 164, 149, 153, 27, 120, 82, 184, 85]⟩ w (by decide)
  have e := hexB
  rw [shaB] at e
  rw [e] at h
  exact h
set_option maxRecDepth 100000 in
theorem awake_any (w : World) : Calls Try.prog 12 #[] w fun e w' => e = .returned (.bool true) ∧ Below w.heap.size w w' := by
  go_enter Try.func12, Try.ntmps12
  go_wp2_with fail
  refine (sum_abc _).mono ?_
  rintro e w1 ⟨rfl, hb1⟩
  go_wp2_with fail
  refine (hex_abc _).mono ?_
  rintro e w2 ⟨rfl, hb2⟩
  go_wp2_with fail
  refine (sum_none _).mono ?_
  rintro e w3 ⟨rfl, hb3⟩
  go_wp2_with fail
  refine (hex_none _).mono ?_
  rintro e w4 ⟨rfl, hb4⟩
  go_wp2_with fail
  go_ret
  have b2 := hb1.trans (hb2.mono hb1.size)
  have b3 := b2.trans (hb3.mono b2.size)
  exact ⟨rfl, b3.trans (hb4.mono b3.size)⟩
end Go.Proofs.Ytlgpdmejnabinaa
