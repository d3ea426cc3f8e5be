/- The contract of awake. -/
import Derived.Test.YtklmgogppljolaaDoorCAll
import Derived.Lib.QuietBelow
namespace Go.Proofs.YtklmgogppljolaaDoor
open Go.RowKit Go.Sort

def s1 : List UInt8 := [49]
def s2 : List UInt8 := [49, 46, 99, 97, 115, 104]
def chart : List Acc := [(s1, 1), (s2, 1)]
def tmpl : List UInt8 := [49, 46, 115, 101, 99, 117, 114, 105, 116, 105, 101, 115, 46, 42]
def abc : List UInt8 := [97, 98, 99]
def full : List UInt8 := [49, 46, 115, 101, 99, 117, 114, 105, 116, 105, 101, 115, 46, 97, 98, 99]
def usd : List UInt8 := [49, 46, 99, 97, 115, 104, 46, 117, 115, 100]
theorem aw_ex : exR tmpl abc [] = full ∧ exE tmpl abc [] = 0 := by decide +kernel
theorem aw_f1 : findL chart usd = ((s2, 1), true) := by decide +kernel
theorem aw_f2 : findL chart full = ((s1, 1), true) := by decide +kernel
theorem aw_c : chkL chart = 0 := by decide +kernel
theorem aw_u1 : undB full s1 = true := by decide +kernel
theorem aw_u2 : undB full [49, 46, 115, 101, 99, 117, 114, 105, 116, 105, 101, 115] = true := by decide +kernel
theorem aw_u3 : undB full [49, 46, 115, 101, 99] = false := by decide +kernel
theorem chart_in (w : World) : Accs (w.alloc (.cells #[.string ⟨#[49]⟩, .int .i64 1, .string ⟨#[49, 46, 99, 97, 115, 104]⟩, .int .i64 1] 38)) (some ⟨w.heap.size, 0, none⟩) 2 2 chart :=
  ⟨rfl, by omega, by omega, fun _ => ⟨_, _, rfl, by simp, fun k hk => by
    have e : ∀ j, (w.alloc (.cells #[.string ⟨#[49]⟩, .int .i64 1, .string ⟨#[49, 46, 99, 97, 115, 104]⟩, .int .i64 1] 38)).cell? ⟨w.heap.size, j, none⟩ = (#[.string ⟨#[49]⟩, .int .i64 1, .string ⟨#[49, 46, 99, 97, 115, 104]⟩, .int .i64 1] : Array Value)[j]? := fun j => cell_of_row _ _ _ _ _ _ (heap_alloc_new w _)
    rcases k with _ | _ | k
    · exact ⟨e 0, e 1⟩
    · exact ⟨e 2, e 3⟩
    · omega⟩⟩
theorem chart_len : ∀ a ∈ chart, a.1.length < 4294967281 := by decide
set_option maxHeartbeats 4000000 in
set_option maxRecDepth 100000 in
theorem awake_any (w : World) (hm : ML w) : Calls Tryd.prog 6 #[] w fun e w' => e = .returned (.bool true) ∧ Below w.heap.size w w' := by
  have hx : ∀ w, ML w → Calls Tryd.prog 7 #[.string ⟨#[49, 46, 115, 101, 99, 117, 114, 105, 116, 105, 101, 115, 46, 42]⟩, .string ⟨#[97, 98, 99]⟩, .string ⟨#[]⟩] w (RetSE full 0 w) := fun w hm => by
    have := Expand_any tmpl abc [] w (by decide) (by unfold maxLen; decide) (by unfold maxLen; decide) hm
    rw [aw_ex.1, aw_ex.2] at this
    exact this
  have hf1 : ∀ W, Accs W (some ⟨w.heap.size, 0, none⟩) 2 2 chart → Calls Tryd.prog 15 #[.slice (some ⟨w.heap.size, 0, none⟩) 2 2, .string ⟨#[49, 46, 99, 97, 115, 104, 46, 117, 115, 100]⟩] W (RetA (s2, 1) true W) := fun W h => by
    have := Find_any _ _ _ _ usd W h (by decide)
    rw [aw_f1] at this
    exact this
  have hf2 : ∀ W, Accs W (some ⟨w.heap.size, 0, none⟩) 2 2 chart → Calls Tryd.prog 15 #[.slice (some ⟨w.heap.size, 0, none⟩) 2 2, .string ⟨full.toArray⟩] W (RetA (s1, 1) true W) := fun W h => by
    have := Find_any _ _ _ _ full W h (by decide)
    rw [aw_f2] at this
    exact this
  have X := Lib.hid (And.intro hx (And.intro hf1 hf2))
  have HM := Lib.hid hm
  clear hx hf1 hf2 hm
  have hch := chart_in w
  have hB0 : Below w.heap.size w (w.alloc (.cells #[.string ⟨#[49]⟩, .int .i64 1, .string ⟨#[49, 46, 99, 97, 115, 104]⟩, .int .i64 1] 38)) := (Below.refl _ w).alloc (Nat.le_refl _) _
  go_enter Tryd.func6, Tryd.ntmps6
  go_wp2_with fail
  refine (X.out.1 _ (HM.out.below hB0)).mono ?_
  rintro e w1 ⟨rfl, hb1⟩
  have hc1 := hch.below hb1
  have hB1 := hB0.trans (hb1.mono hB0.size)
  go_wp2_with fail
  refine (X.out.2.1 _ hc1).mono ?_
  rintro e w2 ⟨rfl, hb2⟩
  have hc2 := hc1.below hb2
  have hB2 := hB1.trans (hb2.mono hB1.size)
  have hB2' := hB2.alloc hB2.size (.cells #[.string ⟨s2.toArray⟩, .int .i64 1] 38)
  have hc2' := hc2.below ((Below.refl _ _).alloc (Nat.le_refl _) (.cells #[.string ⟨s2.toArray⟩, .int .i64 1] 38))
  go_wp2_with fail
  refine (X.out.2.2 _ hc2').mono ?_
  rintro e w3 ⟨rfl, hb3⟩
  have hc3 := hc2'.below hb3
  have hB3 := hB2'.trans (hb3.mono hB2'.size)
  have x0 : w3.cell? ⟨w2.heap.size, 0, none⟩ = some (.string ⟨s2.toArray⟩) := (hb3.cell (p := ⟨w2.heap.size, 0, none⟩) (by simp)).trans (by go_simp)
  have x1 : w3.cell? ⟨w2.heap.size, 1, none⟩ = some (.int .i64 1) := (hb3.cell (p := ⟨w2.heap.size, 1, none⟩) (by simp)).trans (by go_simp)
  have hz3 : w2.heap.size < w3.heap.size := by have := hb3.size; simp at this; omega
  have hB4 := hB3.alloc hB3.size (.cells #[.string ⟨s1.toArray⟩, .int .i64 1] 38)
  have hc4 := hc3.below ((Below.refl _ _).alloc (Nat.le_refl _) (.cells #[.string ⟨s1.toArray⟩, .int .i64 1] 38))
  clear hb1 hb2 hb3 hc1 hc2 hc2' hc3 hch hB0 hB1 hB2 hB2' X
  go_wp2_with fail
  have y0 : (w3.alloc (.cells #[.string ⟨s1.toArray⟩, .int .i64 1] 38)).cell? ⟨w2.heap.size, 0, none⟩ = some (.string ⟨s2.toArray⟩) := by go_simp
  have y1 : (w3.alloc (.cells #[.string ⟨s1.toArray⟩, .int .i64 1] 38)).cell? ⟨w2.heap.size, 1, none⟩ = some (.int .i64 1) := by go_simp
  have y2 : (w3.alloc (.cells #[.string ⟨s1.toArray⟩, .int .i64 1] 38)).cell? ⟨w3.heap.size, 0, none⟩ = some (.string ⟨s1.toArray⟩) := by go_simp
  have y3 : (w3.alloc (.cells #[.string ⟨s1.toArray⟩, .int .i64 1] 38)).cell? ⟨w3.heap.size, 1, none⟩ = some (.int .i64 1) := by go_simp
  have hz4 : w3.heap.size < (w3.alloc (.cells #[.string ⟨s1.toArray⟩, .int .i64 1] 38)).heap.size := by simp
  generalize w3.alloc (.cells #[.string ⟨s1.toArray⟩, .int .i64 1] 38) = W4 at *
  obtain ⟨b, o, hbo, hbW, hcc⟩ := hc4.at_ (by omega)
  cases hbo
  obtain ⟨z0, z1⟩ := hcc 0 (by omega)
  obtain ⟨z2, z3⟩ := hcc 1 (by omega)
  have hr : ∀ (blk j : Nat) (v : Value), blk < W4.heap.size → W4.cell? ⟨blk, j, none⟩ = some v → ∀ d os, (grow (redrawn W4 d) os).cell? ⟨blk, j, none⟩ = some v := fun blk j v hb hc d os => ((below_regrown W4 d os).cell (p := ⟨blk, j, none⟩) hb).trans hc
  have t0 := hr _ _ _ (by omega) y0
  have t1 := hr _ _ _ (by omega) y1
  have t2 := hr _ _ _ hz4 y2
  have t3 := hr _ _ _ hz4 y3
  have t4 : ∀ d os, (grow (redrawn W4 d) os).cell? ⟨w.heap.size, 0, none⟩ = some (.string ⟨s1.toArray⟩) := hr _ _ _ hbW z0
  have t5 : ∀ d os, (grow (redrawn W4 d) os).cell? ⟨w.heap.size, 1, none⟩ = some (.int .i64 1) := hr _ _ _ hbW z1
  have t6 : ∀ d os, (grow (redrawn W4 d) os).cell? ⟨w.heap.size, 2, none⟩ = some (.string ⟨s2.toArray⟩) := hr _ _ _ hbW z2
  have t7 : ∀ d os, (grow (redrawn W4 d) os).cell? ⟨w.heap.size, 3, none⟩ = some (.int .i64 1) := hr _ _ _ hbW z3
  have u1 : ∀ c p W, Calls Tryd.prog 13 #[.string ⟨c.toArray⟩, .string ⟨p.toArray⟩] W fun e w' => e = .returned (.bool (undB c p)) ∧ Below W.heap.size W w' := fun c p W => (Under_any c p W).mono fun _ _ ⟨he, hw⟩ => ⟨he, by rw [← hw]; exact Below.refl _ _⟩
  have u4 : ∀ W, Below W4.heap.size W4 W → Calls Tryd.prog 16 #[.slice (some ⟨w.heap.size, 0, none⟩) 2 2] W fun e w' => e = .returned (.int .i64 0) ∧ Below W.heap.size W w' := fun W hb => by
    have := CheckAll_any _ 2 2 chart W (hc4.below hb) chart_len (HM.out.below (hB4.trans (hb.mono hB4.size)))
    rw [aw_c] at this
    exact this
  have U := Lib.hid (And.intro u1 u4)
  have e1 : (full == [49, 46, 115, 101, 99, 117, 114, 105, 116, 105, 101, 115, 46, 97, 98, 99]) = true := by decide
  have v1 : undB full [49] = true := aw_u1
  have v2 := aw_u2
  have v3 := aw_u3
  clear u1 u4 hr y0 y1 y2 y3 z0 z1 z2 z3 hcc x0 x1 hc4
  refine wp_region_quiet_below (by kernel_rfl) (by kernel_rfl) ?_
  repeat (quiet_step (first
    | (with_reducible exact Calls.regrown_of (U.out.1 _ _ _))
    | (with_reducible exact Calls.regrown_of (U.out.2 _ (below_regrown W4 _ _)))))
  refine wpQuiet_nil ?_
  intro _ hw'
  obtain ⟨⟨dq, osq⟩, hw''⟩ := hw'
  subst hw''
  go_wp2_with fail
  go_ret
  exact ⟨rfl, hB4.trans ((below_regrown W4 dq osq).mono hB4.size)⟩
end Go.Proofs.YtklmgogppljolaaDoor
