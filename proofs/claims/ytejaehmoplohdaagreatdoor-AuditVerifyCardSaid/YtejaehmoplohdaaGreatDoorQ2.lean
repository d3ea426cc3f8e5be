/- Contract of add. -/
import Derived.Test.YtejaehmoplohdaaGreatDoorQ1
import Derived.Deep.RegionHeld3
import Derived.WalkLawsBesides
import Derived.Outline
import Derived.Shelf.Strings.Builder1
import Derived.Shelf.Strings.Builder2
import Derived.Shelf.Strings.Trim
import Derived.Shelf.Small.Bits
import Derived.Shelf.Small.Strs
import Derived.Shelf.Small.Wraps
import Derived.Shelf.Strings.BuilderF
import Derived.Shelf.Strings.BuilderK
import Derived.Shelf.Strconv.Itoa0
import Derived.Shelf.Strconv.Itoa1
import Derived.Shelf.LaysM
import Derived.Shelf.Strconv.Itoa2
import Derived.Shelf.Strconv.Itoa3
import Derived.Shelf.Pu.ParseUintPublic10
import Derived.Shelf.Strings.Search1
import Derived.Shelf.Strings.Search2
import Derived.Shelf.Strings.Cut
import Derived.Shelf.Strings.Shaped
import Derived.Shelf.Strings.Prefix
import Derived.Shelf.Strings.AsciiSet
import Derived.Shelf.Bits.Mul64
import Derived.Shelf.Strings.Repeat
import Derived.Shelf.Strings.SlTrimAscii
import Derived.Test.YtejaehmoplohdaaGreatDoorProg
import Derived.Lib.ItoaMem
namespace Go.Proofs.YtejaehmoplohdaaGreatDoor
open Go.RowKit

theorem minus_nil (w : World) : Calls Tryz.prog 85 #[.slice none 0 0, .slice none 0 0] w (MagPost 0 0 w) := by
  have hnil := fun W => Lib.run_eql_slice_nil (P := Tryz.prog) W 71 101 none 0 0 0 0 Tryz.underlying71
  have hcl : ∀ W, Calls Tryz.prog 115 #[.slice none 0 0] W fun e w' => e = .returned (.slice none 0 0) ∧ W = w' := fun W => by
    have h1 := hnil W
    clear hnil
    go_enter Tryz.func115, Tryz.ntmps115
    go_wp2_with fail
    go_ret
    exact ⟨rfl, rfl⟩
  have HC := Lib.hid hcl
  clear hcl hnil
  go_enter Tryz.func85, Tryz.ntmps85
  go_wp2_with fail
  refine (HC.out _).mono ?_
  rintro e w1 ⟨rfl, rfl⟩
  go_wp2_with fail
  go_loop [13] (fun i => i = .int .i64 0) (fun _ => 0)
  case atStart => rfl
  case round =>
    subst hrel
    go_wp2_with fail
    refine (cut_any none 0 0 [] _ (Mag.nil _)).mono ?_
    rintro e w1 ⟨rfl, rfl⟩
    go_wp2_with fail
    go_ret
    exact ⟨none, 0, 0, [], rfl, Nat.le_refl _, Mag.nil _, (fun _ h => by cases h), rfl, Below.refl _ _⟩
/-- a number in memory: its sign and its groups -/
structure NumV (w : World) (v : Value) (k : Nat) (x : Int) (ng : Bool) (A : Option Addr) (n c : Nat) (ms : List Nat) : Prop where
  eq : v = .agg #[.bool ng, .slice A n c]
  mag : Mag w A n c ms
  le : n ≤ k
  val : Num.sv ng ms = x
/-- a result that is a number with the value x, of at most k groups -/
def NumPost (x : Int) (k : Nat) (w : World) (e : Ending) (w' : World) : Prop := ∃ v ng A n c ms, e = .returned v ∧ NumV w' v k x ng A n c ms ∧ Below w.heap.size w w'
theorem far2 (w5 : World) (h o : Nat) (x y : Value) {u : Value} (d : w5.cell? ⟨h, o, none⟩ = some u) : ((w5.setCell ⟨h + 1 + 1, 0, none⟩ x).setCell ⟨h + 1 + 1, 1, none⟩ y).cell? ⟨h, o, none⟩ = some u := by
  rw [World.cell?_setCell_other _ _ _ _ (by simp), World.cell?_setCell_other _ _ _ _ (by simp)]; exact d
theorem far2' (w5 : World) (h o : Nat) (x y : Value) {u : Value} (d : w5.cell? ⟨h + 1, o, none⟩ = some u) : ((w5.setCell ⟨h + 1 + 1, 0, none⟩ x).setCell ⟨h + 1 + 1, 1, none⟩ y).cell? ⟨h + 1, o, none⟩ = some u := by
  rw [World.cell?_setCell_other _ _ _ _ (by simp), World.cell?_setCell_other _ _ _ _ (by simp)]; exact d
theorem ex_alloc3 (w : World) (a b c : Obj) : Below w.heap.size w (((w.alloc a).alloc b).alloc c) := (((Below.refl _ w).alloc (Nat.le_refl _) _).alloc (by simp) _).alloc (by simp; omega) _
set_option maxRecDepth 100000 in
set_option maxHeartbeats 2000000 in
theorem add_same (ng : Bool) (A B : Option Addr) (n c p d : Nat) (ms ns : List Nat) (w : World) (hm : Mag w A n c ms) (hn : Mag w B p d ns) (h1 : n ≤ 500) (h2 : p ≤ 500) :
    Calls Tryz.prog 53 #[.agg #[.bool ng, .slice A n c], .agg #[.bool ng, .slice B p d]] w (NumPost (Num.sv ng ms + Num.sv ng ns) (max n p + 1) w) := by
  have HM := Lib.hid hm
  have HN := Lib.hid hn
  clear hm hn
  have hbe : (ng == ng) = true := by simp
  go_enter Tryz.func53, Tryz.ntmps53
  go_wp2_with fail
  have hB0 := ex_alloc3 w (.cells #[.bool ng, .slice A n c] 73) (.cells #[.bool ng, .slice B p d] 73) (.cells #[.bool false, .slice none 0 0] 73)
  have hsz : (((w.alloc (.cells #[.bool ng, .slice A n c] 73)).alloc (.cells #[.bool ng, .slice B p d] 73)).alloc (.cells #[.bool false, .slice none 0 0] 73)).heap.size = w.heap.size + 3 := by simp
  have x0 : (((w.alloc (.cells #[.bool ng, .slice A n c] 73)).alloc (.cells #[.bool ng, .slice B p d] 73)).alloc (.cells #[.bool false, .slice none 0 0] 73)).cell? ⟨w.heap.size, 0, none⟩ = some (.bool ng) := by go_simp
  have x1 : (((w.alloc (.cells #[.bool ng, .slice A n c] 73)).alloc (.cells #[.bool ng, .slice B p d] 73)).alloc (.cells #[.bool false, .slice none 0 0] 73)).cell? ⟨w.heap.size, 1, none⟩ = some (.slice A n c) := by go_simp
  have y1 : (((w.alloc (.cells #[.bool ng, .slice A n c] 73)).alloc (.cells #[.bool ng, .slice B p d] 73)).alloc (.cells #[.bool false, .slice none 0 0] 73)).cell? ⟨w.heap.size + 1, 1, none⟩ = some (.slice B p d) := by go_simp
  have r0 : (((w.alloc (.cells #[.bool ng, .slice A n c] 73)).alloc (.cells #[.bool ng, .slice B p d] 73)).alloc (.cells #[.bool false, .slice none 0 0] 73)).cell? ⟨w.heap.size + 1 + 1, 0, none⟩ = some (.bool false) := by go_simp
  have r1 : (((w.alloc (.cells #[.bool ng, .slice A n c] 73)).alloc (.cells #[.bool ng, .slice B p d] 73)).alloc (.cells #[.bool false, .slice none 0 0] 73)).cell? ⟨w.heap.size + 1 + 1, 1, none⟩ = some (.slice none 0 0) := by go_simp
  have f0 : (((w.alloc (.cells #[.bool ng, .slice A n c] 73)).alloc (.cells #[.bool ng, .slice B p d] 73)).alloc (.cells #[.bool false, .slice none 0 0] 73)).frozen? ⟨w.heap.size + 1 + 1, 0, none⟩ = false := by go_simp
  have f1 : (((w.alloc (.cells #[.bool ng, .slice A n c] 73)).alloc (.cells #[.bool ng, .slice B p d] 73)).alloc (.cells #[.bool false, .slice none 0 0] 73)).frozen? ⟨w.heap.size + 1 + 1, 1, none⟩ = false := by go_simp
  generalize (((w.alloc (.cells #[.bool ng, .slice A n c] 73)).alloc (.cells #[.bool ng, .slice B p d] 73)).alloc (.cells #[.bool false, .slice none 0 0] 73)) = W0 at *
  have hM := Lib.hid (fun W (h : Below W0.heap.size W0 W) => (HM.out.below hB0).below h)
  have hN := Lib.hid (fun W (h : Below W0.heap.size W0 W) => (HN.out.below hB0).below h)
  have HSZ := Lib.hid hsz
  have HB0 := Lib.hid hB0
  have hszle : w.heap.size + 3 ≤ W0.heap.size := by omega
  have R := Lib.hid (And.intro r0 (And.intro r1 (And.intro f0 f1)))
  clear hsz hB0 HM HN r0 r1 f0 f1
  go_region_held3 (fun w' => w'.cell? ⟨w.heap.size, 0, none⟩ = some (.bool ng) ∧ w'.cell? ⟨w.heap.size, 1, none⟩ = some (.slice A n c) ∧ w'.cell? ⟨w.heap.size + 1, 1, none⟩ = some (.slice B p d)) (first | exact ⟨d0, d1, d2⟩ | exact ⟨far2 _ _ _ _ _ d0, far2 _ _ _ _ _ d1, far2' _ _ _ _ _ d2⟩ | go_keep)
    (first | (go_at_call 84; refine (plus_any A B n c p d ms ns _ (hM.out _ (by first | exact (Below.refl _ _).drew | exact Below.refl _ _)) (hN.out _ (by first | exact (Below.refl _ _).drew | exact Below.refl _ _)) h1 h2).mono ?_; rintro e w5 ⟨G, k, cc, os, rfl, hk, hmag, hfr, hval, hb5⟩; have hB5 := Lib.hid (show Below W0.heap.size W0 w5 from (Below.refl _ _).drew.trans hb5); have d0 := (hB5.out.cell (p := ⟨w.heap.size, 0, none⟩) (by simp; omega)).trans x0; have d1 := (hB5.out.cell (p := ⟨w.heap.size, 1, none⟩) (by simp; omega)).trans x1; have d2 := (hB5.out.cell (p := ⟨w.heap.size + 1, 1, none⟩) (by simp; omega)).trans y1; have s0 := (hB5.out.cell (p := ⟨w.heap.size + 1 + 1, 0, none⟩) (by simp; omega)).trans R.out.1; have s1 := (hB5.out.cell (p := ⟨w.heap.size + 1 + 1, 1, none⟩) (by simp; omega)).trans R.out.2.1; have g0 := (hB5.out.frozen (p := ⟨w.heap.size + 1 + 1, 0, none⟩) (by simp; omega)).trans R.out.2.2.1; have g1 := (hB5.out.frozen (p := ⟨w.heap.size + 1 + 1, 1, none⟩) (by simp; omega)).trans R.out.2.2.2; have hFr := Lib.hid (show ∀ ad : Addr, G = some ad → w.heap.size + 1 + 1 < ad.block from fun ad h => by have := hfr ad h; have h2 := hszle; simp at this; omega); have hMag := Lib.hid hmag; have hVal := Lib.hid hval; clear hmag hfr hval hb5))
  have t0 : ((w5.setCell ⟨w.heap.size + 1 + 1, 0, none⟩ (.bool ng)).setCell ⟨w.heap.size + 1 + 1, 1, none⟩ (.slice G k cc)).cell? ⟨w.heap.size + 1 + 1, 0, none⟩ = some (.bool ng) := by
    rw [World.cell?_setCell_other _ _ _ _ (by simp), World.cell?_setCell_same _ _ _ s0]
  have s1' : (w5.setCell ⟨w.heap.size + 1 + 1, 0, none⟩ (.bool ng)).cell? ⟨w.heap.size + 1 + 1, 1, none⟩ = some (.slice none 0 0) := by
    rw [World.cell?_setCell_other _ _ _ _ (by simp)]; exact s1
  have t1 := World.cell?_setCell_same _ _ (.slice G k cc) s1'
  clear s1'
  have hb6 : Below w.heap.size w ((w5.setCell ⟨w.heap.size + 1 + 1, 0, none⟩ (.bool ng)).setCell ⟨w.heap.size + 1 + 1, 1, none⟩ (.slice G k cc)) := ((HB0.out.trans (hB5.out.mono (by omega))).setCell (p := ⟨w.heap.size + 1 + 1, 0, none⟩) (by simp; omega) _).setCell (p := ⟨w.heap.size + 1 + 1, 1, none⟩) (by simp; omega) _
  have hm6 : Mag ((w5.setCell ⟨w.heap.size + 1 + 1, 0, none⟩ (.bool ng)).setCell ⟨w.heap.size + 1 + 1, 1, none⟩ (.slice G k cc)) G k cc os := hMag.out.far hFr.out _ _
  have HF := Lib.hid (And.intro hb6 hm6)
  clear hb6 hm6 s0 s1 g0 g1 d0 d1 d2 x0 x1 y1 hB5 hMag
  generalize (w5.setCell ⟨w.heap.size + 1 + 1, 0, none⟩ (.bool ng)).setCell ⟨w.heap.size + 1 + 1, 1, none⟩ (.slice G k cc) = w6 at *
  go_wp2_with fail
  exact bodyPost_ret (v := .agg #[.bool ng, .slice G k cc]) (by simp [results, Tryz.results53, go_sem, t0, t1]) rfl ⟨_, ng, G, k, cc, os, rfl, ⟨rfl, HF.out.2, hk, by rw [Num.sv, Num.sv, Num.sv, hVal.out]; cases ng <;> simp <;> omega⟩, HF.out.1⟩
theorem minus_all (A B : Option Addr) (n c p d : Nat) (ms ns : List Nat) (w : World) (hm : Mag w A n c ms) (hn : Mag w B p d ns) (tm : topOk ms) (tn : topOk ns) (h500 : n ≤ 500) (hv : Num.magV ns ≤ Num.magV ms) (zm : n = 0 → A = none ∧ c = 0) (zn : p = 0 → B = none ∧ d = 0) :
    Calls Tryz.prog 85 #[.slice A n c, .slice B p d] w (MagPost (Num.magV ms - Num.magV ns) n w) := by
  have hle : p ≤ n := by
    rcases Nat.lt_or_ge n p with h | h
    · have := Num.mag_longer hm.lt tn.ne (by rw [hm.len, hn.len]; exact h)
      omega
    · exact h
  rcases Nat.eq_zero_or_pos n with h0 | h0
  · obtain ⟨rfl, rfl⟩ := zm h0
    obtain ⟨rfl, rfl⟩ := zn (by omega)
    subst h0
    obtain rfl : p = 0 := by omega
    have e1 : ms = [] := List.eq_nil_of_length_eq_zero hm.len
    have e2 : ns = [] := List.eq_nil_of_length_eq_zero hn.len
    subst e1 e2
    exact minus_nil w
  · exact minus_any A B n c p d ms ns w hm hn hle h0 h500 hv
/-- the three boxes of add: both numbers and the result -/
structure AddW (w W : World) (s1 : Bool) (A : Option Addr) (n c : Nat) (s2 : Bool) (B : Option Addr) (p d : Nat) : Prop where
  x0 : W.cell? ⟨w.heap.size, 0, none⟩ = some (.bool s1)
  x1 : W.cell? ⟨w.heap.size, 1, none⟩ = some (.slice A n c)
  y0 : W.cell? ⟨w.heap.size + 1, 0, none⟩ = some (.bool s2)
  y1 : W.cell? ⟨w.heap.size + 1, 1, none⟩ = some (.slice B p d)
  r0 : W.cell? ⟨w.heap.size + 1 + 1, 0, none⟩ = some (.bool false)
  r1 : W.cell? ⟨w.heap.size + 1 + 1, 1, none⟩ = some (.slice none 0 0)
  fx0 : W.frozen? ⟨w.heap.size, 0, none⟩ = false
  fx1 : W.frozen? ⟨w.heap.size, 1, none⟩ = false
  fy0 : W.frozen? ⟨w.heap.size + 1, 0, none⟩ = false
  fy1 : W.frozen? ⟨w.heap.size + 1, 1, none⟩ = false
  fr0 : W.frozen? ⟨w.heap.size + 1 + 1, 0, none⟩ = false
  fr1 : W.frozen? ⟨w.heap.size + 1 + 1, 1, none⟩ = false
  sz : w.heap.size + 3 ≤ W.heap.size
  bel : Below w.heap.size w W
theorem AddW.start (w : World) (s1 : Bool) (A : Option Addr) (n c : Nat) (s2 : Bool) (B : Option Addr) (p d : Nat) : AddW w (((w.alloc (.cells #[.bool s1, .slice A n c] 73)).alloc (.cells #[.bool s2, .slice B p d] 73)).alloc (.cells #[.bool false, .slice none 0 0] 73)) s1 A n c s2 B p d :=
  ⟨by go_simp, by go_simp, by go_simp, by go_simp, by go_simp, by go_simp, by go_simp, by go_simp, by go_simp, by go_simp, by go_simp, by go_simp, by simp, ex_alloc3 w _ _ _⟩
theorem AddW.swap {w W : World} {s1 : Bool} {A : Option Addr} {n c : Nat} {s2 : Bool} {B : Option Addr} {p d : Nat} (h : AddW w W s1 A n c s2 B p d) : AddW w ((((W.setCell ⟨w.heap.size, 0, none⟩ (.bool s2)).setCell ⟨w.heap.size, 1, none⟩ (.slice B p d)).setCell ⟨w.heap.size + 1, 0, none⟩ (.bool s1)).setCell ⟨w.heap.size + 1, 1, none⟩ (.slice A n c)) s2 B p d s1 A n c := by
  have e : ∀ (w : World) (a b : Addr) (v : Value), a ≠ b → (w.setCell a v).cell? b = w.cell? b := fun w a b v hne => World.cell?_setCell_other _ _ _ _ hne
  have q0 : (W.setCell ⟨w.heap.size, 0, none⟩ (.bool s2)).cell? ⟨w.heap.size, 1, none⟩ = some (.slice A n c) := by rw [e _ _ _ _ (by simp)]; exact h.x1
  have q1 : ((W.setCell ⟨w.heap.size, 0, none⟩ (.bool s2)).setCell ⟨w.heap.size, 1, none⟩ (.slice B p d)).cell? ⟨w.heap.size + 1, 0, none⟩ = some (.bool s2) := by rw [e _ _ _ _ (by simp), e _ _ _ _ (by simp)]; exact h.y0
  have q2 : (((W.setCell ⟨w.heap.size, 0, none⟩ (.bool s2)).setCell ⟨w.heap.size, 1, none⟩ (.slice B p d)).setCell ⟨w.heap.size + 1, 0, none⟩ (.bool s1)).cell? ⟨w.heap.size + 1, 1, none⟩ = some (.slice B p d) := by rw [e _ _ _ _ (by simp), e _ _ _ _ (by simp), e _ _ _ _ (by simp)]; exact h.y1
  refine ⟨?_, ?_, ?_, ?_, ?_, ?_, ?_, ?_, ?_, ?_, ?_, ?_, ?_, ?_⟩
  · rw [e _ _ _ _ (by simp), e _ _ _ _ (by simp), e _ _ _ _ (by simp)]; exact World.cell?_setCell_same _ _ _ h.x0
  · rw [e _ _ _ _ (by simp), e _ _ _ _ (by simp)]; exact World.cell?_setCell_same _ _ _ q0
  · rw [e _ _ _ _ (by simp)]; exact World.cell?_setCell_same _ _ _ q1
  · exact World.cell?_setCell_same _ _ _ q2
  · rw [e _ _ _ _ (by simp), e _ _ _ _ (by simp), e _ _ _ _ (by simp), e _ _ _ _ (by simp)]; exact h.r0
  · rw [e _ _ _ _ (by simp), e _ _ _ _ (by simp), e _ _ _ _ (by simp), e _ _ _ _ (by simp)]; exact h.r1
  · simp only [World.frozen?_setCell]; exact h.fx0
  · simp only [World.frozen?_setCell]; exact h.fx1
  · simp only [World.frozen?_setCell]; exact h.fy0
  · simp only [World.frozen?_setCell]; exact h.fy1
  · simp only [World.frozen?_setCell]; exact h.fr0
  · simp only [World.frozen?_setCell]; exact h.fr1
  · simpa using h.sz
  · exact (((h.bel.setCell (p := ⟨w.heap.size, 0, none⟩) (by simp) _).setCell (p := ⟨w.heap.size, 1, none⟩) (by simp) _).setCell (p := ⟨w.heap.size + 1, 0, none⟩) (by simp) _).setCell (p := ⟨w.heap.size + 1, 1, none⟩) (by simp) _
theorem AddW.below {w W W' : World} {s1 : Bool} {A : Option Addr} {n c : Nat} {s2 : Bool} {B : Option Addr} {p d : Nat} (h : AddW w W s1 A n c s2 B p d) (hb : Below W.heap.size W W') : AddW w W' s1 A n c s2 B p d := by
  have hs := h.sz
  exact ⟨(hb.cell (by simp; omega)).trans h.x0, (hb.cell (by simp; omega)).trans h.x1, (hb.cell (by simp; omega)).trans h.y0, (hb.cell (by simp; omega)).trans h.y1, (hb.cell (by simp; omega)).trans h.r0, (hb.cell (by simp; omega)).trans h.r1, (hb.frozen (by simp; omega)).trans h.fx0, (hb.frozen (by simp; omega)).trans h.fx1, (hb.frozen (by simp; omega)).trans h.fy0, (hb.frozen (by simp; omega)).trans h.fy1, (hb.frozen (by simp; omega)).trans h.fr0, (hb.frozen (by simp; omega)).trans h.fr1, Nat.le_trans h.sz hb.size, h.bel.trans (hb.mono (by omega))⟩
set_option maxRecDepth 100000 in
set_option maxHeartbeats 4000000 in
theorem add_diff (sa sb : Bool) (A B : Option Addr) (n c p d : Nat) (ms ns : List Nat) (w : World) (hs : sa ≠ sb) (hm : Mag w A n c ms) (hn : Mag w B p d ns) (tm : topOk ms) (tn : topOk ns) (zm : n = 0 → A = none ∧ c = 0) (zn : p = 0 → B = none ∧ d = 0) (h1 : n ≤ 500) (h2 : p ≤ 500) :
    Calls Tryz.prog 53 #[.agg #[.bool sa, .slice A n c], .agg #[.bool sb, .slice B p d]] w (NumPost (Num.sv sa ms + Num.sv sb ns) (max n p + 1) w) := by
  have HM := Lib.hid hm
  have HN := Lib.hid hn
  have HT := Lib.hid (And.intro tm (And.intro tn (And.intro zm zn)))
  have HS := Lib.hid hs
  clear hm hn tm tn zm zn
  have hbe : (sa == sb) = false := by simpa using hs
  clear hs
  have hA := AddW.start w sa A n c sb B p d
  have x1 := hA.x1
  have y1 := hA.y1
  have HA := Lib.hid hA
  have HM0 := Lib.hid (HM.out.below hA.bel)
  have HN0 := Lib.hid (HN.out.below hA.bel)
  clear hA
  go_enter Tryz.func53, Tryz.ntmps53
  go_wp2_with fail
  generalize (((w.alloc (.cells #[.bool sa, .slice A n c] 73)).alloc (.cells #[.bool sb, .slice B p d] 73)).alloc (.cells #[.bool false, .slice none 0 0] 73)) = W at *
  refine (compare_any A B n c p d ms ns _ HM0.out HN0.out HT.out.1 HT.out.2.1 (by omega) (by omega)).mono ?_
  rintro e W1 ⟨z, rfl, hz1, hz2, hz3, hz4, hb1⟩
  have HA1 := Lib.hid (HA.out.below hb1)
  have HM1 := Lib.hid (HM0.out.below hb1)
  have HN1 := Lib.hid (HN0.out.below hb1)
  have hb0 := HA.out.sz
  clear hb1 HA HM0 HN0 x1 y1 hb0
  by_cases hlt : z < 0
  · have hd : decide (z < 0) = true := decide_eq_true hlt
    have hv := Lib.hid (show Num.magV ms ≤ Num.magV ns by have := hz3.1 hlt; omega)
    clear hz3 hz4
    have x0 := HA1.out.x0; have x1 := HA1.out.x1; have y0 := HA1.out.y0; have y1 := HA1.out.y1
    have fx0 := HA1.out.fx0; have fx1 := HA1.out.fx1; have fy0 := HA1.out.fy0; have fy1 := HA1.out.fy1
    have HA := Lib.hid HA1.out.swap
    clear HA1 HM1 HN1
    go_wp2_with fail
    clear x0 x1 y0 y1 fx0 fx1 fy0 fy1
    generalize ((((W1.setCell ⟨w.heap.size, 0, none⟩ (.bool sb)).setCell ⟨w.heap.size, 1, none⟩ (.slice B p d)).setCell ⟨w.heap.size + 1, 0, none⟩ (.bool sa)).setCell ⟨w.heap.size + 1, 1, none⟩ (.slice A n c)) = W0 at *
    have HM0 := Lib.hid (HN.out.below HA.out.bel)
    have HN0 := Lib.hid (HM.out.below HA.out.bel)
    have hM := Lib.hid (fun W (h : Below W0.heap.size W0 W) => HM0.out.below h)
    have hN := Lib.hid (fun W (h : Below W0.heap.size W0 W) => HN0.out.below h)
    have x0 := HA.out.x0
    have x1 := HA.out.x1
    have y1 := HA.out.y1
    have hszle := HA.out.sz
    have HB0 := Lib.hid HA.out.bel
    have R := Lib.hid (And.intro HA.out.r0 (And.intro HA.out.r1 (And.intro HA.out.fr0 HA.out.fr1)))
    go_region_held3 (fun w' => w'.cell? ⟨w.heap.size, 0, none⟩ = some (.bool sb) ∧ w'.cell? ⟨w.heap.size, 1, none⟩ = some (.slice B p d) ∧ w'.cell? ⟨w.heap.size + 1, 1, none⟩ = some (.slice A n c)) (first | exact ⟨d0, d1, d2⟩ | exact ⟨far2 _ _ _ _ _ d0, far2 _ _ _ _ _ d1, far2' _ _ _ _ _ d2⟩ | go_keep)
      (first | (go_at_call 85; refine (minus_all B A p d n c ns ms  _ (hM.out _ (by first | exact (Below.refl _ _).drew | exact Below.refl _ _)) (hN.out _ (by first | exact (Below.refl _ _).drew | exact Below.refl _ _)) HT.out.2.1 HT.out.1 h2 hv.out HT.out.2.2.2 HT.out.2.2.1).mono ?_; rintro e w5 ⟨G, k, cc, os, rfl, hk, hmag, hfr, hval, hb5⟩; have hB5 := Lib.hid (show Below W0.heap.size W0 w5 from (Below.refl _ _).drew.trans hb5); have d0 := (hB5.out.cell (p := ⟨w.heap.size, 0, none⟩) (by simp; omega)).trans x0; have d1 := (hB5.out.cell (p := ⟨w.heap.size, 1, none⟩) (by simp; omega)).trans x1; have d2 := (hB5.out.cell (p := ⟨w.heap.size + 1, 1, none⟩) (by simp; omega)).trans y1; have s0 := (hB5.out.cell (p := ⟨w.heap.size + 1 + 1, 0, none⟩) (by simp; omega)).trans R.out.1; have s1 := (hB5.out.cell (p := ⟨w.heap.size + 1 + 1, 1, none⟩) (by simp; omega)).trans R.out.2.1; have g0 := (hB5.out.frozen (p := ⟨w.heap.size + 1 + 1, 0, none⟩) (by simp; omega)).trans R.out.2.2.1; have g1 := (hB5.out.frozen (p := ⟨w.heap.size + 1 + 1, 1, none⟩) (by simp; omega)).trans R.out.2.2.2; have hFr := Lib.hid (show ∀ ad : Addr, G = some ad → w.heap.size + 1 + 1 < ad.block from fun ad h => by have := hfr ad h; have h2 := hszle; simp at this; omega); have hMag := Lib.hid hmag; have hVal := Lib.hid hval; clear hmag hfr hval hb5))
    have t0 : ((w5.setCell ⟨w.heap.size + 1 + 1, 0, none⟩ (.bool sb)).setCell ⟨w.heap.size + 1 + 1, 1, none⟩ (.slice G k cc)).cell? ⟨w.heap.size + 1 + 1, 0, none⟩ = some (.bool sb) := by
      rw [World.cell?_setCell_other _ _ _ _ (by simp), World.cell?_setCell_same _ _ _ s0]
    have s1' : (w5.setCell ⟨w.heap.size + 1 + 1, 0, none⟩ (.bool sb)).cell? ⟨w.heap.size + 1 + 1, 1, none⟩ = some (.slice none 0 0) := by
      rw [World.cell?_setCell_other _ _ _ _ (by simp)]; exact s1
    have t1 := World.cell?_setCell_same _ _ (.slice G k cc) s1'
    clear s1'
    have hb6 : Below w.heap.size w ((w5.setCell ⟨w.heap.size + 1 + 1, 0, none⟩ (.bool sb)).setCell ⟨w.heap.size + 1 + 1, 1, none⟩ (.slice G k cc)) := ((HB0.out.trans (hB5.out.mono (by omega))).setCell (p := ⟨w.heap.size + 1 + 1, 0, none⟩) (by simp; omega) _).setCell (p := ⟨w.heap.size + 1 + 1, 1, none⟩) (by simp; omega) _
    have hm6 : Mag ((w5.setCell ⟨w.heap.size + 1 + 1, 0, none⟩ (.bool sb)).setCell ⟨w.heap.size + 1 + 1, 1, none⟩ (.slice G k cc)) G k cc os := hMag.out.far hFr.out _ _
    have HF := Lib.hid (And.intro hb6 hm6)
    clear hb6 hm6 s0 s1 g0 g1 d0 d1 d2 x0 x1 y1 hB5 hMag
    generalize (w5.setCell ⟨w.heap.size + 1 + 1, 0, none⟩ (.bool sb)).setCell ⟨w.heap.size + 1 + 1, 1, none⟩ (.slice G k cc) = w6 at *
    go_wp2_with fail
    exact bodyPost_ret (v := .agg #[.bool sb, .slice G k cc]) (by simp [results, Tryz.results53, go_sem, t0, t1]) rfl ⟨_, sb, G, k, cc, os, rfl, ⟨rfl, HF.out.2, Nat.le_trans hk (by omega), by have hq := HS.out; have hqv := hv.out; rw [Num.sv, Num.sv, Num.sv, hVal.out]; cases sa <;> cases sb <;> simp at hq ⊢ <;> omega⟩, HF.out.1⟩
  · have hd : decide (z < 0) = false := decide_eq_false hlt
    have hv := Lib.hid (show Num.magV ns ≤ Num.magV ms by rcases Nat.lt_or_ge (Num.magV ms) (Num.magV ns) with h | h; · exact absurd (hz3.2 h) hlt
                                                          · exact h)
    clear hz3 hz4
    have HA := HA1
    clear HA1 HM1 HN1
    go_wp2_with fail
    obtain ⟨W0, hW0⟩ : ∃ W0, W0 = W1 := ⟨_, rfl⟩
    rw [← hW0] at HA ⊢
    clear hW0
    have HM0 := Lib.hid (HM.out.below HA.out.bel)
    have HN0 := Lib.hid (HN.out.below HA.out.bel)
    have hM := Lib.hid (fun W (h : Below W0.heap.size W0 W) => HM0.out.below h)
    have hN := Lib.hid (fun W (h : Below W0.heap.size W0 W) => HN0.out.below h)
    have x0 := HA.out.x0
    have x1 := HA.out.x1
    have y1 := HA.out.y1
    have hszle := HA.out.sz
    have HB0 := Lib.hid HA.out.bel
    have R := Lib.hid (And.intro HA.out.r0 (And.intro HA.out.r1 (And.intro HA.out.fr0 HA.out.fr1)))
    go_region_held3 (fun w' => w'.cell? ⟨w.heap.size, 0, none⟩ = some (.bool sa) ∧ w'.cell? ⟨w.heap.size, 1, none⟩ = some (.slice A n c) ∧ w'.cell? ⟨w.heap.size + 1, 1, none⟩ = some (.slice B p d)) (first | exact ⟨d0, d1, d2⟩ | exact ⟨far2 _ _ _ _ _ d0, far2 _ _ _ _ _ d1, far2' _ _ _ _ _ d2⟩ | go_keep)
      (first | (go_at_call 85; refine (minus_all A B n c p d ms ns  _ (hM.out _ (by first | exact (Below.refl _ _).drew | exact Below.refl _ _)) (hN.out _ (by first | exact (Below.refl _ _).drew | exact Below.refl _ _)) HT.out.1 HT.out.2.1 h1 hv.out HT.out.2.2.1 HT.out.2.2.2).mono ?_; rintro e w5 ⟨G, k, cc, os, rfl, hk, hmag, hfr, hval, hb5⟩; have hB5 := Lib.hid (show Below W0.heap.size W0 w5 from (Below.refl _ _).drew.trans hb5); have d0 := (hB5.out.cell (p := ⟨w.heap.size, 0, none⟩) (by simp; omega)).trans x0; have d1 := (hB5.out.cell (p := ⟨w.heap.size, 1, none⟩) (by simp; omega)).trans x1; have d2 := (hB5.out.cell (p := ⟨w.heap.size + 1, 1, none⟩) (by simp; omega)).trans y1; have s0 := (hB5.out.cell (p := ⟨w.heap.size + 1 + 1, 0, none⟩) (by simp; omega)).trans R.out.1; have s1 := (hB5.out.cell (p := ⟨w.heap.size + 1 + 1, 1, none⟩) (by simp; omega)).trans R.out.2.1; have g0 := (hB5.out.frozen (p := ⟨w.heap.size + 1 + 1, 0, none⟩) (by simp; omega)).trans R.out.2.2.1; have g1 := (hB5.out.frozen (p := ⟨w.heap.size + 1 + 1, 1, none⟩) (by simp; omega)).trans R.out.2.2.2; have hFr := Lib.hid (show ∀ ad : Addr, G = some ad → w.heap.size + 1 + 1 < ad.block from fun ad h => by have := hfr ad h; have h2 := hszle; simp at this; omega); have hMag := Lib.hid hmag; have hVal := Lib.hid hval; clear hmag hfr hval hb5))
    have t0 : ((w5.setCell ⟨w.heap.size + 1 + 1, 0, none⟩ (.bool sa)).setCell ⟨w.heap.size + 1 + 1, 1, none⟩ (.slice G k cc)).cell? ⟨w.heap.size + 1 + 1, 0, none⟩ = some (.bool sa) := by
      rw [World.cell?_setCell_other _ _ _ _ (by simp), World.cell?_setCell_same _ _ _ s0]
    have s1' : (w5.setCell ⟨w.heap.size + 1 + 1, 0, none⟩ (.bool sa)).cell? ⟨w.heap.size + 1 + 1, 1, none⟩ = some (.slice none 0 0) := by
      rw [World.cell?_setCell_other _ _ _ _ (by simp)]; exact s1
    have t1 := World.cell?_setCell_same _ _ (.slice G k cc) s1'
    clear s1'
    have hb6 : Below w.heap.size w ((w5.setCell ⟨w.heap.size + 1 + 1, 0, none⟩ (.bool sa)).setCell ⟨w.heap.size + 1 + 1, 1, none⟩ (.slice G k cc)) := ((HB0.out.trans (hB5.out.mono (by omega))).setCell (p := ⟨w.heap.size + 1 + 1, 0, none⟩) (by simp; omega) _).setCell (p := ⟨w.heap.size + 1 + 1, 1, none⟩) (by simp; omega) _
    have hm6 : Mag ((w5.setCell ⟨w.heap.size + 1 + 1, 0, none⟩ (.bool sa)).setCell ⟨w.heap.size + 1 + 1, 1, none⟩ (.slice G k cc)) G k cc os := hMag.out.far hFr.out _ _
    have HF := Lib.hid (And.intro hb6 hm6)
    clear hb6 hm6 s0 s1 g0 g1 d0 d1 d2 x0 x1 y1 hB5 hMag
    generalize (w5.setCell ⟨w.heap.size + 1 + 1, 0, none⟩ (.bool sa)).setCell ⟨w.heap.size + 1 + 1, 1, none⟩ (.slice G k cc) = w6 at *
    go_wp2_with fail
    exact bodyPost_ret (v := .agg #[.bool sa, .slice G k cc]) (by simp [results, Tryz.results53, go_sem, t0, t1]) rfl ⟨_, sa, G, k, cc, os, rfl, ⟨rfl, HF.out.2, Nat.le_trans hk (by omega), by have hq := HS.out; have hqv := hv.out; rw [Num.sv, Num.sv, Num.sv, hVal.out]; cases sa <;> cases sb <;> simp at hq ⊢ <;> omega⟩, HF.out.1⟩
theorem add_any (sa sb : Bool) (A B : Option Addr) (n c p d : Nat) (ms ns : List Nat) (w : World) (hm : Mag w A n c ms) (hn : Mag w B p d ns) (tm : topOk ms) (tn : topOk ns) (zm : n = 0 → A = none ∧ c = 0) (zn : p = 0 → B = none ∧ d = 0) (h1 : n ≤ 500) (h2 : p ≤ 500) :
    Calls Tryz.prog 53 #[.agg #[.bool sa, .slice A n c], .agg #[.bool sb, .slice B p d]] w (NumPost (Num.sv sa ms + Num.sv sb ns) (max n p + 1) w) := by
  by_cases hs : sa = sb
  · subst hs
    exact add_same sa A B n c p d ms ns w hm hn h1 h2
  · exact add_diff sa sb A B n c p d ms ns w hs hm hn tm tn zm zn h1 h2
end Go.Proofs.YtejaehmoplohdaaGreatDoor

/- Contracts of library functions at this translation, laid by the kit. -/
namespace Go.Proofs
open Go.Shelf
def Tryz.lays169_ren : Go.Shelf.Ren := ⟨fun | 169 => 83 | n => n, fun | 70 => 107 | 9 => 9 | 0 => 0 | 72 => 109 | 37 => 50 | 127 => 145 | 3 => 3 | 5 => 5 | n => n, fun | n => n⟩
theorem Tryz.lays169 : Go.Proofs.Lays.n169 Tryz.prog Tryz.lays169_ren := {
  mixed := by kernel_rfl
  f169 := Tryz.func83.trans (congrArg some (by kernel_rfl))
  t0 := Tryz.underlying0
  a0 := Tryz.isAgg0
  z0 := Tryz.sizeOf0
  v0 := Tryz.zeroValue0
  t3 := Tryz.underlying3
  a3 := Tryz.isAgg3
  z3 := Tryz.sizeOf3
  v3 := Tryz.zeroValue3
  t9 := Tryz.underlying9
  a9 := Tryz.isAgg9
  z9 := Tryz.sizeOf9
  v9 := Tryz.zeroValue9
  t37 := Tryz.underlying50
  a37 := Tryz.isAgg50
  z37 := Tryz.sizeOf50
  v37 := Tryz.zeroValue50
  t70 := Tryz.underlying107
  a70 := Tryz.isAgg107
  z70 := Tryz.sizeOf107
  v70 := Tryz.zeroValue107
  t72 := Tryz.underlying109
  a72 := Tryz.isAgg109
  z72 := Tryz.sizeOf109
  v72 := Tryz.zeroValue109
  t127 := Tryz.underlying145
  a127 := Tryz.isAgg145
  z127 := Tryz.sizeOf145
  v127 := Tryz.zeroValue145 }
theorem Tryz.Builder_Extra_169 : Builder.Extra Tryz.prog Tryz.lays169_ren := {
  sizeBuilder := by kernel_rfl
  liesBuilder := by kernel_rfl
  t5 := Tryz.underlying5
  a5 := Tryz.isAgg5
  z5 := Tryz.sizeOf5
  v5 := Tryz.zeroValue5
  infoByte := by kernel_rfl
  cellsByte := by kernel_rfl
  sizeByte := by kernel_rfl
  neB5 := by decide }
open Go.RowKit in
theorem Tryz.Builder_String (B b : Nat) (l : List UInt8) (w : World) (h : Lib.IsBuilder 109 5 B b (Lib.byteCells l) w) (h0 : l ≠ []) :
    Calls Tryz.prog 83 #[.pointer (some ⟨b, 0, none⟩)] w fun e w' => e = .returned (.string ⟨l.toArray⟩) ∧ Below B w w' := Any.Builder_String Tryz.lays169 Tryz.Builder_Extra_169 B b l w h h0
open Go.RowKit in
theorem Tryz.Builder_String_empty (B b : Nat) (w : World) (h : Lib.IsBuilder 109 5 B b [] w) (hBw : B ≤ w.heap.size) :
    Calls Tryz.prog 83 #[.pointer (some ⟨b, 0, none⟩)] w fun e w' => e = .returned (.string ⟨#[]⟩) ∧ Below B w w' := Any.Builder_String_empty Tryz.lays169 Tryz.Builder_Extra_169 B b w h hBw
open Go.RowKit in
theorem Tryz.Builder_String_any (B b : Nat) (l : List UInt8) (w : World) (h : Lib.IsBuilder 109 5 B b (Lib.byteCells l) w) (hBw : B ≤ w.heap.size) :
    Calls Tryz.prog 83 #[.pointer (some ⟨b, 0, none⟩)] w fun e w' => e = .returned (.string ⟨l.toArray⟩) ∧ Below B w w' := Any.Builder_String_any Tryz.lays169 Tryz.Builder_Extra_169 B b l w h hBw
def Tryz.lays161_ren : Go.Shelf.Ren := ⟨fun | 161 => 106 | 231 => 130 | 227 => 132 | 233 => 133 | 235 => 135 | 228 => 166 | 197 => 167 | 151 => 168 | 260 => 187 | 152 => 188 | 137 => 205 | 119 => 206 | 224 => 207 | 225 => 208 | 217 => 216 | 266 => 219 | n => n, fun | 9 => 9 | 4 => 4 | 3 => 3 | 5 => 5 | 117 => 170 | 116 => 169 | 0 => 0 | 124 => 173 | 105 => 202 | 21 => 21 | 119 => 240 | 46 => 131 | 139 => 243 | 138 => 242 | n => n, fun | 3 => 4 | 4 => 5 | n => n⟩
theorem Tryz.lays161 : Go.Proofs.Lays.n161 Tryz.prog Tryz.lays161_ren := {
  mixed := by kernel_rfl
  f119 := Tryz.func206.trans (congrArg some (by kernel_rfl))
  f137 := Tryz.func205.trans (congrArg some (by kernel_rfl))
  f151 := Tryz.func168.trans (congrArg some (by kernel_rfl))
  f152 := Tryz.func188.trans (congrArg some (by kernel_rfl))
  f161 := Tryz.func106.trans (congrArg some (by kernel_rfl))
  f197 := Tryz.func167.trans (congrArg some (by kernel_rfl))
  f217 := Tryz.func216.trans (congrArg some (by kernel_rfl))
  f224 := Tryz.func207.trans (congrArg some (by kernel_rfl))
  f225 := Tryz.func208.trans (congrArg some (by kernel_rfl))
  f227 := Tryz.func132.trans (congrArg some (by kernel_rfl))
  f228 := Tryz.func166.trans (congrArg some (by kernel_rfl))
  f231 := Tryz.func130.trans (congrArg some (by kernel_rfl))
  f233 := Tryz.func133.trans (congrArg some (by kernel_rfl))
  f235 := Tryz.func135.trans (congrArg some (by kernel_rfl))
  f260 := Tryz.func187.trans (congrArg some (by kernel_rfl))
  f266 := Tryz.func219.trans (congrArg some (by kernel_rfl))
  t0 := Tryz.underlying0
  a0 := Tryz.isAgg0
  z0 := Tryz.sizeOf0
  v0 := Tryz.zeroValue0
  t3 := Tryz.underlying3
  a3 := Tryz.isAgg3
  z3 := Tryz.sizeOf3
  v3 := Tryz.zeroValue3
  t4 := Tryz.underlying4
  a4 := Tryz.isAgg4
  z4 := Tryz.sizeOf4
  v4 := Tryz.zeroValue4
  t5 := Tryz.underlying5
  a5 := Tryz.isAgg5
  z5 := Tryz.sizeOf5
  v5 := Tryz.zeroValue5
  t9 := Tryz.underlying9
  a9 := Tryz.isAgg9
  z9 := Tryz.sizeOf9
  v9 := Tryz.zeroValue9
  t21 := Tryz.underlying21
  a21 := Tryz.isAgg21
  z21 := Tryz.sizeOf21
  v21 := Tryz.zeroValue21
  t46 := Tryz.underlying131
  a46 := Tryz.isAgg131
  z46 := Tryz.sizeOf131
  v46 := Tryz.zeroValue131
  t105 := Tryz.underlying202
  a105 := Tryz.isAgg202
  z105 := Tryz.sizeOf202
  v105 := Tryz.zeroValue202
  t116 := Tryz.underlying169
  a116 := Tryz.isAgg169
  z116 := Tryz.sizeOf169
  t117 := Tryz.underlying170
  a117 := Tryz.isAgg170
  z117 := Tryz.sizeOf170
  v117 := Tryz.zeroValue170
  t119 := Tryz.underlying240
  a119 := Tryz.isAgg240
  z119 := Tryz.sizeOf240
  t124 := Tryz.underlying173
  a124 := Tryz.isAgg173
  z124 := Tryz.sizeOf173
  v124 := Tryz.zeroValue173
  t138 := Tryz.underlying242
  a138 := Tryz.isAgg242
  z138 := Tryz.sizeOf242
  v138 := Tryz.zeroValue242
  t139 := Tryz.underlying243
  a139 := Tryz.isAgg243
  z139 := Tryz.sizeOf243
  v139 := Tryz.zeroValue243
  g3 := by kernel_rfl
  g4 := by kernel_rfl }
def Tryz.lays160_ren : Go.Shelf.Ren := ⟨fun | 160 => 105 | 232 => 131 | 231 => 130 | 227 => 132 | 234 => 134 | 233 => 133 | 236 => 136 | 235 => 135 | 228 => 166 | 271 => 169 | 151 => 168 | 197 => 167 | 120 => 189 | 152 => 188 | 260 => 187 | 137 => 205 | 119 => 206 | 224 => 207 | 225 => 208 | 217 => 216 | 266 => 219 | n => n, fun | 9 => 9 | 4 => 4 | 3 => 3 | 5 => 5 | 117 => 170 | 116 => 169 | 0 => 0 | 124 => 173 | 21 => 21 | 105 => 202 | 46 => 131 | 119 => 240 | 139 => 243 | 138 => 242 | n => n, fun | 3 => 4 | 4 => 5 | n => n⟩
theorem Tryz.lays160 : Go.Proofs.Lays.n160 Tryz.prog Tryz.lays160_ren := {
  mixed := by kernel_rfl
  f119 := Tryz.func206.trans (congrArg some (by kernel_rfl))
  f120 := Tryz.func189.trans (congrArg some (by kernel_rfl))
  f137 := Tryz.func205.trans (congrArg some (by kernel_rfl))
  f151 := Tryz.func168.trans (congrArg some (by kernel_rfl))
  f152 := Tryz.func188.trans (congrArg some (by kernel_rfl))
  f160 := Tryz.func105.trans (congrArg some (by kernel_rfl))
  f197 := Tryz.func167.trans (congrArg some (by kernel_rfl))
  f217 := Tryz.func216.trans (congrArg some (by kernel_rfl))
  f224 := Tryz.func207.trans (congrArg some (by kernel_rfl))
  f225 := Tryz.func208.trans (congrArg some (by kernel_rfl))
  f227 := Tryz.func132.trans (congrArg some (by kernel_rfl))
  f228 := Tryz.func166.trans (congrArg some (by kernel_rfl))
  f231 := Tryz.func130.trans (congrArg some (by kernel_rfl))
  f232 := Tryz.func131.trans (congrArg some (by kernel_rfl))
  f233 := Tryz.func133.trans (congrArg some (by kernel_rfl))
  f234 := Tryz.func134.trans (congrArg some (by kernel_rfl))
  f235 := Tryz.func135.trans (congrArg some (by kernel_rfl))
  f236 := Tryz.func136.trans (congrArg some (by kernel_rfl))
  f260 := Tryz.func187.trans (congrArg some (by kernel_rfl))
  f266 := Tryz.func219.trans (congrArg some (by kernel_rfl))
  f271 := Tryz.func169.trans (congrArg some (by kernel_rfl))
  t0 := Tryz.underlying0
  a0 := Tryz.isAgg0
  z0 := Tryz.sizeOf0
  v0 := Tryz.zeroValue0
  t3 := Tryz.underlying3
  a3 := Tryz.isAgg3
  z3 := Tryz.sizeOf3
  v3 := Tryz.zeroValue3
  t4 := Tryz.underlying4
  a4 := Tryz.isAgg4
  z4 := Tryz.sizeOf4
  v4 := Tryz.zeroValue4
  t5 := Tryz.underlying5
  a5 := Tryz.isAgg5
  z5 := Tryz.sizeOf5
  v5 := Tryz.zeroValue5
  t9 := Tryz.underlying9
  a9 := Tryz.isAgg9
  z9 := Tryz.sizeOf9
  v9 := Tryz.zeroValue9
  t21 := Tryz.underlying21
  a21 := Tryz.isAgg21
  z21 := Tryz.sizeOf21
  v21 := Tryz.zeroValue21
  t46 := Tryz.underlying131
  a46 := Tryz.isAgg131
  z46 := Tryz.sizeOf131
  v46 := Tryz.zeroValue131
  t105 := Tryz.underlying202
  a105 := Tryz.isAgg202
  z105 := Tryz.sizeOf202
  v105 := Tryz.zeroValue202
  t116 := Tryz.underlying169
  a116 := Tryz.isAgg169
  z116 := Tryz.sizeOf169
  t117 := Tryz.underlying170
  a117 := Tryz.isAgg170
  z117 := Tryz.sizeOf170
  v117 := Tryz.zeroValue170
  t119 := Tryz.underlying240
  a119 := Tryz.isAgg240
  z119 := Tryz.sizeOf240
  t124 := Tryz.underlying173
  a124 := Tryz.isAgg173
  z124 := Tryz.sizeOf173
  v124 := Tryz.zeroValue173
  t138 := Tryz.underlying242
  a138 := Tryz.isAgg242
  z138 := Tryz.sizeOf242
  v138 := Tryz.zeroValue242
  t139 := Tryz.underlying243
  a139 := Tryz.isAgg243
  z139 := Tryz.sizeOf243
  v139 := Tryz.zeroValue243
  g3 := by kernel_rfl
  g4 := by kernel_rfl }
def Tryz.lays103_ren : Go.Shelf.Ren := ⟨fun | 103 => 104 | 210 => 129 | 206 => 150 | n => n, fun | 9 => 9 | 4 => 4 | 24 => 99 | 3 => 3 | n => n, fun | n => n⟩
theorem Tryz.lays103 : Go.Proofs.Lays.n103 Tryz.prog Tryz.lays103_ren := {
  mixed := by kernel_rfl
  f103 := Tryz.func104.trans (congrArg some (by kernel_rfl))
  f206 := Tryz.func150.trans (congrArg some (by kernel_rfl))
  f210 := Tryz.func129.trans (congrArg some (by kernel_rfl))
  t3 := Tryz.underlying3
  a3 := Tryz.isAgg3
  z3 := Tryz.sizeOf3
  v3 := Tryz.zeroValue3
  t4 := Tryz.underlying4
  a4 := Tryz.isAgg4
  z4 := Tryz.sizeOf4
  v4 := Tryz.zeroValue4
  t9 := Tryz.underlying9
  a9 := Tryz.isAgg9
  z9 := Tryz.sizeOf9
  v9 := Tryz.zeroValue9
  t24 := Tryz.underlying99
  a24 := Tryz.isAgg99
  z24 := Tryz.sizeOf99
  v24 := Tryz.zeroValue99 }
open Go.RowKit in
theorem Tryz.strings_CutPrefix (s p : ByteArray) (w : World) :
    Calls Tryz.prog 104 #[.string s, .string p] w fun e w' => e = .returned (.tuple #[.string ⟨(Lib.trimPrefix s.data.toList p.data.toList).toArray⟩, .bool (Lib.hasPrefix s.data.toList p.data.toList)]) ∧ w' = w := Any.strings_CutPrefix Tryz.lays103 s p w
def Tryz.lays283_ren : Go.Shelf.Ren := ⟨fun | 283 => 144 | n => n, fun | 3 => 3 | 9 => 9 | 4 => 4 | n => n, fun | n => n⟩
theorem Tryz.lays283 : Go.Proofs.Lays.n283 Tryz.prog Tryz.lays283_ren := {
  mixed := by kernel_rfl
  f283 := Tryz.func144.trans (congrArg some (by kernel_rfl))
  t3 := Tryz.underlying3
  a3 := Tryz.isAgg3
  z3 := Tryz.sizeOf3
  v3 := Tryz.zeroValue3
  t4 := Tryz.underlying4
  a4 := Tryz.isAgg4
  z4 := Tryz.sizeOf4
  v4 := Tryz.zeroValue4
  t9 := Tryz.underlying9
  a9 := Tryz.isAgg9
  z9 := Tryz.sizeOf9
  v9 := Tryz.zeroValue9 }
open Go.Lib in
theorem Tryz.internal_strconv_small (i : Nat) (h : i < 100) (w : World) :
    Calls Tryz.prog 144 #[.int .i64 i] w fun e w' => e = .returned (.string ⟨(Lib.decDigits i).toArray⟩) ∧ w' = w := Any.internal_strconv_small Tryz.lays283 i h w
def Tryz.laysM284_ren : Go.Shelf.Ren := ⟨fun | 284 => 145 | 129 => 174 | 317 => 173 | 318 => 175 | n => n, fun | 53 => 101 | 3 => 3 | 212 => 209 | 0 => 0 | 4 => 4 | 46 => 131 | 5 => 5 | 9 => 9 | n => n, fun | 17 => 2 | n => n⟩
theorem Tryz.laysM284 : Go.Proofs.LaysM.n284 Tryz.prog Tryz.laysM284_ren := {
  mixed := by kernel_rfl
  f129 := Tryz.func174.trans (congrArg some (by kernel_rfl))
  f284 := Tryz.func145.trans (congrArg some (by kernel_rfl))
  f317 := Tryz.func173.trans (congrArg some (by kernel_rfl))
  f318 := Tryz.func175.trans (congrArg some (by kernel_rfl))
  t0 := Tryz.underlying0
  a0 := Tryz.isAgg0
  z0 := Tryz.sizeOf0
  v0 := Tryz.zeroValue0
  t3 := Tryz.underlying3
  a3 := Tryz.isAgg3
  z3 := Tryz.sizeOf3
  v3 := Tryz.zeroValue3
  t4 := Tryz.underlying4
  a4 := Tryz.isAgg4
  z4 := Tryz.sizeOf4
  v4 := Tryz.zeroValue4
  t5 := Tryz.underlying5
  a5 := Tryz.isAgg5
  z5 := Tryz.sizeOf5
  v5 := Tryz.zeroValue5
  t9 := Tryz.underlying9
  a9 := Tryz.isAgg9
  z9 := Tryz.sizeOf9
  v9 := Tryz.zeroValue9
  t46 := Tryz.underlying131
  a46 := Tryz.isAgg131
  z46 := Tryz.sizeOf131
  v46 := Tryz.zeroValue131
  t53 := Tryz.underlying101
  a53 := Tryz.isAgg101
  z53 := Tryz.sizeOf101
  v53 := Tryz.zeroValue101
  t212 := Tryz.underlying209
  a212 := Tryz.isAgg209
  z212 := Tryz.sizeOf209
  v212 := Tryz.zeroValue209
  g17 := by kernel_rfl
  i0 := by kernel_rfl
  i3 := by kernel_rfl
  i4 := by kernel_rfl
  i5 := by kernel_rfl
  i9 := by kernel_rfl
  i46 := by kernel_rfl
  i53 := by kernel_rfl
  i212 := by kernel_rfl
  m17 := by kernel_rfl }
open Go.Lib in
theorem Tryz.internal_strconv_numDigits (u : Nat) (h1 : 1 ≤ u) (h2 : u < 18446744073709551616) (w : World) (htab : Lib.TabIs Tryz.prog w "internal/strconv.uint64pow10" .u64 Lib.pow10Tab) :
    Calls Tryz.prog 145 #[.int .u64 u] w fun e w' => e = .returned (.int .i64 (Lib.nDigits u)) ∧ w' = w := Any.internal_strconv_numDigits Tryz.laysM284 u h1 h2 w htab
def Tryz.lays285_ren : Go.Shelf.Ren := ⟨fun | 285 => 146 | n => n, fun | 37 => 50 | 53 => 101 | 3 => 3 | 4 => 4 | 51 => 125 | 9 => 9 | 5 => 5 | 0 => 0 | n => n, fun | n => n⟩
theorem Tryz.lays285 : Go.Proofs.Lays.n285 Tryz.prog Tryz.lays285_ren := {
  mixed := by kernel_rfl
  f285 := Tryz.func146.trans (congrArg some (by kernel_rfl))
  t0 := Tryz.underlying0
  a0 := Tryz.isAgg0
  z0 := Tryz.sizeOf0
  v0 := Tryz.zeroValue0
  t3 := Tryz.underlying3
  a3 := Tryz.isAgg3
  z3 := Tryz.sizeOf3
  v3 := Tryz.zeroValue3
  t4 := Tryz.underlying4
  a4 := Tryz.isAgg4
  z4 := Tryz.sizeOf4
  v4 := Tryz.zeroValue4
  t5 := Tryz.underlying5
  a5 := Tryz.isAgg5
  z5 := Tryz.sizeOf5
  v5 := Tryz.zeroValue5
  t9 := Tryz.underlying9
  a9 := Tryz.isAgg9
  z9 := Tryz.sizeOf9
  v9 := Tryz.zeroValue9
  t37 := Tryz.underlying50
  a37 := Tryz.isAgg50
  z37 := Tryz.sizeOf50
  v37 := Tryz.zeroValue50
  t51 := Tryz.underlying125
  a51 := Tryz.isAgg125
  z51 := Tryz.sizeOf125
  v51 := Tryz.zeroValue125
  t53 := Tryz.underlying101
  a53 := Tryz.isAgg101
  z53 := Tryz.sizeOf101
  v53 := Tryz.zeroValue101 }
open Go.RowKit Go.Sort Go.Lib in
theorem Tryz.internal_strconv_formatBase10 (blk off cap : Nat) (u : Nat) (d : Array UInt8) (w : World) (hH : Holds (fun (b : UInt8) => Value.int .u8 (b.toNat : Int)) w blk off d) (hu : u < 10 ^ d.size) (hu64 : u < 18446744073709551616) (hsz : d.size < 4611686018427387904) :
    Calls Tryz.prog 146 #[.slice (some ⟨blk, off, none⟩) d.size cap, .int .u64 u] w fun e w' =>
      e = .returned (.tuple #[]) ∧ ∃ (n v' : Nat) (dk : Array UInt8), w' = (putRow (fun (b : UInt8) => Value.int .u8 (b.toNat : Int)) w blk off dk).drewN n ∧ FmtInv d.size u 0 v' dk := Any.internal_strconv_formatBase10 Tryz.lays285 blk off cap u d w hH hu hu64 hsz
def Tryz.laysM171_ren : Go.Shelf.Ren := ⟨fun | 171 => 172 | 243 => 190 | 246 => 209 | 283 => 144 | 284 => 145 | 285 => 146 | 286 => 147 | 129 => 174 | 317 => 173 | 318 => 175 | 319 => 176 | 320 => 177 | 337 => 191 | 338 => 192 | n => n, fun | 3 => 3 | 9 => 9 | 2 => 2 | 4 => 4 | 171 => 182 | 0 => 0 | 53 => 101 | 37 => 50 | 5 => 5 | 173 => 185 | 212 => 209 | 51 => 125 | 20 => 20 | 213 => 210 | 46 => 131 | 232 => 247 | 233 => 248 | n => n, fun | 17 => 2 | 18 => 6 | 19 => 7 | n => n⟩
theorem Tryz.laysM171 : Go.Proofs.LaysM.n171 Tryz.prog Tryz.laysM171_ren := {
  mixed := by kernel_rfl
  f129 := Tryz.func174.trans (congrArg some (by kernel_rfl))
  f171 := Tryz.func172.trans (congrArg some (by kernel_rfl))
  f243 := Tryz.func190.trans (congrArg some (by kernel_rfl))
  f246 := Tryz.func209.trans (congrArg some (by kernel_rfl))
  f283 := Tryz.func144.trans (congrArg some (by kernel_rfl))
  f284 := Tryz.func145.trans (congrArg some (by kernel_rfl))
  f285 := Tryz.func146.trans (congrArg some (by kernel_rfl))
  f286 := Tryz.func147.trans (congrArg some (by kernel_rfl))
  f317 := Tryz.func173.trans (congrArg some (by kernel_rfl))
  f318 := Tryz.func175.trans (congrArg some (by kernel_rfl))
  f319 := Tryz.func176.trans (congrArg some (by kernel_rfl))
  f320 := Tryz.func177.trans (congrArg some (by kernel_rfl))
  f337 := Tryz.func191.trans (congrArg some (by kernel_rfl))
  f338 := Tryz.func192.trans (congrArg some (by kernel_rfl))
  t0 := Tryz.underlying0
  a0 := Tryz.isAgg0
  z0 := Tryz.sizeOf0
  v0 := Tryz.zeroValue0
  t2 := Tryz.underlying2
  a2 := Tryz.isAgg2
  z2 := Tryz.sizeOf2
  v2 := Tryz.zeroValue2
  t3 := Tryz.underlying3
  a3 := Tryz.isAgg3
  z3 := Tryz.sizeOf3
  v3 := Tryz.zeroValue3
  t4 := Tryz.underlying4
  a4 := Tryz.isAgg4
  z4 := Tryz.sizeOf4
  v4 := Tryz.zeroValue4
  t5 := Tryz.underlying5
  a5 := Tryz.isAgg5
  z5 := Tryz.sizeOf5
  v5 := Tryz.zeroValue5
  t9 := Tryz.underlying9
  a9 := Tryz.isAgg9
  z9 := Tryz.sizeOf9
  v9 := Tryz.zeroValue9
  t20 := Tryz.underlying20
  a20 := Tryz.isAgg20
  z20 := Tryz.sizeOf20
  v20 := Tryz.zeroValue20
  t37 := Tryz.underlying50
  a37 := Tryz.isAgg50
  z37 := Tryz.sizeOf50
  v37 := Tryz.zeroValue50
  t46 := Tryz.underlying131
  a46 := Tryz.isAgg131
  z46 := Tryz.sizeOf131
  v46 := Tryz.zeroValue131
  t51 := Tryz.underlying125
  a51 := Tryz.isAgg125
  z51 := Tryz.sizeOf125
  v51 := Tryz.zeroValue125
  t53 := Tryz.underlying101
  a53 := Tryz.isAgg101
  z53 := Tryz.sizeOf101
  v53 := Tryz.zeroValue101
  t171 := Tryz.underlying182
  a171 := Tryz.isAgg182
  z171 := Tryz.sizeOf182
  v171 := Tryz.zeroValue182
  t173 := Tryz.underlying185
  a173 := Tryz.isAgg185
  z173 := Tryz.sizeOf185
  v173 := Tryz.zeroValue185
  t212 := Tryz.underlying209
  a212 := Tryz.isAgg209
  z212 := Tryz.sizeOf209
  v212 := Tryz.zeroValue209
  t213 := Tryz.underlying210
  a213 := Tryz.isAgg210
  z213 := Tryz.sizeOf210
  t232 := Tryz.underlying247
  a232 := Tryz.isAgg247
  z232 := Tryz.sizeOf247
  v232 := Tryz.zeroValue247
  t233 := Tryz.underlying248
  a233 := Tryz.isAgg248
  z233 := Tryz.sizeOf248
  v233 := Tryz.zeroValue248
  g17 := by kernel_rfl
  g18 := by kernel_rfl
  g19 := by kernel_rfl
  i0 := by kernel_rfl
  i2 := by kernel_rfl
  i3 := by kernel_rfl
  i4 := by kernel_rfl
  i5 := by kernel_rfl
  i9 := by kernel_rfl
  i20 := by kernel_rfl
  i37 := by kernel_rfl
  i46 := by kernel_rfl
  i51 := by kernel_rfl
  i53 := by kernel_rfl
  i171 := by kernel_rfl
  i173 := by kernel_rfl
  i212 := by kernel_rfl
  i232 := by kernel_rfl
  i233 := by kernel_rfl
  m17 := by kernel_rfl
  m18 := by kernel_rfl
  m19 := by kernel_rfl }
open Go.RowKit Go.Sort Go.Lib in
theorem Tryz.strconv_Itoa (n : Int) (h0 : -9223372036854775808 ≤ n) (h1 : n ≤ 9223372036854775807) (w : World) (htab : Lib.TabIs Tryz.prog w "internal/strconv.uint64pow10" .u64 Lib.pow10Tab) :
    Calls Tryz.prog 172 #[.int .i64 n] w fun e w' => e = .returned (.string ⟨(Lib.itoa n).toArray⟩) ∧ ∃ k os, w' = grow (w.drewN k) os := Any.strconv_Itoa Tryz.laysM171 n h0 h1 w htab
def Tryz.lays171_ren : Go.Shelf.Ren := ⟨fun | 171 => 172 | 243 => 190 | 246 => 209 | 283 => 144 | 284 => 145 | 285 => 146 | 286 => 147 | 129 => 174 | 317 => 173 | 318 => 175 | 319 => 176 | 320 => 177 | 337 => 191 | 338 => 192 | n => n, fun | 3 => 3 | 9 => 9 | 2 => 2 | 4 => 4 | 171 => 182 | 0 => 0 | 53 => 101 | 37 => 50 | 5 => 5 | 173 => 185 | 212 => 209 | 51 => 125 | 20 => 20 | 213 => 210 | 46 => 131 | 232 => 247 | 233 => 248 | n => n, fun | 17 => 2 | 18 => 6 | 19 => 7 | n => n⟩
theorem Tryz.lays171 : Go.Proofs.Lays.n171 Tryz.prog Tryz.lays171_ren := {
  mixed := by kernel_rfl
  f129 := Tryz.func174.trans (congrArg some (by kernel_rfl))
  f171 := Tryz.func172.trans (congrArg some (by kernel_rfl))
  f243 := Tryz.func190.trans (congrArg some (by kernel_rfl))
  f246 := Tryz.func209.trans (congrArg some (by kernel_rfl))
  f283 := Tryz.func144.trans (congrArg some (by kernel_rfl))
  f284 := Tryz.func145.trans (congrArg some (by kernel_rfl))
  f285 := Tryz.func146.trans (congrArg some (by kernel_rfl))
  f286 := Tryz.func147.trans (congrArg some (by kernel_rfl))
  f317 := Tryz.func173.trans (congrArg some (by kernel_rfl))
  f318 := Tryz.func175.trans (congrArg some (by kernel_rfl))
  f319 := Tryz.func176.trans (congrArg some (by kernel_rfl))
  f320 := Tryz.func177.trans (congrArg some (by kernel_rfl))
  f337 := Tryz.func191.trans (congrArg some (by kernel_rfl))
  f338 := Tryz.func192.trans (congrArg some (by kernel_rfl))
  t0 := Tryz.underlying0
  a0 := Tryz.isAgg0
  z0 := Tryz.sizeOf0
  v0 := Tryz.zeroValue0
  t2 := Tryz.underlying2
  a2 := Tryz.isAgg2
  z2 := Tryz.sizeOf2
  v2 := Tryz.zeroValue2
  t3 := Tryz.underlying3
  a3 := Tryz.isAgg3
  z3 := Tryz.sizeOf3
  v3 := Tryz.zeroValue3
  t4 := Tryz.underlying4
  a4 := Tryz.isAgg4
  z4 := Tryz.sizeOf4
  v4 := Tryz.zeroValue4
  t5 := Tryz.underlying5
  a5 := Tryz.isAgg5
  z5 := Tryz.sizeOf5
  v5 := Tryz.zeroValue5
  t9 := Tryz.underlying9
  a9 := Tryz.isAgg9
  z9 := Tryz.sizeOf9
  v9 := Tryz.zeroValue9
  t20 := Tryz.underlying20
  a20 := Tryz.isAgg20
  z20 := Tryz.sizeOf20
  v20 := Tryz.zeroValue20
  t37 := Tryz.underlying50
  a37 := Tryz.isAgg50
  z37 := Tryz.sizeOf50
  v37 := Tryz.zeroValue50
  t46 := Tryz.underlying131
  a46 := Tryz.isAgg131
  z46 := Tryz.sizeOf131
  v46 := Tryz.zeroValue131
  t51 := Tryz.underlying125
  a51 := Tryz.isAgg125
  z51 := Tryz.sizeOf125
  v51 := Tryz.zeroValue125
  t53 := Tryz.underlying101
  a53 := Tryz.isAgg101
  z53 := Tryz.sizeOf101
  v53 := Tryz.zeroValue101
  t171 := Tryz.underlying182
  a171 := Tryz.isAgg182
  z171 := Tryz.sizeOf182
  v171 := Tryz.zeroValue182
  t173 := Tryz.underlying185
  a173 := Tryz.isAgg185
  z173 := Tryz.sizeOf185
  v173 := Tryz.zeroValue185
  t212 := Tryz.underlying209
  a212 := Tryz.isAgg209
  z212 := Tryz.sizeOf209
  v212 := Tryz.zeroValue209
  t213 := Tryz.underlying210
  a213 := Tryz.isAgg210
  z213 := Tryz.sizeOf210
  t232 := Tryz.underlying247
  a232 := Tryz.isAgg247
  z232 := Tryz.sizeOf247
  v232 := Tryz.zeroValue247
  t233 := Tryz.underlying248
  a233 := Tryz.isAgg248
  z233 := Tryz.sizeOf248
  v233 := Tryz.zeroValue248
  g17 := by kernel_rfl
  g18 := by kernel_rfl
  g19 := by kernel_rfl }
open Go.RowKit Go.Sort Go.Lib in
theorem Tryz.strconv_Itoa_small (i : Nat) (hi : i < 100) (w : World) :
    Calls Tryz.prog 172 #[.int .i64 i] w fun e w' => e = .returned (.string ⟨(Lib.decDigits i).toArray⟩) ∧ w' = w := Any.strconv_Itoa_small Tryz.lays171 i hi w
def Tryz.laysPu14_ren : Go.Shelf.Ren := ⟨fun | 14 => 77 | 16 => 107 | 17 => 108 | 19 => 137 | 20 => 138 | 21 => 139 | 22 => 140 | 23 => 141 | 24 => 142 | 25 => 170 | 27 => 172 | 26 => 171 | 28 => 190 | 29 => 209 | 30 => 144 | 31 => 145 | 32 => 146 | 33 => 147 | 35 => 174 | 34 => 173 | 36 => 175 | 37 => 176 | 38 => 177 | 39 => 191 | 40 => 192 | n => n, fun | 9 => 9 | 3 => 3 | 22 => 101 | 24 => 103 | 25 => 104 | 4 => 4 | 34 => 174 | 5 => 5 | 36 => 131 | 37 => 50 | 0 => 0 | 39 => 176 | 21 => 21 | 44 => 206 | 47 => 145 | 50 => 228 | 48 => 226 | 2 => 2 | 52 => 182 | 55 => 185 | 59 => 209 | 60 => 125 | 20 => 20 | 61 => 210 | 65 => 247 | 66 => 248 | 67 => 115 | n => n, fun | 0 => 0 | 1 => 1 | 2 => 2 | 3 => 6 | 4 => 7 | n => n⟩
theorem Tryz.laysPu14 : Go.Proofs.LaysPu.n14 Tryz.prog Tryz.laysPu14_ren := {
  mixed := by kernel_rfl
  f14 := Tryz.func77.trans (congrArg some (by kernel_rfl))
  f16 := Tryz.func107.trans (congrArg some (by kernel_rfl))
  f17 := Tryz.func108.trans (congrArg some (by kernel_rfl))
  f19 := Tryz.func137.trans (congrArg some (by kernel_rfl))
  f20 := Tryz.func138.trans (congrArg some (by kernel_rfl))
  f21 := Tryz.func139.trans (congrArg some (by kernel_rfl))
  f22 := Tryz.func140.trans (congrArg some (by kernel_rfl))
  f23 := Tryz.func141.trans (congrArg some (by kernel_rfl))
  f24 := Tryz.func142.trans (congrArg some (by kernel_rfl))
  f25 := Tryz.func170.trans (congrArg some (by kernel_rfl))
  f26 := Tryz.func171.trans (congrArg some (by kernel_rfl))
  f27 := Tryz.func172.trans (congrArg some (by kernel_rfl))
  f28 := Tryz.func190.trans (congrArg some (by kernel_rfl))
  f29 := Tryz.func209.trans (congrArg some (by kernel_rfl))
  f30 := Tryz.func144.trans (congrArg some (by kernel_rfl))
  f31 := Tryz.func145.trans (congrArg some (by kernel_rfl))
  f32 := Tryz.func146.trans (congrArg some (by kernel_rfl))
  f33 := Tryz.func147.trans (congrArg some (by kernel_rfl))
  f34 := Tryz.func173.trans (congrArg some (by kernel_rfl))
  f35 := Tryz.func174.trans (congrArg some (by kernel_rfl))
  f36 := Tryz.func175.trans (congrArg some (by kernel_rfl))
  f37 := Tryz.func176.trans (congrArg some (by kernel_rfl))
  f38 := Tryz.func177.trans (congrArg some (by kernel_rfl))
  f39 := Tryz.func191.trans (congrArg some (by kernel_rfl))
  f40 := Tryz.func192.trans (congrArg some (by kernel_rfl))
  t0 := Tryz.underlying0
  a0 := Tryz.isAgg0
  z0 := Tryz.sizeOf0
  v0 := Tryz.zeroValue0
  i0 := by kernel_rfl
  t2 := Tryz.underlying2
  a2 := Tryz.isAgg2
  z2 := Tryz.sizeOf2
  v2 := Tryz.zeroValue2
  i2 := by kernel_rfl
  t3 := Tryz.underlying3
  a3 := Tryz.isAgg3
  z3 := Tryz.sizeOf3
  v3 := Tryz.zeroValue3
  i3 := by kernel_rfl
  t4 := Tryz.underlying4
  a4 := Tryz.isAgg4
  z4 := Tryz.sizeOf4
  v4 := Tryz.zeroValue4
  i4 := by kernel_rfl
  t5 := Tryz.underlying5
  a5 := Tryz.isAgg5
  z5 := Tryz.sizeOf5
  v5 := Tryz.zeroValue5
  i5 := by kernel_rfl
  t9 := Tryz.underlying9
  a9 := Tryz.isAgg9
  z9 := Tryz.sizeOf9
  v9 := Tryz.zeroValue9
  i9 := by kernel_rfl
  t20 := Tryz.underlying20
  a20 := Tryz.isAgg20
  z20 := Tryz.sizeOf20
  v20 := Tryz.zeroValue20
  i20 := by kernel_rfl
  t21 := Tryz.underlying21
  a21 := Tryz.isAgg21
  z21 := Tryz.sizeOf21
  v21 := Tryz.zeroValue21
  i21 := by kernel_rfl
  t22 := Tryz.underlying101
  a22 := Tryz.isAgg101
  z22 := Tryz.sizeOf101
  v22 := Tryz.zeroValue101
  i22 := by kernel_rfl
  t24 := Tryz.underlying103
  a24 := Tryz.isAgg103
  z24 := Tryz.sizeOf103
  v24 := Tryz.zeroValue103
  i24 := by kernel_rfl
  t25 := Tryz.underlying104
  a25 := Tryz.isAgg104
  z25 := Tryz.sizeOf104
  v25 := Tryz.zeroValue104
  i25 := by kernel_rfl
  t34 := Tryz.underlying174
  a34 := Tryz.isAgg174
  z34 := Tryz.sizeOf174
  v34 := Tryz.zeroValue174
  i34 := by kernel_rfl
  c34 := by kernel_rfl
  t36 := Tryz.underlying131
  a36 := Tryz.isAgg131
  z36 := Tryz.sizeOf131
  v36 := Tryz.zeroValue131
  i36 := by kernel_rfl
  t37 := Tryz.underlying50
  a37 := Tryz.isAgg50
  z37 := Tryz.sizeOf50
  v37 := Tryz.zeroValue50
  i37 := by kernel_rfl
  t39 := Tryz.underlying176
  a39 := Tryz.isAgg176
  z39 := Tryz.sizeOf176
  v39 := Tryz.zeroValue176
  i39 := by kernel_rfl
  t44 := Tryz.underlying206
  a44 := Tryz.isAgg206
  z44 := Tryz.sizeOf206
  v44 := Tryz.zeroValue206
  i44 := by kernel_rfl
  t47 := Tryz.underlying145
  a47 := Tryz.isAgg145
  z47 := Tryz.sizeOf145
  v47 := Tryz.zeroValue145
  i47 := by kernel_rfl
  t48 := Tryz.underlying226
  a48 := Tryz.isAgg226
  z48 := Tryz.sizeOf226
  v48 := Tryz.zeroValue226
  i48 := by kernel_rfl
  t50 := Tryz.underlying228
  a50 := Tryz.isAgg228
  z50 := Tryz.sizeOf228
  v50 := Tryz.zeroValue228
  i50 := by kernel_rfl
  t52 := Tryz.underlying182
  a52 := Tryz.isAgg182
  z52 := Tryz.sizeOf182
  v52 := Tryz.zeroValue182
  i52 := by kernel_rfl
  t55 := Tryz.underlying185
  a55 := Tryz.isAgg185
  z55 := Tryz.sizeOf185
  v55 := Tryz.zeroValue185
  i55 := by kernel_rfl
  t59 := Tryz.underlying209
  a59 := Tryz.isAgg209
  z59 := Tryz.sizeOf209
  v59 := Tryz.zeroValue209
  i59 := by kernel_rfl
  t60 := Tryz.underlying125
  a60 := Tryz.isAgg125
  z60 := Tryz.sizeOf125
  v60 := Tryz.zeroValue125
  i60 := by kernel_rfl
  t61 := Tryz.underlying210
  a61 := Tryz.isAgg210
  z61 := Tryz.sizeOf210
  t65 := Tryz.underlying247
  a65 := Tryz.isAgg247
  z65 := Tryz.sizeOf247
  v65 := Tryz.zeroValue247
  i65 := by kernel_rfl
  t66 := Tryz.underlying248
  a66 := Tryz.isAgg248
  z66 := Tryz.sizeOf248
  v66 := Tryz.zeroValue248
  i66 := by kernel_rfl
  t67 := Tryz.underlying115
  a67 := Tryz.isAgg115
  z67 := Tryz.sizeOf115
  v67 := Tryz.zeroValue115
  i67 := by kernel_rfl
  g0 := by kernel_rfl
  m0 := by kernel_rfl
  g1 := by kernel_rfl
  m1 := by kernel_rfl
  g2 := by kernel_rfl
  m2 := by kernel_rfl
  g3 := by kernel_rfl
  m3 := by kernel_rfl
  g4 := by kernel_rfl
  m4 := by kernel_rfl }
open Go.RowKit in
theorem Tryz.strconv_ParseUint_10_at64_ok (s : ByteArray) (hmax : s.size ≤ 9223372036854775806) (u : Nat) (h : Lib.parseUintB 64 s.data.toList = .ok u) (w : World) :
    Calls Tryz.prog 77 #[.string s, .int .i64 10, .int .i64 64] w fun e w' => e = .returned (.tuple #[.int .u64 u, .nilIface]) ∧ (w' = w ∨ w' = Lib.bytesWorld w 5 s) := Any.strconv_ParseUint_10_at64_ok Tryz.laysPu14 s hmax u h w
def Tryz.lays145_ren : Go.Shelf.Ren := ⟨fun | 145 => 195 | 220 => 210 | 219 => 217 | 217 => 216 | 225 => 208 | 224 => 207 | 267 => 220 | 266 => 219 | 314 => 221 | n => n, fun | 9 => 9 | 4 => 4 | 59 => 231 | 3 => 3 | 5 => 5 | 46 => 131 | 146 => 187 | 51 => 125 | n => n, fun | 1 => 3 | n => n⟩
theorem Tryz.lays145 : Go.Proofs.Lays.n145 Tryz.prog Tryz.lays145_ren := {
  mixed := by kernel_rfl
  f145 := Tryz.func195.trans (congrArg some (by kernel_rfl))
  f217 := Tryz.func216.trans (congrArg some (by kernel_rfl))
  f219 := Tryz.func217.trans (congrArg some (by kernel_rfl))
  f220 := Tryz.func210.trans (congrArg some (by kernel_rfl))
  f224 := Tryz.func207.trans (congrArg some (by kernel_rfl))
  f225 := Tryz.func208.trans (congrArg some (by kernel_rfl))
  f266 := Tryz.func219.trans (congrArg some (by kernel_rfl))
  f267 := Tryz.func220.trans (congrArg some (by kernel_rfl))
  f314 := Tryz.func221.trans (congrArg some (by kernel_rfl))
  t3 := Tryz.underlying3
  a3 := Tryz.isAgg3
  z3 := Tryz.sizeOf3
  v3 := Tryz.zeroValue3
  t4 := Tryz.underlying4
  a4 := Tryz.isAgg4
  z4 := Tryz.sizeOf4
  v4 := Tryz.zeroValue4
  t5 := Tryz.underlying5
  a5 := Tryz.isAgg5
  z5 := Tryz.sizeOf5
  v5 := Tryz.zeroValue5
  t9 := Tryz.underlying9
  a9 := Tryz.isAgg9
  z9 := Tryz.sizeOf9
  v9 := Tryz.zeroValue9
  t46 := Tryz.underlying131
  a46 := Tryz.isAgg131
  z46 := Tryz.sizeOf131
  v46 := Tryz.zeroValue131
  t51 := Tryz.underlying125
  a51 := Tryz.isAgg125
  z51 := Tryz.sizeOf125
  v51 := Tryz.zeroValue125
  t59 := Tryz.underlying231
  a59 := Tryz.isAgg231
  z59 := Tryz.sizeOf231
  v59 := Tryz.zeroValue231
  t146 := Tryz.underlying187
  a146 := Tryz.isAgg187
  z146 := Tryz.sizeOf187
  v146 := Tryz.zeroValue187
  g1 := by kernel_rfl }
open Go.RowKit Go.Lib in
theorem Tryz.strings_Cut (s sep : ByteArray) (m : Int) (w : World) (hs : s.size < 4294967281) (hm : w.cell? ⟨3, 0, none⟩ = some (.int .i64 m)) :
    Calls Tryz.prog 195 #[.string s, .string sep] w fun e w' => e = .returned (.tuple #[.string ⟨(Lib.cut s.data.toList sep.data.toList).1.toArray⟩, .string ⟨(Lib.cut s.data.toList sep.data.toList).2.1.toArray⟩, .bool (Lib.cut s.data.toList sep.data.toList).2.2]) ∧ ∃ n, w' = w.drewN n := Any.strings_Cut Tryz.lays145 s sep m w hs hm
def Tryz.lays105_ren : Go.Shelf.Ren := ⟨fun | 105 => 82 | 212 => 111 | 99 => 112 | 165 => 113 | 166 => 80 | 170 => 114 | 169 => 83 | 263 => 148 | 264 => 149 | 206 => 150 | 240 => 109 | 241 => 151 | 276 => 143 | 277 => 178 | n => n, fun | 9 => 9 | 3 => 3 | 4 => 4 | 20 => 20 | 0 => 0 | 46 => 131 | 109 => 140 | 5 => 5 | 72 => 109 | 76 => 111 | 51 => 125 | 146 => 187 | 53 => 101 | 148 => 189 | 70 => 107 | 37 => 50 | 75 => 103 | 127 => 145 | 164 => 179 | 80 => 115 | n => n, fun | n => n⟩
theorem Tryz.lays105 : Go.Proofs.Lays.n105 Tryz.prog Tryz.lays105_ren := {
  mixed := by kernel_rfl
  f99 := Tryz.func112.trans (congrArg some (by kernel_rfl))
  f105 := Tryz.func82.trans (congrArg some (by kernel_rfl))
  f165 := Tryz.func113.trans (congrArg some (by kernel_rfl))
  f166 := Tryz.func80.trans (congrArg some (by kernel_rfl))
  f169 := Tryz.func83.trans (congrArg some (by kernel_rfl))
  f170 := Tryz.func114.trans (congrArg some (by kernel_rfl))
  f206 := Tryz.func150.trans (congrArg some (by kernel_rfl))
  f212 := Tryz.func111.trans (congrArg some (by kernel_rfl))
  f240 := Tryz.func109.trans (congrArg some (by kernel_rfl))
  f241 := Tryz.func151.trans (congrArg some (by kernel_rfl))
  f263 := Tryz.func148.trans (congrArg some (by kernel_rfl))
  f264 := Tryz.func149.trans (congrArg some (by kernel_rfl))
  f276 := Tryz.func143.trans (congrArg some (by kernel_rfl))
  f277 := Tryz.func178.trans (congrArg some (by kernel_rfl))
  t0 := Tryz.underlying0
  a0 := Tryz.isAgg0
  z0 := Tryz.sizeOf0
  v0 := Tryz.zeroValue0
  t3 := Tryz.underlying3
  a3 := Tryz.isAgg3
  z3 := Tryz.sizeOf3
  v3 := Tryz.zeroValue3
  t4 := Tryz.underlying4
  a4 := Tryz.isAgg4
  z4 := Tryz.sizeOf4
  v4 := Tryz.zeroValue4
  t5 := Tryz.underlying5
  a5 := Tryz.isAgg5
  z5 := Tryz.sizeOf5
  v5 := Tryz.zeroValue5
  t9 := Tryz.underlying9
  a9 := Tryz.isAgg9
  z9 := Tryz.sizeOf9
  v9 := Tryz.zeroValue9
  t20 := Tryz.underlying20
  a20 := Tryz.isAgg20
  z20 := Tryz.sizeOf20
  v20 := Tryz.zeroValue20
  t37 := Tryz.underlying50
  a37 := Tryz.isAgg50
  z37 := Tryz.sizeOf50
  v37 := Tryz.zeroValue50
  t46 := Tryz.underlying131
  a46 := Tryz.isAgg131
  z46 := Tryz.sizeOf131
  v46 := Tryz.zeroValue131
  t51 := Tryz.underlying125
  a51 := Tryz.isAgg125
  z51 := Tryz.sizeOf125
  v51 := Tryz.zeroValue125
  t53 := Tryz.underlying101
  a53 := Tryz.isAgg101
  z53 := Tryz.sizeOf101
  v53 := Tryz.zeroValue101
  t70 := Tryz.underlying107
  a70 := Tryz.isAgg107
  z70 := Tryz.sizeOf107
  v70 := Tryz.zeroValue107
  t72 := Tryz.underlying109
  a72 := Tryz.isAgg109
  z72 := Tryz.sizeOf109
  v72 := Tryz.zeroValue109
  t75 := Tryz.underlying103
  a75 := Tryz.isAgg103
  z75 := Tryz.sizeOf103
  v75 := Tryz.zeroValue103
  t76 := Tryz.underlying111
  a76 := Tryz.isAgg111
  z76 := Tryz.sizeOf111
  v76 := Tryz.zeroValue111
  t109 := Tryz.underlying140
  a109 := Tryz.isAgg140
  z109 := Tryz.sizeOf140
  v109 := Tryz.zeroValue140
  t127 := Tryz.underlying145
  a127 := Tryz.isAgg145
  z127 := Tryz.sizeOf145
  v127 := Tryz.zeroValue145
  t146 := Tryz.underlying187
  a146 := Tryz.isAgg187
  z146 := Tryz.sizeOf187
  v146 := Tryz.zeroValue187
  t148 := Tryz.underlying189
  a148 := Tryz.isAgg189
  z148 := Tryz.sizeOf189
  v148 := Tryz.zeroValue189
  t164 := Tryz.underlying179
  a164 := Tryz.isAgg179
  z164 := Tryz.sizeOf179
  v164 := Tryz.zeroValue179 }
theorem Tryz.Builder_Extra_105 : Builder.Extra Tryz.prog Tryz.lays105_ren := {
  sizeBuilder := by kernel_rfl
  liesBuilder := by kernel_rfl
  t5 := Tryz.underlying5
  a5 := Tryz.isAgg5
  z5 := Tryz.sizeOf5
  v5 := Tryz.zeroValue5
  infoByte := by kernel_rfl
  cellsByte := by kernel_rfl
  sizeByte := by kernel_rfl
  neB5 := by decide }
open Go.RowKit Go.Lib in
theorem Tryz.strings_Repeat_zero (s : ByteArray) (w : World) :
    Calls Tryz.prog 82 #[.string s, .int .i64 0] w fun e w' => e = .returned (.string ⟨#[]⟩) ∧ w' = w := Any.strings_Repeat_zero Tryz.lays105 s w
open Go.RowKit Go.Lib in
theorem Tryz.strings_Repeat_one (s : ByteArray) (w : World) :
    Calls Tryz.prog 82 #[.string s, .int .i64 1] w fun e w' => e = .returned (.string s) ∧ w' = w := Any.strings_Repeat_one Tryz.lays105 s w
open Go.RowKit Go.Lib in
theorem Tryz.strings_Repeat (s : ByteArray) (c : Nat) (w : World) (hc : c ≤ 9223372036854775807) (hlen : s.size * c ≤ 140737488355328) :
    Calls Tryz.prog 82 #[.string s, .int .i64 c] w fun e w' => e = .returned (.string ⟨(Lib.repeatL s.data.toList c).toArray⟩) ∧ Below w.heap.size w w' := Any.strings_Repeat Tryz.lays105 Tryz.Builder_Extra_105 s c w hc hlen
def Tryz.lays167_ren : Go.Shelf.Ren := ⟨fun | 167 => 79 | 105 => 82 | 212 => 111 | 99 => 112 | 165 => 113 | 166 => 80 | 170 => 114 | 169 => 83 | 263 => 148 | 264 => 149 | 206 => 150 | 240 => 109 | 241 => 151 | 276 => 143 | 277 => 178 | n => n, fun | 9 => 9 | 3 => 3 | 4 => 4 | 20 => 20 | 0 => 0 | 46 => 131 | 109 => 140 | 5 => 5 | 72 => 109 | 76 => 111 | 51 => 125 | 146 => 187 | 53 => 101 | 148 => 189 | 70 => 107 | 37 => 50 | 75 => 103 | 127 => 145 | 164 => 179 | 80 => 115 | n => n, fun | n => n⟩
theorem Tryz.lays167 : Go.Proofs.Lays.n167 Tryz.prog Tryz.lays167_ren := {
  mixed := by kernel_rfl
  f167 := Tryz.func79.trans (congrArg some (by kernel_rfl))
  f240 := Tryz.func109.trans (congrArg some (by kernel_rfl))
  f276 := Tryz.func143.trans (congrArg some (by kernel_rfl))
  t0 := Tryz.underlying0
  a0 := Tryz.isAgg0
  z0 := Tryz.sizeOf0
  v0 := Tryz.zeroValue0
  t4 := Tryz.underlying4
  a4 := Tryz.isAgg4
  z4 := Tryz.sizeOf4
  v4 := Tryz.zeroValue4
  t5 := Tryz.underlying5
  a5 := Tryz.isAgg5
  z5 := Tryz.sizeOf5
  v5 := Tryz.zeroValue5
  t9 := Tryz.underlying9
  a9 := Tryz.isAgg9
  z9 := Tryz.sizeOf9
  v9 := Tryz.zeroValue9
  t20 := Tryz.underlying20
  a20 := Tryz.isAgg20
  z20 := Tryz.sizeOf20
  v20 := Tryz.zeroValue20
  t37 := Tryz.underlying50
  a37 := Tryz.isAgg50
  z37 := Tryz.sizeOf50
  v37 := Tryz.zeroValue50
  t70 := Tryz.underlying107
  a70 := Tryz.isAgg107
  z70 := Tryz.sizeOf107
  v70 := Tryz.zeroValue107
  t72 := Tryz.underlying109
  a72 := Tryz.isAgg109
  z72 := Tryz.sizeOf109
  v72 := Tryz.zeroValue109
  t75 := Tryz.underlying103
  a75 := Tryz.isAgg103
  z75 := Tryz.sizeOf103
  v75 := Tryz.zeroValue103
  t164 := Tryz.underlying179
  a164 := Tryz.isAgg179
  z164 := Tryz.sizeOf179
  v164 := Tryz.zeroValue179 }
theorem Tryz.Builder_Extra_167 : Builder.Extra Tryz.prog Tryz.lays167_ren := {
  sizeBuilder := by kernel_rfl
  liesBuilder := by kernel_rfl
  t5 := Tryz.underlying5
  a5 := Tryz.isAgg5
  z5 := Tryz.sizeOf5
  v5 := Tryz.zeroValue5
  infoByte := by kernel_rfl
  cellsByte := by kernel_rfl
  sizeByte := by kernel_rfl
  neB5 := by decide }
open Go.RowKit in
theorem Tryz.Builder_WriteByte (B b : Nat) (bs : List Value) (c : Int) (w : World) (h : Lib.IsBuilder 109 5 B b bs w) (hlen : bs.length + 1 ≤ 140737488355328) (hBw : B ≤ w.heap.size) :
    Calls Tryz.prog 79 #[.pointer (some ⟨b, 0, none⟩), .int .u8 c] w fun e w' => e = .returned .nilIface ∧ (Lib.BuilderAt 109 5 B b (.pointer (some ⟨b, 0, none⟩)) (bs ++ [.int .u8 c]) w' ∧ Below B w w') := Any.Builder_WriteByte Tryz.lays167 Tryz.Builder_Extra_167 B b bs c w h hlen hBw
open Go.RowKit in
theorem Tryz.Builder_WriteString (B b : Nat) (bs : List Value) (s : ByteArray) (w : World) (h : Lib.IsBuilder 109 5 B b bs w) (hlen : bs.length + s.size ≤ 140737488355328) (hBw : B ≤ w.heap.size) :
    Calls Tryz.prog 80 #[.pointer (some ⟨b, 0, none⟩), .string s] w fun e w' => e = .returned (.tuple #[.int .i64 s.size, .nilIface]) ∧ (Lib.BuilderAt 109 5 B b (.pointer (some ⟨b, 0, none⟩)) (bs ++ Lib.strCells s) w' ∧ Below B w w') := Any.Builder_WriteString ({ Tryz.lays105 with } : Go.Proofs.Lays.n166 Tryz.prog Tryz.lays105_ren) Tryz.Builder_Extra_105 B b bs s w h hlen hBw
open Go.RowKit in
theorem Tryz.strings_Trim (s cutset : ByteArray) (w : World) (hs : s.size ≤ 9223372036854775807) (hcs : cutset.size < 4294967281) (hascii : ∀ (j : Nat) b, cutset.data.toList[j]? = some b → b.toNat < 128) :
    Calls Tryz.prog 105 #[.string s, .string cutset] w fun e w' => e = .returned (.string ⟨(Lib.trimS s.data.toList cutset.data.toList).toArray⟩) ∧ Below w.heap.size w w' := Any.strings_Trim_laid Tryz.lays160 (by kernel_rfl) s cutset w hs hcs hascii
open Go.RowKit in
theorem Tryz.strings_TrimLeft (s cutset : ByteArray) (w : World) (hcs : cutset.size < 4294967281) (hascii : ∀ (j : Nat) b, cutset.data.toList[j]? = some b → b.toNat < 128) :
    Calls Tryz.prog 106 #[.string s, .string cutset] w fun e w' => e = .returned (.string ⟨(Lib.trimLeftS s.data.toList cutset.data.toList).toArray⟩) ∧ Below w.heap.size w w' := Any.strings_TrimLeft_laid Tryz.lays161 (by kernel_rfl) s cutset w hcs hascii
end Go.Proofs

/- Contracts of digits and Canonical, Check. -/
namespace Go.Proofs.YtejaehmoplohdaaGreatDoor
open Go.RowKit Num

theorem prefix_minus (l : List UInt8) : Lib.hasPrefix l [45] = sgn l ∧ Lib.trimPrefix l [45] = body l := by
  cases l with
  | nil => exact ⟨rfl, rfl⟩
  | cons c r =>
    by_cases h : c = 45
    · subst h; exact ⟨by simp [Lib.hasPrefix, sgn], by simp [Lib.trimPrefix, Lib.hasPrefix, body]⟩
    · have e1 : sgn (c :: r) = false := by
        unfold sgn; split
        · rename_i e; rw [List.cons.injEq] at e; exact absurd e.1 h
        · rfl
      have e2 : body (c :: r) = c :: r := by
        unfold body; split
        · rename_i e; rw [List.cons.injEq] at e; exact absurd e.1 h
        · rfl
      have e3 : (45 == c) = false := by simpa using Ne.symm h
      rw [e1, e2]
      exact ⟨by simp [Lib.hasPrefix, List.isPrefixOf, e3], by simp [Lib.trimPrefix, Lib.hasPrefix, List.isPrefixOf, e3]⟩
def digL : List UInt8 := [48, 49, 50, 51, 52, 53, 54, 55, 56, 57]
theorem digL_has (c : UInt8) : digL.contains c = isDig c := by
  rw [Bool.eq_iff_iff]
  simp only [digL, isDig, List.contains_eq_mem, List.mem_cons, List.not_mem_nil, or_false, decide_eq_true_eq, Bool.and_eq_true, ← UInt8.toNat_inj, UInt8.reduceToNat]
  omega
theorem dropWhile_nil {p : UInt8 → Bool} (l : List UInt8) : l.dropWhile p = [] ↔ l.all p = true := by
  induction l with
  | nil => simp
  | cons c r ih =>
    rw [List.dropWhile_cons, List.all_cons]
    cases hp : p c
    · simp
    · simp [ih]
theorem trim_nil (l : List UInt8) : Lib.trimS l digL = [] ↔ l.all isDig = true := by
  have e : (fun c => digL.contains c) = isDig := funext digL_has
  unfold Lib.trimS Lib.trimLeftS Lib.trimRightS
  rw [e, dropWhile_nil, List.all_reverse]
  constructor
  · intro h
    rw [List.all_eq_true] at h ⊢
    intro x hx
    by_cases hp : (l.reverse.dropWhile isDig) = []
    · rw [dropWhile_nil, List.all_reverse, List.all_eq_true] at hp
      exact hp x hx
    · exfalso
      have h1 := List.head_dropWhile_not isDig (l := l.reverse) hp
      have h2 := h _ (List.head_mem hp)
      rw [h1] at h2; cases h2
  · intro h
    rw [List.all_eq_true] at h ⊢
    exact fun x hx => h x (by have := (List.dropWhile_sublist _).subset hx; simpa using this)
theorem lead_eq (l : List UInt8) : Lib.trimLeftS l [48] = lead l := by
  unfold Lib.trimLeftS lead
  congr 1
  funext c
  rw [Bool.eq_iff_iff]
  simp
def DgPost (s : ByteArray) (w : World) (e : Ending) (w' : World) : Prop := e = .returned (.tuple #[.string ⟨(dgs s.data.toList).toArray⟩, .bool (neg s.data.toList)]) ∧ Below w.heap.size w w'
set_option maxRecDepth 100000 in
theorem digits_any (s : ByteArray) (w : World) (hs : s.size ≤ 1000000) : Calls Tryz.prog 76 #[.string s] w (DgPost s w) := by
  have hp := prefix_minus s.data.toList
  have hcut := fun W => Tryz.strings_CutPrefix s ⟨#[45]⟩ W
  have e0 : (⟨#[45]⟩ : ByteArray).data.toList = [45] := rfl
  rw [e0, hp.1, hp.2] at hcut
  have hbl : (body s.data.toList).length ≤ 1000000 := by
    have : (body s.data.toList).length ≤ s.data.toList.length := by
      unfold body; split
      · rename_i h; rw [h]; simp
      · exact Nat.le_refl _
    have h2 : s.data.toList.length = s.size := rfl
    omega
  have hD := Lib.hid (show dgs s.data.toList = if (body s.data.toList).all isDig then lead (body s.data.toList) else [] from rfl)
  have hN := Lib.hid (show neg s.data.toList = (sgn s.data.toList && !(dgs s.data.toList).isEmpty) from rfl)
  unfold DgPost
  generalize hb : body s.data.toList = b at *
  generalize hsg : sgn s.data.toList = sg at *
  generalize hdg : dgs s.data.toList = dg at *
  generalize hng : neg s.data.toList = ng at *
  have htrim := fun W => Tryz.strings_Trim ⟨b.toArray⟩ ⟨#[48, 49, 50, 51, 52, 53, 54, 55, 56, 57]⟩ W (by simp [ByteArray.size]; omega) (by decide) (ascii_of_all (by decide))
  have hleft := fun W => Tryz.strings_TrimLeft ⟨b.toArray⟩ ⟨#[48]⟩ W (by decide) (ascii_of_all (by decide))
  have e1 : Lib.trimS (⟨b.toArray⟩ : ByteArray).data.toList (⟨#[48, 49, 50, 51, 52, 53, 54, 55, 56, 57]⟩ : ByteArray).data.toList = Lib.trimS b digL := by simp [digL]
  have e2 : Lib.trimLeftS (⟨b.toArray⟩ : ByteArray).data.toList (⟨#[48]⟩ : ByteArray).data.toList = lead b := by rw [← lead_eq]
  rw [e1] at htrim
  rw [e2] at hleft
  have HC := Lib.hid hcut
  have HT := Lib.hid htrim
  have HL := Lib.hid hleft
  clear hp hcut e0 htrim hleft e1 e2 hb hsg hdg hng
  cases hall : b.all isDig
  · have ht : Lib.trimS b digL ≠ [] := fun h => by rw [trim_nil, hall] at h; cases h
    have hd : dg = [] := by rw [hD.out, hall]; rfl
    have hn : ng = false := by rw [hN.out, hd]; simp
    generalize Lib.trimS b digL = t at *
    have t1 : (t = []) = False := by simpa using ht
    have t2 : t.isEmpty = false := by simpa using ht
    have HF := Lib.hid (And.intro hd hn)
    have HA := Lib.hid hall
    clear hd hn ht hD hN hall
    go_enter Tryz.func76, Tryz.ntmps76
    go_wp2_with fail
    refine (HC.out _).mono ?_
    rintro e w1 ⟨rfl, rfl⟩
    go_wp2_with fail
    refine (HT.out _).mono ?_
    rintro e w1 ⟨rfl, hb1⟩
    go_wp2_with fail
    go_ret2
    exact ⟨by rw [HF.out.1, HF.out.2]; rfl, hb1⟩
  · have ht : Lib.trimS b digL = [] := (trim_nil b).2 hall
    rw [ht] at HT
    have hd : dg = lead b := by rw [hD.out, hall]; rfl
    have hn := hN.out
    rw [hd] at hn
    have HF := Lib.hid (And.intro hd hn)
    have HA := Lib.hid hall
    clear hd hn ht hD hN hall
    generalize lead b = t at *
    cases sg
    · go_enter Tryz.func76, Tryz.ntmps76
      go_wp2_with fail
      refine (HC.out _).mono ?_
      rintro e w1 ⟨rfl, rfl⟩
      go_wp2_with fail
      refine (HT.out _).mono ?_
      rintro e w1 ⟨rfl, hb1⟩
      go_wp2_with fail
      refine (HL.out _).mono ?_
      rintro e w2 ⟨rfl, hb2⟩
      go_wp2_with fail
      go_ret2
      exact ⟨by rw [HF.out.1, HF.out.2]; rfl, hb1.trans (hb2.mono hb1.size)⟩
    · cases t with
      | nil =>
        go_enter Tryz.func76, Tryz.ntmps76
        go_wp2_with fail
        refine (HC.out _).mono ?_
        rintro e w1 ⟨rfl, rfl⟩
        go_wp2_with fail
        refine (HT.out _).mono ?_
        rintro e w1 ⟨rfl, hb1⟩
        go_wp2_with fail
        refine (HL.out _).mono ?_
        rintro e w2 ⟨rfl, hb2⟩
        go_wp2_with fail
        go_ret2
        exact ⟨by rw [HF.out.1, HF.out.2]; rfl, hb1.trans (hb2.mono hb1.size)⟩
      | cons x r =>
        go_enter Tryz.func76, Tryz.ntmps76
        go_wp2_with fail
        refine (HC.out _).mono ?_
        rintro e w1 ⟨rfl, rfl⟩
        go_wp2_with fail
        refine (HT.out _).mono ?_
        rintro e w1 ⟨rfl, hb1⟩
        go_wp2_with fail
        refine (HL.out _).mono ?_
        rintro e w2 ⟨rfl, hb2⟩
        go_wp2_with fail
        go_ret2
        exact ⟨by rw [HF.out.1, HF.out.2]; rfl, hb1.trans (hb2.mono hb1.size)⟩
end Go.Proofs.YtejaehmoplohdaaGreatDoor

/- Contract of read. -/
namespace Go.Proofs.YtejaehmoplohdaaGreatDoor
open Go.RowKit Num

theorem parse_ok (l : List UInt8) (h : l.all isDig = true) : ∀ acc, (acc + 1) * 10 ^ l.length ≤ 1000000000000000000 → Lib.parseUintM (2 ^ 64 - 1) acc l = .ok (l.foldl (fun n c => 10 * n + dv c) acc) := by
  induction l with
  | nil => intro acc _; rfl
  | cons c r ih =>
    intro acc hb
    rw [List.all_cons, Bool.and_eq_true] at h
    have h1 := h.1
    have hd := dv_le h1
    simp only [isDig, Bool.and_eq_true, decide_eq_true_eq] at h1
    have hp : 1 ≤ 10 ^ r.length := Nat.pow_pos (by omega)
    rw [List.length_cons, Nat.pow_succ] at hb
    have hb2 : (10 * acc + 10) * 10 ^ r.length ≤ 1000000000000000000 := by
      have e : (10 * acc + 10) * 10 ^ r.length = (acc + 1) * (10 ^ r.length * 10) := by rw [show 10 * acc + 10 = 10 * (acc + 1) by omega, Nat.mul_comm (10 ^ r.length) 10, ← Nat.mul_assoc, Nat.mul_comm 10]
      omega
    have hb3 : (10 * acc + 10) * 1 ≤ (10 * acc + 10) * 10 ^ r.length := Nat.mul_le_mul_left _ hp
    have e2 : acc * 10 + (c.toNat - 48) = 10 * acc + dv c := by unfold dv; omega
    rw [Lib.parseUintM, if_pos h1, if_neg (by omega), if_neg (by rw [e2]; omega), e2, ih h.2 _ ?_]
    · rfl
    · have : (10 * acc + dv c + 1) * 10 ^ r.length ≤ (10 * acc + 10) * 10 ^ r.length := Nat.mul_le_mul_right _ (by omega)
      omega
theorem parse_digits (l : List UInt8) (h : l.all isDig = true) (hne : l ≠ []) (h9 : l.length ≤ 9) : Lib.parseUintB 64 l = .ok (digV l) := by
  rw [Lib.parseUintB, if_neg hne, parse_ok l h 0 ?_]
  · rfl
  · have : 10 ^ l.length ≤ 10 ^ 9 := Nat.pow_le_pow_right (by omega) h9
    omega
theorem below_bytes (W : World) (s : ByteArray) : Below W.heap.size W (Lib.bytesWorld W 5 s) := Joins.below_bytesWorld W.heap.size W 5 s (Nat.le_refl _)
theorem parse_part (D : List UInt8) (hall : D.all isDig = true) (lo hi : Nat) (h : lo < hi) (hl : hi ≤ D.length) (h9 : hi ≤ lo + 9) (W : World) :
    Calls Tryz.prog 77 #[.string ((⟨D.toArray⟩ : ByteArray).extract lo hi), .int .i64 10, .int .i64 64] W fun e w' => e = .returned (.tuple #[.int .u64 ((digV ((D.take hi).drop lo) : Nat) : Int), .nilIface]) ∧ Below W.heap.size W w' := by
  have e1 : ((⟨D.toArray⟩ : ByteArray).extract lo hi).data.toList = (D.take hi).drop lo := by simp [List.extract_eq_take_drop, List.drop_take]
  have hlen : ((D.take hi).drop lo).length = hi - lo := by rw [List.length_drop, List.length_take]; omega
  have hp := parse_digits ((D.take hi).drop lo) (List.all_eq_true.2 fun x hx => List.all_eq_true.1 hall x (List.mem_of_mem_take (List.mem_of_mem_drop hx))) (fun e => by rw [e] at hlen; simp at hlen; omega) (by omega)
  refine (Tryz.strconv_ParseUint_10_at64_ok _ (by have : ((⟨D.toArray⟩ : ByteArray).extract lo hi).size = ((D.take hi).drop lo).length := by rw [← e1]; rfl
                                                  omega) _ (by rw [e1]; exact hp) W).mono ?_
  rintro e w' ⟨he, hw⟩
  refine ⟨he, ?_⟩
  rcases hw with rfl | rfl
  · exact Below.refl _ _
  · exact below_bytes _ _
/-- what 'read' returns for a string -/
def ReadPost (l : List UInt8) (w : World) (e : Ending) (w' : World) : Prop := ∃ A n c, e = .returned (.agg #[.bool (neg l), .slice A n c]) ∧ n ≤ 120 ∧ Mag w' A n c (grp (dgs l)) ∧ (n = 0 → A = none ∧ c = 0) ∧ Below w.heap.size w w'
theorem grp_step (s : List UInt8) (k : Nat) (hk : 0 < k) (hl : k ≤ s.length) : grp (s.take k) = digV ((s.take k).drop (k - 9)) :: grp (s.take (k - 9)) := by
  have hne : s.take k ≠ [] := fun e => by have := congrArg List.length e; rw [List.length_take, List.length_nil] at this; omega
  have hlen : (s.take k).length = k := by rw [List.length_take]; omega
  rw [grp_ne hne, hlen, List.take_take, Nat.min_eq_left (by omega)]
theorem dgs_len (l : List UInt8) : (dgs l).length ≤ l.length := by
  unfold dgs
  split
  · have h1 : (lead (body l)).length ≤ (body l).length := (List.dropWhile_sublist _).length_le
    have h2 : (body l).length ≤ l.length := by
      unfold body; split
      · simp
      · exact Nat.le_refl _
    omega
  · simp
theorem grp_len (s : List UInt8) : (grp s).length ≤ s.length := by
  induction hn : s.length using Nat.strongRecOn generalizing s with
  | _ n ih =>
    by_cases h : s = []
    · subst h; rw [grp_nil]; simp
    · have hp : 0 < s.length := List.length_pos_iff.2 h
      rw [grp_ne h, List.length_cons]
      have := ih (s.take (s.length - 9)).length (by rw [List.length_take]; omega) _ rfl
      rw [List.length_take] at this
      omega
theorem OwnU.below {B : Nat} {w w' : World} {v : Value} {l : List Nat} (h : OwnU B w v l) (hb : Below w.heap.size w w') : OwnU B w' v l := by
  rcases h.2 with ⟨rfl, h0⟩ | ⟨g, cap, cur, rfl, hB, hg, hr⟩
  · exact ⟨h.1, .inl ⟨rfl, h0⟩⟩
  · refine ⟨h.1, .inr ⟨g, cap, cur, rfl, hB, ?_, hr⟩⟩
    rw [hb.block]
    · exact hg
    · rcases Nat.lt_or_ge g w.heap.size with h' | h'
      · exact h'
      · rw [Array.getElem?_eq_none h'] at hg; cases hg
set_option maxRecDepth 100000 in
set_option maxHeartbeats 2000000 in
theorem read_any (s : ByteArray) (w : World) (hs : s.size ≤ 120) : Calls Tryz.prog 48 #[.string s] w (ReadPost s.data.toList w) := by
  have hdl : (dgs s.data.toList).length ≤ 120 := by
    have h1 := dgs_len s.data.toList
    have h2 : s.data.toList.length = s.size := rfl
    omega
  have hall := Lib.hid (dgs_all s.data.toList)
  have hgl := Lib.hid (grp_len (dgs s.data.toList))
  have hglt := Lib.hid (grp_lt _ (dgs_all s.data.toList))
  have hdig := fun W => digits_any s W (by omega)
  unfold DgPost at hdig
  unfold ReadPost
  generalize neg s.data.toList = ng at *
  generalize dgs s.data.toList = D at *
  have HD := Lib.hid hdig
  clear hdig
  go_enter Tryz.func48, Tryz.ntmps48
  go_wp2_with fail
  refine (HD.out _).mono ?_
  rintro e w1 ⟨rfl, hb1⟩
  have r0 : w1.cell? ⟨w.heap.size, 0, none⟩ = some (.bool false) := by rw [hb1.cell (by simp)]; go_simp
  have r1 : w1.cell? ⟨w.heap.size, 1, none⟩ = some (.slice none 0 0) := by rw [hb1.cell (by simp)]; go_simp
  have g0 : w1.frozen? ⟨w.heap.size, 0, none⟩ = false := by rw [hb1.frozen (by simp)]; go_simp
  have g1 : w1.frozen? ⟨w.heap.size, 1, none⟩ = false := by rw [hb1.frozen (by simp)]; go_simp
  have hsz : w.heap.size + 1 ≤ w1.heap.size := by have := hb1.size; simpa using this
  have hbw : Below w.heap.size w w1 := ((Below.refl _ w).alloc (Nat.le_refl _) _).trans (hb1.mono (by simp))
  have HR := Lib.hid (And.intro r0 (And.intro r1 (And.intro g0 g1)))
  clear r0 r1 g0 g1 hb1
  go_wp2_with fail
  go_loopw [5, 6] (fun mv ev wr => ∃ (k : Int) (acc : List Nat), ev = .int .i64 k ∧ k ≤ (D.length : Int) ∧ -9 ≤ k ∧ Hid (grp D = acc ++ grp (D.take k.toNat)) ∧ OwnU w1.heap.size wr mv acc ∧ Hid (acc = [] → mv = .slice none 0 0) ∧ Below w1.heap.size w1 wr) (fun _ ev _ => (intOf ev).toNat)
  case atStart => exact ⟨(D.length : Int), [], by simp, Int.le_refl _, by omega, by show _ = _; simp, OwnU.nil _ _, fun _ => rfl, Below.refl _ _⟩
  case round =>
    obtain ⟨k, acc, rfl, hk1, hk2, hg, hown, hnil, hbel⟩ := hrel
    by_cases hk0 : 0 < k
    · obtain ⟨j, rfl⟩ : ∃ j : Nat, k = (j : Int) := ⟨k.toNat, by omega⟩
      have hd0 : decide ((0 : Int) < (j : Int)) = true := decide_eq_true hk0
      have hjl : j ≤ D.length := by omega
      have hj0 : 0 < j := by omega
      by_cases h9 : 9 ≤ j
      · obtain ⟨i, rfl⟩ : ∃ i, j = i + 9 := ⟨j - 9, by omega⟩
        have e9 : ((i + 9 : Nat) : Int) - 9 = (i : Int) := by omega
        have hmx : max (0 : Int) (i : Int) = (i : Int) := by omega
        have hd1 : decide ((0 : Int) < (i : Int) + 9) = true := by rw [decide_eq_true_iff]; omega
        obtain ⟨x, hx⟩ : ∃ x, x = digV ((D.take (i + 9)).drop i) := ⟨_, rfl⟩
        have hpp := Lib.hid (fun W => parse_part D hall.out i (i + 9) (by omega) hjl (by omega) W)
        rw [← hx] at hpp
        have hgs := Lib.hid (grp_step D (i + 9) (by omega) hjl)
        have HX := Lib.hid hx
        clear hx
        go_wp2_with fail
        refine (hpp.out _).mono ?_
        rintro e w5 ⟨rfl, hb5⟩
        have hown5 := hown.below hb5
        have hbel5 := hbel.trans (hb5.mono hbel.size)
        have hwl := hbel.size
        have hw5 := hb5.size
        have hal : acc.length + 1 ≤ 1000000 := by
          have h1 := congrArg List.length hg.out
          rw [List.length_append] at h1
          have h2 := hgl.out
          omega
        clear hown hbel
        go_wp2_with (with_reducible refine wp_append_u rfl (.tmp 30) (.tmp 32) rfl w1.heap.size u5 acc w5 x rfl hown5 rfl (by omega) hal ?_)
        intro v' w6 hown6 hb6 _
        clear hown5
        go_wp2_with fail
        go_roundw
        case rel => exact ⟨(i : Int), acc ++ [x], rfl, by omega, by omega, by show _ = _; rw [hg.out, Int.toNat_natCast, Int.toNat_natCast, hgs.out, HX.out, List.append_assoc]; rfl, hown6, fun h => by simp at h, hbel5.trans hb6⟩
        case measure => simp [intOf]; omega
      · have hmx : max (0 : Int) ((j : Int) - 9) = 0 := by omega
        obtain ⟨x, hx⟩ : ∃ x, x = digV ((D.take (j)).drop 0) := ⟨_, rfl⟩
        have hpp := Lib.hid (fun W => parse_part D hall.out 0 (j) (by omega) hjl (by omega) W)
        rw [← hx] at hpp
        have hgs := Lib.hid (grp_step D (j) (by omega) hjl)
        have HX := Lib.hid hx
        clear hx
        go_wp2_with fail
        refine (hpp.out _).mono ?_
        rintro e w5 ⟨rfl, hb5⟩
        have hown5 := hown.below hb5
        have hbel5 := hbel.trans (hb5.mono hbel.size)
        have hwl := hbel.size
        have hw5 := hb5.size
        have hal : acc.length + 1 ≤ 1000000 := by
          have h1 := congrArg List.length hg.out
          rw [List.length_append] at h1
          have h2 := hgl.out
          omega
        clear hown hbel
        go_wp2_with (with_reducible refine wp_append_u rfl (.tmp 30) (.tmp 32) rfl w1.heap.size u5 acc w5 x rfl hown5 rfl (by omega) hal ?_)
        intro v' w6 hown6 hb6 _
        clear hown5
        go_wp2_with fail
        go_roundw
        case rel => exact ⟨(j : Int) - 9, acc ++ [x], rfl, by omega, by omega, by show _ = _; rw [hg.out, Int.toNat_natCast, show ((j : Int) - 9).toNat = j - 9 by omega, hgs.out, HX.out, List.append_assoc, show j - 9 = 0 by omega]; rfl, hown6, fun h => by simp at h, hbel5.trans hb6⟩
        case measure => simp [intOf]; omega
    · have hd0 : decide ((0 : Int) < k) = false := decide_eq_false hk0
      have hgr : grp D = acc := by rw [hg.out, show k.toNat = 0 by omega, List.take_zero, grp_nil, List.append_nil]
      obtain ⟨A, c, hv, hmg, hfr⟩ := hown.mag (by rw [← hgr]; exact hglt.out)
      subst hv
      have s0 : wr.cell? ⟨w.heap.size, 0, none⟩ = some (.bool false) := (hbel.cell (by simp; omega)).trans HR.out.1
      have s1 : wr.cell? ⟨w.heap.size, 1, none⟩ = some (.slice none 0 0) := (hbel.cell (by simp; omega)).trans HR.out.2.1
      have g0 : wr.frozen? ⟨w.heap.size, 0, none⟩ = false := (hbel.frozen (by simp; omega)).trans HR.out.2.2.1
      have g1 : wr.frozen? ⟨w.heap.size, 1, none⟩ = false := (hbel.frozen (by simp; omega)).trans HR.out.2.2.2
      have hnz := Lib.hid (show acc.length = 0 → A = none ∧ c = 0 from fun h => by
        have e := hnil.out (List.eq_nil_of_length_eq_zero h)
        simp only [Value.slice.injEq] at e
        exact ⟨e.1, e.2.2⟩)
      have hal : acc.length ≤ 120 := by
        have := hgl.out
        rw [hgr] at this
        omega
      have hgr := Lib.hid hgr
      have hmf := Lib.hid (fun x y => hmg.far (r := w.heap.size) (fun ad h => by have := hfr ad h; omega) x y)
      generalize acc.length = n at *
      clear hown hmg hfr
      go_wp2_with fail
      have t0 : ((wr.setCell ⟨w.heap.size, 0, none⟩ (.bool ng)).setCell ⟨w.heap.size, 1, none⟩ (.slice A n c)).cell? ⟨w.heap.size, 0, none⟩ = some (.bool ng) := by
        rw [World.cell?_setCell_other _ _ _ _ (by simp), World.cell?_setCell_same _ _ _ s0]
      have s1' : (wr.setCell ⟨w.heap.size, 0, none⟩ (.bool ng)).cell? ⟨w.heap.size, 1, none⟩ = some (.slice none 0 0) := by
        rw [World.cell?_setCell_other _ _ _ _ (by simp)]; exact s1
      have t1 := World.cell?_setCell_same _ _ (.slice A n c) s1'
      have hb6 : Below w.heap.size w ((wr.setCell ⟨w.heap.size, 0, none⟩ (.bool ng)).setCell ⟨w.heap.size, 1, none⟩ (.slice A n c)) := ((hbw.trans (hbel.mono (by omega))).setCell (p := ⟨w.heap.size, 0, none⟩) (by simp) _).setCell (p := ⟨w.heap.size, 1, none⟩) (by simp) _
      have hm6 := hmf.out (.bool ng) (.slice A n c)
      have HF := Lib.hid (And.intro hb6 hm6)
      clear hb6 hm6 s1' s0 s1 g0 g1
      generalize (wr.setCell ⟨w.heap.size, 0, none⟩ (.bool ng)).setCell ⟨w.heap.size, 1, none⟩ (.slice A n c) = w6 at *
      exact bodyPost_ret (v := .agg #[.bool ng, .slice A n c]) (by simp [results, Tryz.results48, go_sem, t0, t1]) rfl ⟨A, n, c, rfl, hal, HF.out.2, hnz.out, HF.out.1⟩
end Go.Proofs.YtejaehmoplohdaaGreatDoor

/- Contract of FormatUint at base 10. -/
namespace Go.Proofs.YtejaehmoplohdaaGreatDoor
open Go.RowKit Num

/-- the table of the powers of ten holds them -/
def Tab (w : World) : Prop := Lib.TabIs Tryz.prog w "internal/strconv.uint64pow10" .u64 Lib.pow10Tab
theorem gPow : Tryz.prog.globalNamed "internal/strconv.uint64pow10" = some 2 := by kernel_rfl
theorem Tab.below {w w' : World} (h : Tab w) (hb : Below w.heap.size w w') : Tab w' := Joins.tab_stays gPow h hb (Nat.le_refl _)
theorem dec_fmt (n : Nat) : Lib.decDigits n = fmt n := by
  induction n using Nat.strongRecOn with
  | _ n ih =>
    rw [Lib.decDigits]
    by_cases h : n < 10
    · rw [dif_pos h]
      unfold fmt
      by_cases h0 : n = 0
      · subst h0; rfl
      · rw [if_neg h0, dig_pos h0, Nat.div_eq_of_lt h, dig_zero, Nat.mod_eq_of_lt h]; rfl
    · rw [dif_neg h, ih (n / 10) (by omega)]
      have h1 : n / 10 ≠ 0 := by omega
      unfold fmt
      rw [if_neg h1, if_neg (by omega), dig_pos (n := n) (by omega)]
theorem tab_alloc {w : World} (h : Tab w) (o : Obj) : Tab (w.alloc o) := h.below ((Below.refl _ _).alloc (Nat.le_refl _) _)
open Go.Lib Go.Sort in
set_option maxHeartbeats 3200000 in
set_option maxRecDepth 100000 in
theorem ifmt_any (u : Nat) (hu64 : u < 18446744073709551616) (w : World) (ht : Tab w) :
    Calls Tryz.prog 110 #[.int .u64 (u : Int), .int .i64 10] w fun e w' => e = .returned (.string ⟨(Lib.decDigits u).toArray⟩) ∧ Below w.heap.size w w' := by
  by_cases hs : u < 100
  · have hi : (u : Int) < 100 := by omega
    go_enter Tryz.func110, Tryz.ntmps110
    go_wp2_with fail
    refine (Tryz.internal_strconv_small u hs _).mono ?_
    rintro e w' ⟨rfl, rfl⟩
    go_wp2_with fail
    go_ret
    exact ⟨rfl, Below.refl _ _⟩
  · have hi : decide ((u : Int) < 100) = false := by rw [decide_eq_false_iff_not]; omega
    have hu1 : 1 ≤ u := by omega
    have hnd20 : Lib.nDigits u ≤ 20 := by have := Lib.numDigits_eq u hu1 hu64; split at this <;> omega
    have hb3 : Lib.nDigits u ≤ 24 := by omega
    have hal : Tryz.prog.arrayLen 182 = 24 := by simp [Program.arrayLen, Tryz.underlying182]
    have hsl1 : ∀ W, (Instr.sliceAt 182 (.pointer (some ⟨w.heap.size, 0, none⟩)) none (some (.int .i64 (Lib.nDigits u : Int))) none).run Tryz.prog W = .ok (.slice (some ⟨w.heap.size, 0, none⟩) (Lib.nDigits u) 24) W := fun W => by
      rw [run_sliceAt_array_h W 182 ⟨w.heap.size, 0, none⟩ (by simp [Program.arrayLen, Program.elem, Tryz.underlying182]) .i64 (Lib.nDigits u : Int) (by omega) (by rw [hal]; omega)]
      go_simp
    have hH0 : Sort.Holds (fun (b : UInt8) => Value.int .u8 (b.toNat : Int)) (w.alloc (.cells Lib.zeros24 182)) w.heap.size 0 (Array.replicate (Lib.nDigits u) 0) := fun j hj => by
      have hj' : j < Lib.nDigits u := by simpa using hj
      refine ⟨?_, World.frozen?_alloc_new _ _ _ _⟩
      rw [World.cell?_alloc_new, Lib.zeros24_at _ (by omega), getElem!_pos _ j hj]
      simp
    have hfmt := Tryz.internal_strconv_formatBase10 w.heap.size 0 24 u (Array.replicate (Lib.nDigits u) 0) (w.alloc (.cells Lib.zeros24 182)) hH0 (by rw [Array.size_replicate]; exact Lib.lt_pow_nDigits u) hu64 (by rw [Array.size_replicate]; omega)
    rw [Array.size_replicate] at hfmt
    have HH0 := Lib.hid hH0
    have HFM := Lib.hid hfmt
    have htab := Lib.hid (tab_alloc ht (.cells Lib.zeros24 182))
    clear hH0 hal hfmt ht
    go_enter Tryz.func110, Tryz.ntmps110
    go_wp2_with fail
    refine (Tryz.internal_strconv_numDigits u hu1 hu64 _ htab.out).mono ?_
    rintro e w' ⟨rfl, rfl⟩
    go_wp2_with fail
    refine HFM.out.mono ?_
    rintro e w' ⟨rfl, k, v', dk, rfl, hF⟩
    have hcv : (convert 50 9 (.slice (some ⟨w.heap.size, 0, none⟩) (Lib.nDigits u) 24)).run Tryz.prog ((putRow (fun (b : UInt8) => Value.int .u8 (b.toNat : Int)) (w.alloc (.cells Lib.zeros24 182)) w.heap.size 0 dk).drewN k) = .ok (.string ⟨(Lib.decDigits u).toArray⟩) ((putRow (fun (b : UInt8) => Value.int .u8 (b.toNat : Int)) (w.alloc (.cells Lib.zeros24 182)) w.heap.size 0 dk).drewN k) := by
      have h := run_convert_bytes_back (P := Tryz.prog) ((putRow (fun (b : UInt8) => Value.int .u8 (b.toNat : Int)) (w.alloc (.cells Lib.zeros24 182)) w.heap.size 0 dk).drewN k) 50 9 5 ⟨w.heap.size, 0, none⟩ 24 (Lib.decDigits u) Tryz.underlying50 Tryz.underlying5 Tryz.underlying9 (fun j hj => by
        rw [Lib.row_is_numeral hF j hj, Lib.add_plain, World.cell?_drewN]
        exact cell?_putRow (fun (b : UInt8) => Value.int .u8 (b.toNat : Int)) _ w.heap.size 0 _ dk HH0.out (by rw [hF.size, Array.size_replicate]) j (by rw [hF.size]; rw [Lib.decDigits_length] at hj; exact hj))
      rw [Lib.decDigits_length] at h
      exact h
    have hbz : Below w.heap.size w ((putRow (fun (b : UInt8) => Value.int .u8 (b.toNat : Int)) (w.alloc (.cells Lib.zeros24 182)) w.heap.size 0 dk).drewN k) := by
      rw [alloc_eq_grow]
      obtain ⟨os', _, e⟩ := putRow_grow_new (fun (b : UInt8) => Value.int .u8 (b.toNat : Int)) w #[.cells Lib.zeros24 182] w.heap.size 0 dk (Nat.le_refl _)
      rw [e]
      exact ⟨rfl, rfl, rfl, by simp [Sort.grow, World.drewN], fun j hj => by simp [Sort.grow, World.drewN, Array.getElem?_append, hj]⟩
    go_wp2_with fail
    go_ret
    exact ⟨rfl, hbz⟩
theorem fmt_any (u : Nat) (hu64 : u < 18446744073709551616) (w : World) (ht : Tab w) :
    Calls Tryz.prog 81 #[.int .u64 (u : Int), .int .i64 10] w fun e w' => e = .returned (.string ⟨(fmt u).toArray⟩) ∧ Below w.heap.size w w' := by
  have h := fun W hT => ifmt_any u hu64 W hT
  rw [dec_fmt u] at h
  have H := Lib.hid h
  clear h
  go_enter Tryz.func81, Tryz.ntmps81
  go_wp2_with fail
  refine (H.out _ ht).mono ?_
  rintro e w' ⟨rfl, hb⟩
  go_wp2_with fail
  go_ret
  exact ⟨rfl, hb⟩
end Go.Proofs.YtejaehmoplohdaaGreatDoor
