/- Contract of add. -/
import Derived.Test.YtjcbohbpkodkoaaGreatDoorQ1
import Derived.Deep.RegionHeld3
import Derived.WalkLawsBesides
import Derived.Outline
import Derived.Shelf.Strings.Builder1
import Derived.Shelf.Strings.Builder2
import Derived.Shelf.Strings.Trim
import Derived.Shelf.Small.Bits
import Derived.Shelf.Small.Strs
import Derived.Shelf.Small.Wraps
import Derived.Shelf.Strings.BuilderF
import Derived.Shelf.Strings.BuilderK
import Derived.Shelf.Strconv.Itoa0
import Derived.Shelf.Strconv.Itoa1
import Derived.Shelf.LaysM
import Derived.Shelf.Strconv.Itoa2
import Derived.Shelf.Strconv.Itoa3
import Derived.Shelf.Pu.ParseUintPublic10
import Derived.Shelf.Strings.Search1
import Derived.Shelf.Strings.Search2
import Derived.Shelf.Strings.Cut
import Derived.Shelf.Strings.Shaped
import Derived.Shelf.Strings.Prefix
import Derived.Shelf.Strings.AsciiSet
import Derived.Shelf.Bits.Mul64
import Derived.Shelf.Strings.Repeat
import Derived.Shelf.Strings.SlTrimAscii
import Derived.Test.YtjcbohbpkodkoaaGreatDoorProg
import Derived.Lib.ItoaMem
namespace Go.Proofs.YtjcbohbpkodkoaaGreatDoor
open Go.RowKit

theorem minus_nil (w : World) : Calls Tryz.prog 137 #[.slice none 0 0, .slice none 0 0] w (MagPost 0 0 w) := by
  have hnil := fun W => Lib.run_eql_slice_nil (P := Tryz.prog) W 145 130 none 0 0 0 0 Tryz.underlying145
  have hcl : ∀ W, Calls Tryz.prog 176 #[.slice none 0 0] W fun e w' => e = .returned (.slice none 0 0) ∧ W = w' := fun W => by
    have h1 := hnil W
    clear hnil
    go_enter Tryz.func176, Tryz.ntmps176
    go_wp2_with fail
    go_ret
    exact ⟨rfl, rfl⟩
  have HC := Lib.hid hcl
  clear hcl hnil
  go_enter Tryz.func137, Tryz.ntmps137
  go_wp2_with fail
  refine (HC.out _).mono ?_
  rintro e w1 ⟨rfl, rfl⟩
  go_wp2_with fail
  go_loop [13] (fun i => i = .int .i64 0) (fun _ => 0)
  case atStart => rfl
  case round =>
    subst hrel
    go_wp2_with fail
    refine (cut_any none 0 0 [] _ (Mag.nil _)).mono ?_
    rintro e w1 ⟨rfl, rfl⟩
    go_wp2_with fail
    go_ret
    exact ⟨none, 0, 0, [], rfl, Nat.le_refl _, Mag.nil _, (fun _ h => by cases h), rfl, Below.refl _ _⟩
/-- a number in memory: its sign and its groups -/
structure NumV (w : World) (v : Value) (k : Nat) (x : Int) (ng : Bool) (A : Option Addr) (n c : Nat) (ms : List Nat) : Prop where
  eq : v = .agg #[.bool ng, .slice A n c]
  mag : Mag w A n c ms
  le : n ≤ k
  val : Num.sv ng ms = x
/-- a result that is a number with the value x, of at most k groups -/
def NumPost (x : Int) (k : Nat) (w : World) (e : Ending) (w' : World) : Prop := ∃ v ng A n c ms, e = .returned v ∧ NumV w' v k x ng A n c ms ∧ Below w.heap.size w w'
theorem far2 (w5 : World) (h o : Nat) (x y : Value) {u : Value} (d : w5.cell? ⟨h, o, none⟩ = some u) : ((w5.setCell ⟨h + 1 + 1, 0, none⟩ x).setCell ⟨h + 1 + 1, 1, none⟩ y).cell? ⟨h, o, none⟩ = some u := by
  rw [World.cell?_setCell_other _ _ _ _ (by simp), World.cell?_setCell_other _ _ _ _ (by simp)]; exact d
theorem far2' (w5 : World) (h o : Nat) (x y : Value) {u : Value} (d : w5.cell? ⟨h + 1, o, none⟩ = some u) : ((w5.setCell ⟨h + 1 + 1, 0, none⟩ x).setCell ⟨h + 1 + 1, 1, none⟩ y).cell? ⟨h + 1, o, none⟩ = some u := by
  rw [World.cell?_setCell_other _ _ _ _ (by simp), World.cell?_setCell_other _ _ _ _ (by simp)]; exact d
theorem ex_alloc3 (w : World) (a b c : Obj) : Below w.heap.size w (((w.alloc a).alloc b).alloc c) := (((Below.refl _ w).alloc (Nat.le_refl _) _).alloc (by simp) _).alloc (by simp; omega) _
set_option maxRecDepth 100000 in
set_option maxHeartbeats 2000000 in
theorem add_same (ng : Bool) (A B : Option Addr) (n c p d : Nat) (ms ns : List Nat) (w : World) (hm : Mag w A n c ms) (hn : Mag w B p d ns) (h1 : n ≤ 500) (h2 : p ≤ 500) :
    Calls Tryz.prog 102 #[.agg #[.bool ng, .slice A n c], .agg #[.bool ng, .slice B p d]] w (NumPost (Num.sv ng ms + Num.sv ng ns) (max n p + 1) w) := by
  have HM := Lib.hid hm
  have HN := Lib.hid hn
  clear hm hn
  have hbe : (ng == ng) = true := by simp
  go_enter Tryz.func102, Tryz.ntmps102
  go_wp2_with fail
  have hB0 := ex_alloc3 w (.cells #[.bool ng, .slice A n c] 147) (.cells #[.bool ng, .slice B p d] 147) (.cells #[.bool false, .slice none 0 0] 147)
  have hsz : (((w.alloc (.cells #[.bool ng, .slice A n c] 147)).alloc (.cells #[.bool ng, .slice B p d] 147)).alloc (.cells #[.bool false, .slice none 0 0] 147)).heap.size = w.heap.size + 3 := by simp
  have x0 : (((w.alloc (.cells #[.bool ng, .slice A n c] 147)).alloc (.cells #[.bool ng, .slice B p d] 147)).alloc (.cells #[.bool false, .slice none 0 0] 147)).cell? ⟨w.heap.size, 0, none⟩ = some (.bool ng) := by go_simp
  have x1 : (((w.alloc (.cells #[.bool ng, .slice A n c] 147)).alloc (.cells #[.bool ng, .slice B p d] 147)).alloc (.cells #[.bool false, .slice none 0 0] 147)).cell? ⟨w.heap.size, 1, none⟩ = some (.slice A n c) := by go_simp
  have y1 : (((w.alloc (.cells #[.bool ng, .slice A n c] 147)).alloc (.cells #[.bool ng, .slice B p d] 147)).alloc (.cells #[.bool false, .slice none 0 0] 147)).cell? ⟨w.heap.size + 1, 1, none⟩ = some (.slice B p d) := by go_simp
  have r0 : (((w.alloc (.cells #[.bool ng, .slice A n c] 147)).alloc (.cells #[.bool ng, .slice B p d] 147)).alloc (.cells #[.bool false, .slice none 0 0] 147)).cell? ⟨w.heap.size + 1 + 1, 0, none⟩ = some (.bool false) := by go_simp
  have r1 : (((w.alloc (.cells #[.bool ng, .slice A n c] 147)).alloc (.cells #[.bool ng, .slice B p d] 147)).alloc (.cells #[.bool false, .slice none 0 0] 147)).cell? ⟨w.heap.size + 1 + 1, 1, none⟩ = some (.slice none 0 0) := by go_simp
  have f0 : (((w.alloc (.cells #[.bool ng, .slice A n c] 147)).alloc (.cells #[.bool ng, .slice B p d] 147)).alloc (.cells #[.bool false, .slice none 0 0] 147)).frozen? ⟨w.heap.size + 1 + 1, 0, none⟩ = false := by go_simp
  have f1 : (((w.alloc (.cells #[.bool ng, .slice A n c] 147)).alloc (.cells #[.bool ng, .slice B p d] 147)).alloc (.cells #[.bool false, .slice none 0 0] 147)).frozen? ⟨w.heap.size + 1 + 1, 1, none⟩ = false := by go_simp
  generalize (((w.alloc (.cells #[.bool ng, .slice A n c] 147)).alloc (.cells #[.bool ng, .slice B p d] 147)).alloc (.cells #[.bool false, .slice none 0 0] 147)) = W0 at *
  have hM := Lib.hid (fun W (h : Below W0.heap.size W0 W) => (HM.out.below hB0).below h)
  have hN := Lib.hid (fun W (h : Below W0.heap.size W0 W) => (HN.out.below hB0).below h)
  have HSZ := Lib.hid hsz
  have HB0 := Lib.hid hB0
  have hszle : w.heap.size + 3 ≤ W0.heap.size := by omega
  have R := Lib.hid (And.intro r0 (And.intro r1 (And.intro f0 f1)))
  clear hsz hB0 HM HN r0 r1 f0 f1
  go_region_held3 (fun w' => w'.cell? ⟨w.heap.size, 0, none⟩ = some (.bool ng) ∧ w'.cell? ⟨w.heap.size, 1, none⟩ = some (.slice A n c) ∧ w'.cell? ⟨w.heap.size + 1, 1, none⟩ = some (.slice B p d)) (first | exact ⟨d0, d1, d2⟩ | exact ⟨far2 _ _ _ _ _ d0, far2 _ _ _ _ _ d1, far2' _ _ _ _ _ d2⟩ | go_keep)
    (first | (go_at_call 136; refine (plus_any A B n c p d ms ns _ (hM.out _ (by first | exact (Below.refl _ _).drew | exact Below.refl _ _)) (hN.out _ (by first | exact (Below.refl _ _).drew | exact Below.refl _ _)) h1 h2).mono ?_; rintro e w5 ⟨G, k, cc, os, rfl, hk, hmag, hfr, hval, hb5⟩; have hB5 := Lib.hid (show Below W0.heap.size W0 w5 from (Below.refl _ _).drew.trans hb5); have d0 := (hB5.out.cell (p := ⟨w.heap.size, 0, none⟩) (by simp; omega)).trans x0; have d1 := (hB5.out.cell (p := ⟨w.heap.size, 1, none⟩) (by simp; omega)).trans x1; have d2 := (hB5.out.cell (p := ⟨w.heap.size + 1, 1, none⟩) (by simp; omega)).trans y1; have s0 := (hB5.out.cell (p := ⟨w.heap.size + 1 + 1, 0, none⟩) (by simp; omega)).trans R.out.1; have s1 := (hB5.out.cell (p := ⟨w.heap.size + 1 + 1, 1, none⟩) (by simp; omega)).trans R.out.2.1; have g0 := (hB5.out.frozen (p := ⟨w.heap.size + 1 + 1, 0, none⟩) (by simp; omega)).trans R.out.2.2.1; have g1 := (hB5.out.frozen (p := ⟨w.heap.size + 1 + 1, 1, none⟩) (by simp; omega)).trans R.out.2.2.2; have hFr := Lib.hid (show ∀ ad : Addr, G = some ad → w.heap.size + 1 + 1 < ad.block from fun ad h => by have := hfr ad h; have h2 := hszle; simp at this; omega); have hMag := Lib.hid hmag; have hVal := Lib.hid hval; clear hmag hfr hval hb5))
  have t0 : ((w5.setCell ⟨w.heap.size + 1 + 1, 0, none⟩ (.bool ng)).setCell ⟨w.heap.size + 1 + 1, 1, none⟩ (.slice G k cc)).cell? ⟨w.heap.size + 1 + 1, 0, none⟩ = some (.bool ng) := by
    rw [World.cell?_setCell_other _ _ _ _ (by simp), World.cell?_setCell_same _ _ _ s0]
  have s1' : (w5.setCell ⟨w.heap.size + 1 + 1, 0, none⟩ (.bool ng)).cell? ⟨w.heap.size + 1 + 1, 1, none⟩ = some (.slice none 0 0) := by
    rw [World.cell?_setCell_other _ _ _ _ (by simp)]; exact s1
  have t1 := World.cell?_setCell_same _ _ (.slice G k cc) s1'
  clear s1'
  have hb6 : Below w.heap.size w ((w5.setCell ⟨w.heap.size + 1 + 1, 0, none⟩ (.bool ng)).setCell ⟨w.heap.size + 1 + 1, 1, none⟩ (.slice G k cc)) := ((HB0.out.trans (hB5.out.mono (by omega))).setCell (p := ⟨w.heap.size + 1 + 1, 0, none⟩) (by simp; omega) _).setCell (p := ⟨w.heap.size + 1 + 1, 1, none⟩) (by simp; omega) _
  have hm6 : Mag ((w5.setCell ⟨w.heap.size + 1 + 1, 0, none⟩ (.bool ng)).setCell ⟨w.heap.size + 1 + 1, 1, none⟩ (.slice G k cc)) G k cc os := hMag.out.far hFr.out _ _
  have HF := Lib.hid (And.intro hb6 hm6)
  clear hb6 hm6 s0 s1 g0 g1 d0 d1 d2 x0 x1 y1 hB5 hMag
  generalize (w5.setCell ⟨w.heap.size + 1 + 1, 0, none⟩ (.bool ng)).setCell ⟨w.heap.size + 1 + 1, 1, none⟩ (.slice G k cc) = w6 at *
  go_wp2_with fail
  exact bodyPost_ret (v := .agg #[.bool ng, .slice G k cc]) (by simp [results, Tryz.results102, go_sem, t0, t1]) rfl ⟨_, ng, G, k, cc, os, rfl, ⟨rfl, HF.out.2, hk, by rw [Num.sv, Num.sv, Num.sv, hVal.out]; cases ng <;> simp <;> omega⟩, HF.out.1⟩
theorem minus_all (A B : Option Addr) (n c p d : Nat) (ms ns : List Nat) (w : World) (hm : Mag w A n c ms) (hn : Mag w B p d ns) (tm : topOk ms) (tn : topOk ns) (h500 : n ≤ 500) (hv : Num.magV ns ≤ Num.magV ms) (zm : n = 0 → A = none ∧ c = 0) (zn : p = 0 → B = none ∧ d = 0) :
    Calls Tryz.prog 137 #[.slice A n c, .slice B p d] w (MagPost (Num.magV ms - Num.magV ns) n w) := by
  have hle : p ≤ n := by
    rcases Nat.lt_or_ge n p with h | h
    · have := Num.mag_longer hm.lt tn.ne (by rw [hm.len, hn.len]; exact h)
      omega
    · exact h
  rcases Nat.eq_zero_or_pos n with h0 | h0
  · obtain ⟨rfl, rfl⟩ := zm h0
    obtain ⟨rfl, rfl⟩ := zn (by omega)
    subst h0
    obtain rfl : p = 0 := by omega
    have e1 : ms = [] := List.eq_nil_of_length_eq_zero hm.len
    have e2 : ns = [] := List.eq_nil_of_length_eq_zero hn.len
    subst e1 e2
    exact minus_nil w
  · exact minus_any A B n c p d ms ns w hm hn hle h0 h500 hv
/-- the three boxes of add: both numbers and the result -/
structure AddW (w W : World) (s1 : Bool) (A : Option Addr) (n c : Nat) (s2 : Bool) (B : Option Addr) (p d : Nat) : Prop where
  x0 : W.cell? ⟨w.heap.size, 0, none⟩ = some (.bool s1)
  x1 : W.cell? ⟨w.heap.size, 1, none⟩ = some (.slice A n c)
  y0 : W.cell? ⟨w.heap.size + 1, 0, none⟩ = some (.bool s2)
  y1 : W.cell? ⟨w.heap.size + 1, 1, none⟩ = some (.slice B p d)
  r0 : W.cell? ⟨w.heap.size + 1 + 1, 0, none⟩ = some (.bool false)
  r1 : W.cell? ⟨w.heap.size + 1 + 1, 1, none⟩ = some (.slice none 0 0)
  fx0 : W.frozen? ⟨w.heap.size, 0, none⟩ = false
  fx1 : W.frozen? ⟨w.heap.size, 1, none⟩ = false
  fy0 : W.frozen? ⟨w.heap.size + 1, 0, none⟩ = false
  fy1 : W.frozen? ⟨w.heap.size + 1, 1, none⟩ = false
  fr0 : W.frozen? ⟨w.heap.size + 1 + 1, 0, none⟩ = false
  fr1 : W.frozen? ⟨w.heap.size + 1 + 1, 1, none⟩ = false
  sz : w.heap.size + 3 ≤ W.heap.size
  bel : Below w.heap.size w W
theorem AddW.start (w : World) (s1 : Bool) (A : Option Addr) (n c : Nat) (s2 : Bool) (B : Option Addr) (p d : Nat) : AddW w (((w.alloc (.cells #[.bool s1, .slice A n c] 147)).alloc (.cells #[.bool s2, .slice B p d] 147)).alloc (.cells #[.bool false, .slice none 0 0] 147)) s1 A n c s2 B p d :=
  ⟨by go_simp, by go_simp, by go_simp, by go_simp, by go_simp, by go_simp, by go_simp, by go_simp, by go_simp, by go_simp, by go_simp, by go_simp, by simp, ex_alloc3 w _ _ _⟩
theorem AddW.swap {w W : World} {s1 : Bool} {A : Option Addr} {n c : Nat} {s2 : Bool} {B : Option Addr} {p d : Nat} (h : AddW w W s1 A n c s2 B p d) : AddW w ((((W.setCell ⟨w.heap.size, 0, none⟩ (.bool s2)).setCell ⟨w.heap.size, 1, none⟩ (.slice B p d)).setCell ⟨w.heap.size + 1, 0, none⟩ (.bool s1)).setCell ⟨w.heap.size + 1, 1, none⟩ (.slice A n c)) s2 B p d s1 A n c := by
  have e : ∀ (w : World) (a b : Addr) (v : Value), a ≠ b → (w.setCell a v).cell? b = w.cell? b := fun w a b v hne => World.cell?_setCell_other _ _ _ _ hne
  have q0 : (W.setCell ⟨w.heap.size, 0, none⟩ (.bool s2)).cell? ⟨w.heap.size, 1, none⟩ = some (.slice A n c) := by rw [e _ _ _ _ (by simp)]; exact h.x1
  have q1 : ((W.setCell ⟨w.heap.size, 0, none⟩ (.bool s2)).setCell ⟨w.heap.size, 1, none⟩ (.slice B p d)).cell? ⟨w.heap.size + 1, 0, none⟩ = some (.bool s2) := by rw [e _ _ _ _ (by simp), e _ _ _ _ (by simp)]; exact h.y0
  have q2 : (((W.setCell ⟨w.heap.size, 0, none⟩ (.bool s2)).setCell ⟨w.heap.size, 1, none⟩ (.slice B p d)).setCell ⟨w.heap.size + 1, 0, none⟩ (.bool s1)).cell? ⟨w.heap.size + 1, 1, none⟩ = some (.slice B p d) := by rw [e _ _ _ _ (by simp), e _ _ _ _ (by simp), e _ _ _ _ (by simp)]; exact h.y1
  refine ⟨?_, ?_, ?_, ?_, ?_, ?_, ?_, ?_, ?_, ?_, ?_, ?_, ?_, ?_⟩
  · rw [e _ _ _ _ (by simp), e _ _ _ _ (by simp), e _ _ _ _ (by simp)]; exact World.cell?_setCell_same _ _ _ h.x0
  · rw [e _ _ _ _ (by simp), e _ _ _ _ (by simp)]; exact World.cell?_setCell_same _ _ _ q0
  · rw [e _ _ _ _ (by simp)]; exact World.cell?_setCell_same _ _ _ q1
  · exact World.cell?_setCell_same _ _ _ q2
  · rw [e _ _ _ _ (by simp), e _ _ _ _ (by simp), e _ _ _ _ (by simp), e _ _ _ _ (by simp)]; exact h.r0
  · rw [e _ _ _ _ (by simp), e _ _ _ _ (by simp), e _ _ _ _ (by simp), e _ _ _ _ (by simp)]; exact h.r1
  · simp only [World.frozen?_setCell]; exact h.fx0
  · simp only [World.frozen?_setCell]; exact h.fx1
  · simp only [World.frozen?_setCell]; exact h.fy0
  · simp only [World.frozen?_setCell]; exact h.fy1
  · simp only [World.frozen?_setCell]; exact h.fr0
  · simp only [World.frozen?_setCell]; exact h.fr1
  · simpa using h.sz
  · exact (((h.bel.setCell (p := ⟨w.heap.size, 0, none⟩) (by simp) _).setCell (p := ⟨w.heap.size, 1, none⟩) (by simp) _).setCell (p := ⟨w.heap.size + 1, 0, none⟩) (by simp) _).setCell (p := ⟨w.heap.size + 1, 1, none⟩) (by simp) _
theorem AddW.below {w W W' : World} {s1 : Bool} {A : Option Addr} {n c : Nat} {s2 : Bool} {B : Option Addr} {p d : Nat} (h : AddW w W s1 A n c s2 B p d) (hb : Below W.heap.size W W') : AddW w W' s1 A n c s2 B p d := by
  have hs := h.sz
  exact ⟨(hb.cell (by simp; omega)).trans h.x0, (hb.cell (by simp; omega)).trans h.x1, (hb.cell (by simp; omega)).trans h.y0, (hb.cell (by simp; omega)).trans h.y1, (hb.cell (by simp; omega)).trans h.r0, (hb.cell (by simp; omega)).trans h.r1, (hb.frozen (by simp; omega)).trans h.fx0, (hb.frozen (by simp; omega)).trans h.fx1, (hb.frozen (by simp; omega)).trans h.fy0, (hb.frozen (by simp; omega)).trans h.fy1, (hb.frozen (by simp; omega)).trans h.fr0, (hb.frozen (by simp; omega)).trans h.fr1, Nat.le_trans h.sz hb.size, h.bel.trans (hb.mono (by omega))⟩
set_option maxRecDepth 100000 in
set_option maxHeartbeats 4000000 in
theorem add_diff (sa sb : Bool) (A B : Option Addr) (n c p d : Nat) (ms ns : List Nat) (w : World) (hs : sa ≠ sb) (hm : Mag w A n c ms) (hn : Mag w B p d ns) (tm : topOk ms) (tn : topOk ns) (zm : n = 0 → A = none ∧ c = 0) (zn : p = 0 → B = none ∧ d = 0) (h1 : n ≤ 500) (h2 : p ≤ 500) :
    Calls Tryz.prog 102 #[.agg #[.bool sa, .slice A n c], .agg #[.bool sb, .slice B p d]] w (NumPost (Num.sv sa ms + Num.sv sb ns) (max n p + 1) w) := by
  have HM := Lib.hid hm
  have HN := Lib.hid hn
  have HT := Lib.hid (And.intro tm (And.intro tn (And.intro zm zn)))
  have HS := Lib.hid hs
  clear hm hn tm tn zm zn
  have hbe : (sa == sb) = false := by simpa using hs
  clear hs
  have hA := AddW.start w sa A n c sb B p d
  have x1 := hA.x1
  have y1 := hA.y1
  have HA := Lib.hid hA
  have HM0 := Lib.hid (HM.out.below hA.bel)
  have HN0 := Lib.hid (HN.out.below hA.bel)
  clear hA
  go_enter Tryz.func102, Tryz.ntmps102
  go_wp2_with fail
  generalize (((w.alloc (.cells #[.bool sa, .slice A n c] 147)).alloc (.cells #[.bool sb, .slice B p d] 147)).alloc (.cells #[.bool false, .slice none 0 0] 147)) = W at *
  refine (compare_any A B n c p d ms ns _ HM0.out HN0.out HT.out.1 HT.out.2.1 (by omega) (by omega)).mono ?_
  rintro e W1 ⟨z, rfl, hz1, hz2, hz3, hz4, hb1⟩
  have HA1 := Lib.hid (HA.out.below hb1)
  have HM1 := Lib.hid (HM0.out.below hb1)
  have HN1 := Lib.hid (HN0.out.below hb1)
  have hb0 := HA.out.sz
  clear hb1 HA HM0 HN0 x1 y1 hb0
  by_cases hlt : z < 0
  · have hd : decide (z < 0) = true := decide_eq_true hlt
    have hv := Lib.hid (show Num.magV ms ≤ Num.magV ns by have := hz3.1 hlt; omega)
    clear hz3 hz4
    have x0 := HA1.out.x0; have x1 := HA1.out.x1; have y0 := HA1.out.y0; have y1 := HA1.out.y1
    have fx0 := HA1.out.fx0; have fx1 := HA1.out.fx1; have fy0 := HA1.out.fy0; have fy1 := HA1.out.fy1
    have HA := Lib.hid HA1.out.swap
    clear HA1 HM1 HN1
    go_wp2_with fail
    clear x0 x1 y0 y1 fx0 fx1 fy0 fy1
    generalize ((((W1.setCell ⟨w.heap.size, 0, none⟩ (.bool sb)).setCell ⟨w.heap.size, 1, none⟩ (.slice B p d)).setCell ⟨w.heap.size + 1, 0, none⟩ (.bool sa)).setCell ⟨w.heap.size + 1, 1, none⟩ (.slice A n c)) = W0 at *
    have HM0 := Lib.hid (HN.out.below HA.out.bel)
    have HN0 := Lib.hid (HM.out.below HA.out.bel)
    have hM := Lib.hid (fun W (h : Below W0.heap.size W0 W) => HM0.out.below h)
    have hN := Lib.hid (fun W (h : Below W0.heap.size W0 W) => HN0.out.below h)
    have x0 := HA.out.x0
    have x1 := HA.out.x1
    have y1 := HA.out.y1
    have hszle := HA.out.sz
    have HB0 := Lib.hid HA.out.bel
    have R := Lib.hid (And.intro HA.out.r0 (And.intro HA.out.r1 (And.intro HA.out.fr0 HA.out.fr1)))
    go_region_held3 (fun w' => w'.cell? ⟨w.heap.size, 0, none⟩ = some (.bool sb) ∧ w'.cell? ⟨w.heap.size, 1, none⟩ = some (.slice B p d) ∧ w'.cell? ⟨w.heap.size + 1, 1, none⟩ = some (.slice A n c)) (first | exact ⟨d0, d1, d2⟩ | exact ⟨far2 _ _ _ _ _ d0, far2 _ _ _ _ _ d1, far2' _ _ _ _ _ d2⟩ | go_keep)
      (first | (go_at_call 137; refine (minus_all B A p d n c ns ms  _ (hM.out _ (by first | exact (Below.refl _ _).drew | exact Below.refl _ _)) (hN.out _ (by first | exact (Below.refl _ _).drew | exact Below.refl _ _)) HT.out.2.1 HT.out.1 h2 hv.out HT.out.2.2.2 HT.out.2.2.1).mono ?_; rintro e w5 ⟨G, k, cc, os, rfl, hk, hmag, hfr, hval, hb5⟩; have hB5 := Lib.hid (show Below W0.heap.size W0 w5 from (Below.refl _ _).drew.trans hb5); have d0 := (hB5.out.cell (p := ⟨w.heap.size, 0, none⟩) (by simp; omega)).trans x0; have d1 := (hB5.out.cell (p := ⟨w.heap.size, 1, none⟩) (by simp; omega)).trans x1; have d2 := (hB5.out.cell (p := ⟨w.heap.size + 1, 1, none⟩) (by simp; omega)).trans y1; have s0 := (hB5.out.cell (p := ⟨w.heap.size + 1 + 1, 0, none⟩) (by simp; omega)).trans R.out.1; have s1 := (hB5.out.cell (p := ⟨w.heap.size + 1 + 1, 1, none⟩) (by simp; omega)).trans R.out.2.1; have g0 := (hB5.out.frozen (p := ⟨w.heap.size + 1 + 1, 0, none⟩) (by simp; omega)).trans R.out.2.2.1; have g1 := (hB5.out.frozen (p := ⟨w.heap.size + 1 + 1, 1, none⟩) (by simp; omega)).trans R.out.2.2.2; have hFr := Lib.hid (show ∀ ad : Addr, G = some ad → w.heap.size + 1 + 1 < ad.block from fun ad h => by have := hfr ad h; have h2 := hszle; simp at this; omega); have hMag := Lib.hid hmag; have hVal := Lib.hid hval; clear hmag hfr hval hb5))
    have t0 : ((w5.setCell ⟨w.heap.size + 1 + 1, 0, none⟩ (.bool sb)).setCell ⟨w.heap.size + 1 + 1, 1, none⟩ (.slice G k cc)).cell? ⟨w.heap.size + 1 + 1, 0, none⟩ = some (.bool sb) := by
      rw [World.cell?_setCell_other _ _ _ _ (by simp), World.cell?_setCell_same _ _ _ s0]
    have s1' : (w5.setCell ⟨w.heap.size + 1 + 1, 0, none⟩ (.bool sb)).cell? ⟨w.heap.size + 1 + 1, 1, none⟩ = some (.slice none 0 0) := by
      rw [World.cell?_setCell_other _ _ _ _ (by simp)]; exact s1
    have t1 := World.cell?_setCell_same _ _ (.slice G k cc) s1'
    clear s1'
    have hb6 : Below w.heap.size w ((w5.setCell ⟨w.heap.size + 1 + 1, 0, none⟩ (.bool sb)).setCell ⟨w.heap.size + 1 + 1, 1, none⟩ (.slice G k cc)) := ((HB0.out.trans (hB5.out.mono (by omega))).setCell (p := ⟨w.heap.size + 1 + 1, 0, none⟩) (by simp; omega) _).setCell (p := ⟨w.heap.size + 1 + 1, 1, none⟩) (by simp; omega) _
    have hm6 : Mag ((w5.setCell ⟨w.heap.size + 1 + 1, 0, none⟩ (.bool sb)).setCell ⟨w.heap.size + 1 + 1, 1, none⟩ (.slice G k cc)) G k cc os := hMag.out.far hFr.out _ _
    have HF := Lib.hid (And.intro hb6 hm6)
    clear hb6 hm6 s0 s1 g0 g1 d0 d1 d2 x0 x1 y1 hB5 hMag
    generalize (w5.setCell ⟨w.heap.size + 1 + 1, 0, none⟩ (.bool sb)).setCell ⟨w.heap.size + 1 + 1, 1, none⟩ (.slice G k cc) = w6 at *
    go_wp2_with fail
    exact bodyPost_ret (v := .agg #[.bool sb, .slice G k cc]) (by simp [results, Tryz.results102, go_sem, t0, t1]) rfl ⟨_, sb, G, k, cc, os, rfl, ⟨rfl, HF.out.2, Nat.le_trans hk (by omega), by have hq := HS.out; have hqv := hv.out; rw [Num.sv, Num.sv, Num.sv, hVal.out]; cases sa <;> cases sb <;> simp at hq ⊢ <;> omega⟩, HF.out.1⟩
  · have hd : decide (z < 0) = false := decide_eq_false hlt
    have hv := Lib.hid (show Num.magV ns ≤ Num.magV ms by rcases Nat.lt_or_ge (Num.magV ms) (Num.magV ns) with h | h; · exact absurd (hz3.2 h) hlt
                                                          · exact h)
    clear hz3 hz4
    have HA := HA1
    clear HA1 HM1 HN1
    go_wp2_with fail
    obtain ⟨W0, hW0⟩ : ∃ W0, W0 = W1 := ⟨_, rfl⟩
    rw [← hW0] at HA ⊢
    clear hW0
    have HM0 := Lib.hid (HM.out.below HA.out.bel)
    have HN0 := Lib.hid (HN.out.below HA.out.bel)
    have hM := Lib.hid (fun W (h : Below W0.heap.size W0 W) => HM0.out.below h)
    have hN := Lib.hid (fun W (h : Below W0.heap.size W0 W) => HN0.out.below h)
    have x0 := HA.out.x0
    have x1 := HA.out.x1
    have y1 := HA.out.y1
    have hszle := HA.out.sz
    have HB0 := Lib.hid HA.out.bel
    have R := Lib.hid (And.intro HA.out.r0 (And.intro HA.out.r1 (And.intro HA.out.fr0 HA.out.fr1)))
    go_region_held3 (fun w' => w'.cell? ⟨w.heap.size, 0, none⟩ = some (.bool sa) ∧ w'.cell? ⟨w.heap.size, 1, none⟩ = some (.slice A n c) ∧ w'.cell? ⟨w.heap.size + 1, 1, none⟩ = some (.slice B p d)) (first | exact ⟨d0, d1, d2⟩ | exact ⟨far2 _ _ _ _ _ d0, far2 _ _ _ _ _ d1, far2' _ _ _ _ _ d2⟩ | go_keep)
      (first | (go_at_call 137; refine (minus_all A B n c p d ms ns  _ (hM.out _ (by first | exact (Below.refl _ _).drew | exact Below.refl _ _)) (hN.out _ (by first | exact (Below.refl _ _).drew | exact Below.refl _ _)) HT.out.1 HT.out.2.1 h1 hv.out HT.out.2.2.1 HT.out.2.2.2).mono ?_; rintro e w5 ⟨G, k, cc, os, rfl, hk, hmag, hfr, hval, hb5⟩; have hB5 := Lib.hid (show Below W0.heap.size W0 w5 from (Below.refl _ _).drew.trans hb5); have d0 := (hB5.out.cell (p := ⟨w.heap.size, 0, none⟩) (by simp; omega)).trans x0; have d1 := (hB5.out.cell (p := ⟨w.heap.size, 1, none⟩) (by simp; omega)).trans x1; have d2 := (hB5.out.cell (p := ⟨w.heap.size + 1, 1, none⟩) (by simp; omega)).trans y1; have s0 := (hB5.out.cell (p := ⟨w.heap.size + 1 + 1, 0, none⟩) (by simp; omega)).trans R.out.1; have s1 := (hB5.out.cell (p := ⟨w.heap.size + 1 + 1, 1, none⟩) (by simp; omega)).trans R.out.2.1; have g0 := (hB5.out.frozen (p := ⟨w.heap.size + 1 + 1, 0, none⟩) (by simp; omega)).trans R.out.2.2.1; have g1 := (hB5.out.frozen (p := ⟨w.heap.size + 1 + 1, 1, none⟩) (by simp; omega)).trans R.out.2.2.2; have hFr := Lib.hid (show ∀ ad : Addr, G = some ad → w.heap.size + 1 + 1 < ad.block from fun ad h => by have := hfr ad h; have h2 := hszle; simp at this; omega); have hMag := Lib.hid hmag; have hVal := Lib.hid hval; clear hmag hfr hval hb5))
    have t0 : ((w5.setCell ⟨w.heap.size + 1 + 1, 0, none⟩ (.bool sa)).setCell ⟨w.heap.size + 1 + 1, 1, none⟩ (.slice G k cc)).cell? ⟨w.heap.size + 1 + 1, 0, none⟩ = some (.bool sa) := by
      rw [World.cell?_setCell_other _ _ _ _ (by simp), World.cell?_setCell_same _ _ _ s0]
    have s1' : (w5.setCell ⟨w.heap.size + 1 + 1, 0, none⟩ (.bool sa)).cell? ⟨w.heap.size + 1 + 1, 1, none⟩ = some (.slice none 0 0) := by
      rw [World.cell?_setCell_other _ _ _ _ (by simp)]; exact s1
    have t1 := World.cell?_setCell_same _ _ (.slice G k cc) s1'
    clear s1'
    have hb6 : Below w.heap.size w ((w5.setCell ⟨w.heap.size + 1 + 1, 0, none⟩ (.bool sa)).setCell ⟨w.heap.size + 1 + 1, 1, none⟩ (.slice G k cc)) := ((HB0.out.trans (hB5.out.mono (by omega))).setCell (p := ⟨w.heap.size + 1 + 1, 0, none⟩) (by simp; omega) _).setCell (p := ⟨w.heap.size + 1 + 1, 1, none⟩) (by simp; omega) _
    have hm6 : Mag ((w5.setCell ⟨w.heap.size + 1 + 1, 0, none⟩ (.bool sa)).setCell ⟨w.heap.size + 1 + 1, 1, none⟩ (.slice G k cc)) G k cc os := hMag.out.far hFr.out _ _
    have HF := Lib.hid (And.intro hb6 hm6)
    clear hb6 hm6 s0 s1 g0 g1 d0 d1 d2 x0 x1 y1 hB5 hMag
    generalize (w5.setCell ⟨w.heap.size + 1 + 1, 0, none⟩ (.bool sa)).setCell ⟨w.heap.size + 1 + 1, 1, none⟩ (.slice G k cc) = w6 at *
    go_wp2_with fail
    exact bodyPost_ret (v := .agg #[.bool sa, .slice G k cc]) (by simp [results, Tryz.results102, go_sem, t0, t1]) rfl ⟨_, sa, G, k, cc, os, rfl, ⟨rfl, HF.out.2, Nat.le_trans hk (by omega), by have hq := HS.out; have hqv := hv.out; rw [Num.sv, Num.sv, Num.sv, hVal.out]; cases sa <;> cases sb <;> simp at hq ⊢ <;> omega⟩, HF.out.1⟩
theorem add_any (sa sb : Bool) (A B : Option Addr) (n c p d : Nat) (ms ns : List Nat) (w : World) (hm : Mag w A n c ms) (hn : Mag w B p d ns) (tm : topOk ms) (tn : topOk ns) (zm : n = 0 → A = none ∧ c = 0) (zn : p = 0 → B = none ∧ d = 0) (h1 : n ≤ 500) (h2 : p ≤ 500) :
    Calls Tryz.prog 102 #[.agg #[.bool sa, .slice A n c], .agg #[.bool sb, .slice B p d]] w (NumPost (Num.sv sa ms + Num.sv sb ns) (max n p + 1) w) := by
  by_cases hs : sa = sb
  · subst hs
    exact add_same sa A B n c p d ms ns w hm hn h1 h2
  · exact add_diff sa sb A B n c p d ms ns w hs hm hn tm tn zm zn h1 h2
end Go.Proofs.YtjcbohbpkodkoaaGreatDoor

/- Contracts of library functions at this translation, laid by the kit. -/
namespace Go.Proofs
open Go.Shelf
def Tryz.lays169_ren : Go.Shelf.Ren := ⟨fun | 169 => 49 | n => n, fun | 70 => 83 | 9 => 9 | 0 => 0 | 72 => 86 | 37 => 84 | 127 => 121 | 3 => 3 | 5 => 5 | n => n, fun | n => n⟩
theorem Tryz.lays169 : Go.Proofs.Lays.n169 Tryz.prog Tryz.lays169_ren := {
  mixed := by kernel_rfl
  f169 := Tryz.func49.trans (congrArg some (by kernel_rfl))
  t0 := Tryz.underlying0
  a0 := Tryz.isAgg0
  z0 := Tryz.sizeOf0
  v0 := Tryz.zeroValue0
  t3 := Tryz.underlying3
  a3 := Tryz.isAgg3
  z3 := Tryz.sizeOf3
  v3 := Tryz.zeroValue3
  t9 := Tryz.underlying9
  a9 := Tryz.isAgg9
  z9 := Tryz.sizeOf9
  v9 := Tryz.zeroValue9
  t37 := Tryz.underlying84
  a37 := Tryz.isAgg84
  z37 := Tryz.sizeOf84
  v37 := Tryz.zeroValue84
  t70 := Tryz.underlying83
  a70 := Tryz.isAgg83
  z70 := Tryz.sizeOf83
  v70 := Tryz.zeroValue83
  t72 := Tryz.underlying86
  a72 := Tryz.isAgg86
  z72 := Tryz.sizeOf86
  v72 := Tryz.zeroValue86
  t127 := Tryz.underlying121
  a127 := Tryz.isAgg121
  z127 := Tryz.sizeOf121
  v127 := Tryz.zeroValue121 }
theorem Tryz.Builder_Extra_169 : Builder.Extra Tryz.prog Tryz.lays169_ren := {
  sizeBuilder := by kernel_rfl
  liesBuilder := by kernel_rfl
  t5 := Tryz.underlying5
  a5 := Tryz.isAgg5
  z5 := Tryz.sizeOf5
  v5 := Tryz.zeroValue5
  infoByte := by kernel_rfl
  cellsByte := by kernel_rfl
  sizeByte := by kernel_rfl
  neB5 := by decide }
open Go.RowKit in
theorem Tryz.Builder_String (B b : Nat) (l : List UInt8) (w : World) (h : Lib.IsBuilder 86 5 B b (Lib.byteCells l) w) (h0 : l ≠ []) :
    Calls Tryz.prog 49 #[.pointer (some ⟨b, 0, none⟩)] w fun e w' => e = .returned (.string ⟨l.toArray⟩) ∧ Below B w w' := Any.Builder_String Tryz.lays169 Tryz.Builder_Extra_169 B b l w h h0
open Go.RowKit in
theorem Tryz.Builder_String_empty (B b : Nat) (w : World) (h : Lib.IsBuilder 86 5 B b [] w) (hBw : B ≤ w.heap.size) :
    Calls Tryz.prog 49 #[.pointer (some ⟨b, 0, none⟩)] w fun e w' => e = .returned (.string ⟨#[]⟩) ∧ Below B w w' := Any.Builder_String_empty Tryz.lays169 Tryz.Builder_Extra_169 B b w h hBw
open Go.RowKit in
theorem Tryz.Builder_String_any (B b : Nat) (l : List UInt8) (w : World) (h : Lib.IsBuilder 86 5 B b (Lib.byteCells l) w) (hBw : B ≤ w.heap.size) :
    Calls Tryz.prog 49 #[.pointer (some ⟨b, 0, none⟩)] w fun e w' => e = .returned (.string ⟨l.toArray⟩) ∧ Below B w w' := Any.Builder_String_any Tryz.lays169 Tryz.Builder_Extra_169 B b l w h hBw
def Tryz.lays161_ren : Go.Shelf.Ren := ⟨fun | 161 => 158 | 231 => 185 | 227 => 187 | 233 => 188 | 235 => 190 | 228 => 209 | 197 => 210 | 151 => 211 | 260 => 229 | 152 => 230 | 137 => 238 | 119 => 239 | 224 => 240 | 225 => 241 | 217 => 244 | 266 => 246 | n => n, fun | 9 => 9 | 4 => 4 | 3 => 3 | 5 => 5 | 117 => 226 | 116 => 225 | 0 => 0 | 124 => 229 | 105 => 248 | 21 => 21 | 119 => 278 | 46 => 128 | 139 => 281 | 138 => 280 | n => n, fun | 3 => 6 | 4 => 7 | n => n⟩
theorem Tryz.lays161 : Go.Proofs.Lays.n161 Tryz.prog Tryz.lays161_ren := {
  mixed := by kernel_rfl
  f119 := Tryz.func239.trans (congrArg some (by kernel_rfl))
  f137 := Tryz.func238.trans (congrArg some (by kernel_rfl))
  f151 := Tryz.func211.trans (congrArg some (by kernel_rfl))
  f152 := Tryz.func230.trans (congrArg some (by kernel_rfl))
  f161 := Tryz.func158.trans (congrArg some (by kernel_rfl))
  f197 := Tryz.func210.trans (congrArg some (by kernel_rfl))
  f217 := Tryz.func244.trans (congrArg some (by kernel_rfl))
  f224 := Tryz.func240.trans (congrArg some (by kernel_rfl))
  f225 := Tryz.func241.trans (congrArg some (by kernel_rfl))
  f227 := Tryz.func187.trans (congrArg some (by kernel_rfl))
  f228 := Tryz.func209.trans (congrArg some (by kernel_rfl))
  f231 := Tryz.func185.trans (congrArg some (by kernel_rfl))
  f233 := Tryz.func188.trans (congrArg some (by kernel_rfl))
  f235 := Tryz.func190.trans (congrArg some (by kernel_rfl))
  f260 := Tryz.func229.trans (congrArg some (by kernel_rfl))
  f266 := Tryz.func246.trans (congrArg some (by kernel_rfl))
  t0 := Tryz.underlying0
  a0 := Tryz.isAgg0
  z0 := Tryz.sizeOf0
  v0 := Tryz.zeroValue0
  t3 := Tryz.underlying3
  a3 := Tryz.isAgg3
  z3 := Tryz.sizeOf3
  v3 := Tryz.zeroValue3
  t4 := Tryz.underlying4
  a4 := Tryz.isAgg4
  z4 := Tryz.sizeOf4
  v4 := Tryz.zeroValue4
  t5 := Tryz.underlying5
  a5 := Tryz.isAgg5
  z5 := Tryz.sizeOf5
  v5 := Tryz.zeroValue5
  t9 := Tryz.underlying9
  a9 := Tryz.isAgg9
  z9 := Tryz.sizeOf9
  v9 := Tryz.zeroValue9
  t21 := Tryz.underlying21
  a21 := Tryz.isAgg21
  z21 := Tryz.sizeOf21
  v21 := Tryz.zeroValue21
  t46 := Tryz.underlying128
  a46 := Tryz.isAgg128
  z46 := Tryz.sizeOf128
  v46 := Tryz.zeroValue128
  t105 := Tryz.underlying248
  a105 := Tryz.isAgg248
  z105 := Tryz.sizeOf248
  v105 := Tryz.zeroValue248
  t116 := Tryz.underlying225
  a116 := Tryz.isAgg225
  z116 := Tryz.sizeOf225
  t117 := Tryz.underlying226
  a117 := Tryz.isAgg226
  z117 := Tryz.sizeOf226
  v117 := Tryz.zeroValue226
  t119 := Tryz.underlying278
  a119 := Tryz.isAgg278
  z119 := Tryz.sizeOf278
  t124 := Tryz.underlying229
  a124 := Tryz.isAgg229
  z124 := Tryz.sizeOf229
  v124 := Tryz.zeroValue229
  t138 := Tryz.underlying280
  a138 := Tryz.isAgg280
  z138 := Tryz.sizeOf280
  v138 := Tryz.zeroValue280
  t139 := Tryz.underlying281
  a139 := Tryz.isAgg281
  z139 := Tryz.sizeOf281
  v139 := Tryz.zeroValue281
  g3 := by kernel_rfl
  g4 := by kernel_rfl }
def Tryz.lays160_ren : Go.Shelf.Ren := ⟨fun | 160 => 157 | 232 => 186 | 231 => 185 | 227 => 187 | 234 => 189 | 233 => 188 | 236 => 191 | 235 => 190 | 228 => 209 | 271 => 212 | 151 => 211 | 197 => 210 | 120 => 231 | 152 => 230 | 260 => 229 | 137 => 238 | 119 => 239 | 224 => 240 | 225 => 241 | 217 => 244 | 266 => 246 | n => n, fun | 9 => 9 | 4 => 4 | 3 => 3 | 5 => 5 | 117 => 226 | 116 => 225 | 0 => 0 | 124 => 229 | 21 => 21 | 105 => 248 | 46 => 128 | 119 => 278 | 139 => 281 | 138 => 280 | n => n, fun | 3 => 6 | 4 => 7 | n => n⟩
theorem Tryz.lays160 : Go.Proofs.Lays.n160 Tryz.prog Tryz.lays160_ren := {
  mixed := by kernel_rfl
  f119 := Tryz.func239.trans (congrArg some (by kernel_rfl))
  f120 := Tryz.func231.trans (congrArg some (by kernel_rfl))
  f137 := Tryz.func238.trans (congrArg some (by kernel_rfl))
  f151 := Tryz.func211.trans (congrArg some (by kernel_rfl))
  f152 := Tryz.func230.trans (congrArg some (by kernel_rfl))
  f160 := Tryz.func157.trans (congrArg some (by kernel_rfl))
  f197 := Tryz.func210.trans (congrArg some (by kernel_rfl))
  f217 := Tryz.func244.trans (congrArg some (by kernel_rfl))
  f224 := Tryz.func240.trans (congrArg some (by kernel_rfl))
  f225 := Tryz.func241.trans (congrArg some (by kernel_rfl))
  f227 := Tryz.func187.trans (congrArg some (by kernel_rfl))
  f228 := Tryz.func209.trans (congrArg some (by kernel_rfl))
  f231 := Tryz.func185.trans (congrArg some (by kernel_rfl))
  f232 := Tryz.func186.trans (congrArg some (by kernel_rfl))
  f233 := Tryz.func188.trans (congrArg some (by kernel_rfl))
  f234 := Tryz.func189.trans (congrArg some (by kernel_rfl))
  f235 := Tryz.func190.trans (congrArg some (by kernel_rfl))
  f236 := Tryz.func191.trans (congrArg some (by kernel_rfl))
  f260 := Tryz.func229.trans (congrArg some (by kernel_rfl))
  f266 := Tryz.func246.trans (congrArg some (by kernel_rfl))
  f271 := Tryz.func212.trans (congrArg some (by kernel_rfl))
  t0 := Tryz.underlying0
  a0 := Tryz.isAgg0
  z0 := Tryz.sizeOf0
  v0 := Tryz.zeroValue0
  t3 := Tryz.underlying3
  a3 := Tryz.isAgg3
  z3 := Tryz.sizeOf3
  v3 := Tryz.zeroValue3
  t4 := Tryz.underlying4
  a4 := Tryz.isAgg4
  z4 := Tryz.sizeOf4
  v4 := Tryz.zeroValue4
  t5 := Tryz.underlying5
  a5 := Tryz.isAgg5
  z5 := Tryz.sizeOf5
  v5 := Tryz.zeroValue5
  t9 := Tryz.underlying9
  a9 := Tryz.isAgg9
  z9 := Tryz.sizeOf9
  v9 := Tryz.zeroValue9
  t21 := Tryz.underlying21
  a21 := Tryz.isAgg21
  z21 := Tryz.sizeOf21
  v21 := Tryz.zeroValue21
  t46 := Tryz.underlying128
  a46 := Tryz.isAgg128
  z46 := Tryz.sizeOf128
  v46 := Tryz.zeroValue128
  t105 := Tryz.underlying248
  a105 := Tryz.isAgg248
  z105 := Tryz.sizeOf248
  v105 := Tryz.zeroValue248
  t116 := Tryz.underlying225
  a116 := Tryz.isAgg225
  z116 := Tryz.sizeOf225
  t117 := Tryz.underlying226
  a117 := Tryz.isAgg226
  z117 := Tryz.sizeOf226
  v117 := Tryz.zeroValue226
  t119 := Tryz.underlying278
  a119 := Tryz.isAgg278
  z119 := Tryz.sizeOf278
  t124 := Tryz.underlying229
  a124 := Tryz.isAgg229
  z124 := Tryz.sizeOf229
  v124 := Tryz.zeroValue229
  t138 := Tryz.underlying280
  a138 := Tryz.isAgg280
  z138 := Tryz.sizeOf280
  v138 := Tryz.zeroValue280
  t139 := Tryz.underlying281
  a139 := Tryz.isAgg281
  z139 := Tryz.sizeOf281
  v139 := Tryz.zeroValue281
  g3 := by kernel_rfl
  g4 := by kernel_rfl }
def Tryz.lays103_ren : Go.Shelf.Ren := ⟨fun | 103 => 156 | 210 => 184 | 206 => 151 | n => n, fun | 9 => 9 | 4 => 4 | 24 => 161 | 3 => 3 | n => n, fun | n => n⟩
theorem Tryz.lays103 : Go.Proofs.Lays.n103 Tryz.prog Tryz.lays103_ren := {
  mixed := by kernel_rfl
  f103 := Tryz.func156.trans (congrArg some (by kernel_rfl))
  f206 := Tryz.func151.trans (congrArg some (by kernel_rfl))
  f210 := Tryz.func184.trans (congrArg some (by kernel_rfl))
  t3 := Tryz.underlying3
  a3 := Tryz.isAgg3
  z3 := Tryz.sizeOf3
  v3 := Tryz.zeroValue3
  t4 := Tryz.underlying4
  a4 := Tryz.isAgg4
  z4 := Tryz.sizeOf4
  v4 := Tryz.zeroValue4
  t9 := Tryz.underlying9
  a9 := Tryz.isAgg9
  z9 := Tryz.sizeOf9
  v9 := Tryz.zeroValue9
  t24 := Tryz.underlying161
  a24 := Tryz.isAgg161
  z24 := Tryz.sizeOf161
  v24 := Tryz.zeroValue161 }
open Go.RowKit in
theorem Tryz.strings_CutPrefix (s p : ByteArray) (w : World) :
    Calls Tryz.prog 156 #[.string s, .string p] w fun e w' => e = .returned (.tuple #[.string ⟨(Lib.trimPrefix s.data.toList p.data.toList).toArray⟩, .bool (Lib.hasPrefix s.data.toList p.data.toList)]) ∧ w' = w := Any.strings_CutPrefix Tryz.lays103 s p w
def Tryz.lays283_ren : Go.Shelf.Ren := ⟨fun | 283 => 152 | n => n, fun | 3 => 3 | 9 => 9 | 4 => 4 | n => n, fun | n => n⟩
theorem Tryz.lays283 : Go.Proofs.Lays.n283 Tryz.prog Tryz.lays283_ren := {
  mixed := by kernel_rfl
  f283 := Tryz.func152.trans (congrArg some (by kernel_rfl))
  t3 := Tryz.underlying3
  a3 := Tryz.isAgg3
  z3 := Tryz.sizeOf3
  v3 := Tryz.zeroValue3
  t4 := Tryz.underlying4
  a4 := Tryz.isAgg4
  z4 := Tryz.sizeOf4
  v4 := Tryz.zeroValue4
  t9 := Tryz.underlying9
  a9 := Tryz.isAgg9
  z9 := Tryz.sizeOf9
  v9 := Tryz.zeroValue9 }
open Go.Lib in
theorem Tryz.internal_strconv_small (i : Nat) (h : i < 100) (w : World) :
    Calls Tryz.prog 152 #[.int .i64 i] w fun e w' => e = .returned (.string ⟨(Lib.decDigits i).toArray⟩) ∧ w' = w := Any.internal_strconv_small Tryz.lays283 i h w
def Tryz.laysM284_ren : Go.Shelf.Ren := ⟨fun | 284 => 153 | 129 => 180 | 317 => 179 | 318 => 181 | n => n, fun | 53 => 130 | 3 => 3 | 212 => 220 | 0 => 0 | 4 => 4 | 46 => 128 | 5 => 5 | 9 => 9 | n => n, fun | 17 => 1 | n => n⟩
theorem Tryz.laysM284 : Go.Proofs.LaysM.n284 Tryz.prog Tryz.laysM284_ren := {
  mixed := by kernel_rfl
  f129 := Tryz.func180.trans (congrArg some (by kernel_rfl))
  f284 := Tryz.func153.trans (congrArg some (by kernel_rfl))
  f317 := Tryz.func179.trans (congrArg some (by kernel_rfl))
  f318 := Tryz.func181.trans (congrArg some (by kernel_rfl))
  t0 := Tryz.underlying0
  a0 := Tryz.isAgg0
  z0 := Tryz.sizeOf0
  v0 := Tryz.zeroValue0
  t3 := Tryz.underlying3
  a3 := Tryz.isAgg3
  z3 := Tryz.sizeOf3
  v3 := Tryz.zeroValue3
  t4 := Tryz.underlying4
  a4 := Tryz.isAgg4
  z4 := Tryz.sizeOf4
  v4 := Tryz.zeroValue4
  t5 := Tryz.underlying5
  a5 := Tryz.isAgg5
  z5 := Tryz.sizeOf5
  v5 := Tryz.zeroValue5
  t9 := Tryz.underlying9
  a9 := Tryz.isAgg9
  z9 := Tryz.sizeOf9
  v9 := Tryz.zeroValue9
  t46 := Tryz.underlying128
  a46 := Tryz.isAgg128
  z46 := Tryz.sizeOf128
  v46 := Tryz.zeroValue128
  t53 := Tryz.underlying130
  a53 := Tryz.isAgg130
  z53 := Tryz.sizeOf130
  v53 := Tryz.zeroValue130
  t212 := Tryz.underlying220
  a212 := Tryz.isAgg220
  z212 := Tryz.sizeOf220
  v212 := Tryz.zeroValue220
  g17 := by kernel_rfl
  i0 := by kernel_rfl
  i3 := by kernel_rfl
  i4 := by kernel_rfl
  i5 := by kernel_rfl
  i9 := by kernel_rfl
  i46 := by kernel_rfl
  i53 := by kernel_rfl
  i212 := by kernel_rfl
  m17 := by kernel_rfl }
open Go.Lib in
theorem Tryz.internal_strconv_numDigits (u : Nat) (h1 : 1 ≤ u) (h2 : u < 18446744073709551616) (w : World) (htab : Lib.TabIs Tryz.prog w "internal/strconv.uint64pow10" .u64 Lib.pow10Tab) :
    Calls Tryz.prog 153 #[.int .u64 u] w fun e w' => e = .returned (.int .i64 (Lib.nDigits u)) ∧ w' = w := Any.internal_strconv_numDigits Tryz.laysM284 u h1 h2 w htab
def Tryz.lays285_ren : Go.Shelf.Ren := ⟨fun | 285 => 154 | n => n, fun | 37 => 84 | 53 => 130 | 3 => 3 | 4 => 4 | 51 => 122 | 9 => 9 | 5 => 5 | 0 => 0 | n => n, fun | n => n⟩
theorem Tryz.lays285 : Go.Proofs.Lays.n285 Tryz.prog Tryz.lays285_ren := {
  mixed := by kernel_rfl
  f285 := Tryz.func154.trans (congrArg some (by kernel_rfl))
  t0 := Tryz.underlying0
  a0 := Tryz.isAgg0
  z0 := Tryz.sizeOf0
  v0 := Tryz.zeroValue0
  t3 := Tryz.underlying3
  a3 := Tryz.isAgg3
  z3 := Tryz.sizeOf3
  v3 := Tryz.zeroValue3
  t4 := Tryz.underlying4
  a4 := Tryz.isAgg4
  z4 := Tryz.sizeOf4
  v4 := Tryz.zeroValue4
  t5 := Tryz.underlying5
  a5 := Tryz.isAgg5
  z5 := Tryz.sizeOf5
  v5 := Tryz.zeroValue5
  t9 := Tryz.underlying9
  a9 := Tryz.isAgg9
  z9 := Tryz.sizeOf9
  v9 := Tryz.zeroValue9
  t37 := Tryz.underlying84
  a37 := Tryz.isAgg84
  z37 := Tryz.sizeOf84
  v37 := Tryz.zeroValue84
  t51 := Tryz.underlying122
  a51 := Tryz.isAgg122
  z51 := Tryz.sizeOf122
  v51 := Tryz.zeroValue122
  t53 := Tryz.underlying130
  a53 := Tryz.isAgg130
  z53 := Tryz.sizeOf130
  v53 := Tryz.zeroValue130 }
open Go.RowKit Go.Sort Go.Lib in
theorem Tryz.internal_strconv_formatBase10 (blk off cap : Nat) (u : Nat) (d : Array UInt8) (w : World) (hH : Holds (fun (b : UInt8) => Value.int .u8 (b.toNat : Int)) w blk off d) (hu : u < 10 ^ d.size) (hu64 : u < 18446744073709551616) (hsz : d.size < 4611686018427387904) :
    Calls Tryz.prog 154 #[.slice (some ⟨blk, off, none⟩) d.size cap, .int .u64 u] w fun e w' =>
      e = .returned (.tuple #[]) ∧ ∃ (n v' : Nat) (dk : Array UInt8), w' = (putRow (fun (b : UInt8) => Value.int .u8 (b.toNat : Int)) w blk off dk).drewN n ∧ FmtInv d.size u 0 v' dk := Any.internal_strconv_formatBase10 Tryz.lays285 blk off cap u d w hH hu hu64 hsz
def Tryz.laysM171_ren : Go.Shelf.Ren := ⟨fun | 171 => 47 | 243 => 79 | 246 => 116 | 283 => 152 | 284 => 153 | 285 => 154 | 286 => 155 | 129 => 180 | 317 => 179 | 318 => 181 | 319 => 182 | 320 => 183 | 337 => 207 | 338 => 208 | n => n, fun | 3 => 3 | 9 => 9 | 2 => 2 | 4 => 4 | 171 => 195 | 0 => 0 | 53 => 130 | 37 => 84 | 5 => 5 | 173 => 198 | 212 => 220 | 51 => 122 | 20 => 20 | 213 => 221 | 46 => 128 | 232 => 266 | 233 => 267 | n => n, fun | 17 => 1 | 18 => 4 | 19 => 5 | n => n⟩
theorem Tryz.laysM171 : Go.Proofs.LaysM.n171 Tryz.prog Tryz.laysM171_ren := {
  mixed := by kernel_rfl
  f129 := Tryz.func180.trans (congrArg some (by kernel_rfl))
  f171 := Tryz.func47.trans (congrArg some (by kernel_rfl))
  f243 := Tryz.func79.trans (congrArg some (by kernel_rfl))
  f246 := Tryz.func116.trans (congrArg some (by kernel_rfl))
  f283 := Tryz.func152.trans (congrArg some (by kernel_rfl))
  f284 := Tryz.func153.trans (congrArg some (by kernel_rfl))
  f285 := Tryz.func154.trans (congrArg some (by kernel_rfl))
  f286 := Tryz.func155.trans (congrArg some (by kernel_rfl))
  f317 := Tryz.func179.trans (congrArg some (by kernel_rfl))
  f318 := Tryz.func181.trans (congrArg some (by kernel_rfl))
  f319 := Tryz.func182.trans (congrArg some (by kernel_rfl))
  f320 := Tryz.func183.trans (congrArg some (by kernel_rfl))
  f337 := Tryz.func207.trans (congrArg some (by kernel_rfl))
  f338 := Tryz.func208.trans (congrArg some (by kernel_rfl))
  t0 := Tryz.underlying0
  a0 := Tryz.isAgg0
  z0 := Tryz.sizeOf0
  v0 := Tryz.zeroValue0
  t2 := Tryz.underlying2
  a2 := Tryz.isAgg2
  z2 := Tryz.sizeOf2
  v2 := Tryz.zeroValue2
  t3 := Tryz.underlying3
  a3 := Tryz.isAgg3
  z3 := Tryz.sizeOf3
  v3 := Tryz.zeroValue3
  t4 := Tryz.underlying4
  a4 := Tryz.isAgg4
  z4 := Tryz.sizeOf4
  v4 := Tryz.zeroValue4
  t5 := Tryz.underlying5
  a5 := Tryz.isAgg5
  z5 := Tryz.sizeOf5
  v5 := Tryz.zeroValue5
  t9 := Tryz.underlying9
  a9 := Tryz.isAgg9
  z9 := Tryz.sizeOf9
  v9 := Tryz.zeroValue9
  t20 := Tryz.underlying20
  a20 := Tryz.isAgg20
  z20 := Tryz.sizeOf20
  v20 := Tryz.zeroValue20
  t37 := Tryz.underlying84
  a37 := Tryz.isAgg84
  z37 := Tryz.sizeOf84
  v37 := Tryz.zeroValue84
  t46 := Tryz.underlying128
  a46 := Tryz.isAgg128
  z46 := Tryz.sizeOf128
  v46 := Tryz.zeroValue128
  t51 := Tryz.underlying122
  a51 := Tryz.isAgg122
  z51 := Tryz.sizeOf122
  v51 := Tryz.zeroValue122
  t53 := Tryz.underlying130
  a53 := Tryz.isAgg130
  z53 := Tryz.sizeOf130
  v53 := Tryz.zeroValue130
  t171 := Tryz.underlying195
  a171 := Tryz.isAgg195
  z171 := Tryz.sizeOf195
  v171 := Tryz.zeroValue195
  t173 := Tryz.underlying198
  a173 := Tryz.isAgg198
  z173 := Tryz.sizeOf198
  v173 := Tryz.zeroValue198
  t212 := Tryz.underlying220
  a212 := Tryz.isAgg220
  z212 := Tryz.sizeOf220
  v212 := Tryz.zeroValue220
  t213 := Tryz.underlying221
  a213 := Tryz.isAgg221
  z213 := Tryz.sizeOf221
  t232 := Tryz.underlying266
  a232 := Tryz.isAgg266
  z232 := Tryz.sizeOf266
  v232 := Tryz.zeroValue266
  t233 := Tryz.underlying267
  a233 := Tryz.isAgg267
  z233 := Tryz.sizeOf267
  v233 := Tryz.zeroValue267
  g17 := by kernel_rfl
  g18 := by kernel_rfl
  g19 := by kernel_rfl
  i0 := by kernel_rfl
  i2 := by kernel_rfl
  i3 := by kernel_rfl
  i4 := by kernel_rfl
  i5 := by kernel_rfl
  i9 := by kernel_rfl
  i20 := by kernel_rfl
  i37 := by kernel_rfl
  i46 := by kernel_rfl
  i51 := by kernel_rfl
  i53 := by kernel_rfl
  i171 := by kernel_rfl
  i173 := by kernel_rfl
  i212 := by kernel_rfl
  i232 := by kernel_rfl
  i233 := by kernel_rfl
  m17 := by kernel_rfl
  m18 := by kernel_rfl
  m19 := by kernel_rfl }
open Go.RowKit Go.Sort Go.Lib in
theorem Tryz.strconv_Itoa (n : Int) (h0 : -9223372036854775808 ≤ n) (h1 : n ≤ 9223372036854775807) (w : World) (htab : Lib.TabIs Tryz.prog w "internal/strconv.uint64pow10" .u64 Lib.pow10Tab) :
    Calls Tryz.prog 47 #[.int .i64 n] w fun e w' => e = .returned (.string ⟨(Lib.itoa n).toArray⟩) ∧ ∃ k os, w' = grow (w.drewN k) os := Any.strconv_Itoa Tryz.laysM171 n h0 h1 w htab
def Tryz.lays171_ren : Go.Shelf.Ren := ⟨fun | 171 => 47 | 243 => 79 | 246 => 116 | 283 => 152 | 284 => 153 | 285 => 154 | 286 => 155 | 129 => 180 | 317 => 179 | 318 => 181 | 319 => 182 | 320 => 183 | 337 => 207 | 338 => 208 | n => n, fun | 3 => 3 | 9 => 9 | 2 => 2 | 4 => 4 | 171 => 195 | 0 => 0 | 53 => 130 | 37 => 84 | 5 => 5 | 173 => 198 | 212 => 220 | 51 => 122 | 20 => 20 | 213 => 221 | 46 => 128 | 232 => 266 | 233 => 267 | n => n, fun | 17 => 1 | 18 => 4 | 19 => 5 | n => n⟩
theorem Tryz.lays171 : Go.Proofs.Lays.n171 Tryz.prog Tryz.lays171_ren := {
  mixed := by kernel_rfl
  f129 := Tryz.func180.trans (congrArg some (by kernel_rfl))
  f171 := Tryz.func47.trans (congrArg some (by kernel_rfl))
  f243 := Tryz.func79.trans (congrArg some (by kernel_rfl))
  f246 := Tryz.func116.trans (congrArg some (by kernel_rfl))
  f283 := Tryz.func152.trans (congrArg some (by kernel_rfl))
  f284 := Tryz.func153.trans (congrArg some (by kernel_rfl))
  f285 := Tryz.func154.trans (congrArg some (by kernel_rfl))
  f286 := Tryz.func155.trans (congrArg some (by kernel_rfl))
  f317 := Tryz.func179.trans (congrArg some (by kernel_rfl))
  f318 := Tryz.func181.trans (congrArg some (by kernel_rfl))
  f319 := Tryz.func182.trans (congrArg some (by kernel_rfl))
  f320 := Tryz.func183.trans (congrArg some (by kernel_rfl))
  f337 := Tryz.func207.trans (congrArg some (by kernel_rfl))
  f338 := Tryz.func208.trans (congrArg some (by kernel_rfl))
  t0 := Tryz.underlying0
  a0 := Tryz.isAgg0
  z0 := Tryz.sizeOf0
  v0 := Tryz.zeroValue0
  t2 := Tryz.underlying2
  a2 := Tryz.isAgg2
  z2 := Tryz.sizeOf2
  v2 := Tryz.zeroValue2
  t3 := Tryz.underlying3
  a3 := Tryz.isAgg3
  z3 := Tryz.sizeOf3
  v3 := Tryz.zeroValue3
  t4 := Tryz.underlying4
  a4 := Tryz.isAgg4
  z4 := Tryz.sizeOf4
  v4 := Tryz.zeroValue4
  t5 := Tryz.underlying5
  a5 := Tryz.isAgg5
  z5 := Tryz.sizeOf5
  v5 := Tryz.zeroValue5
  t9 := Tryz.underlying9
  a9 := Tryz.isAgg9
  z9 := Tryz.sizeOf9
  v9 := Tryz.zeroValue9
  t20 := Tryz.underlying20
  a20 := Tryz.isAgg20
  z20 := Tryz.sizeOf20
  v20 := Tryz.zeroValue20
  t37 := Tryz.underlying84
  a37 := Tryz.isAgg84
  z37 := Tryz.sizeOf84
  v37 := Tryz.zeroValue84
  t46 := Tryz.underlying128
  a46 := Tryz.isAgg128
  z46 := Tryz.sizeOf128
  v46 := Tryz.zeroValue128
  t51 := Tryz.underlying122
  a51 := Tryz.isAgg122
  z51 := Tryz.sizeOf122
  v51 := Tryz.zeroValue122
  t53 := Tryz.underlying130
  a53 := Tryz.isAgg130
  z53 := Tryz.sizeOf130
  v53 := Tryz.zeroValue130
  t171 := Tryz.underlying195
  a171 := Tryz.isAgg195
  z171 := Tryz.sizeOf195
  v171 := Tryz.zeroValue195
  t173 := Tryz.underlying198
  a173 := Tryz.isAgg198
  z173 := Tryz.sizeOf198
  v173 := Tryz.zeroValue198
  t212 := Tryz.underlying220
  a212 := Tryz.isAgg220
  z212 := Tryz.sizeOf220
  v212 := Tryz.zeroValue220
  t213 := Tryz.underlying221
  a213 := Tryz.isAgg221
  z213 := Tryz.sizeOf221
  t232 := Tryz.underlying266
  a232 := Tryz.isAgg266
  z232 := Tryz.sizeOf266
  v232 := Tryz.zeroValue266
  t233 := Tryz.underlying267
  a233 := Tryz.isAgg267
  z233 := Tryz.sizeOf267
  v233 := Tryz.zeroValue267
  g17 := by kernel_rfl
  g18 := by kernel_rfl
  g19 := by kernel_rfl }
open Go.RowKit Go.Sort Go.Lib in
theorem Tryz.strconv_Itoa_small (i : Nat) (hi : i < 100) (w : World) :
    Calls Tryz.prog 47 #[.int .i64 i] w fun e w' => e = .returned (.string ⟨(Lib.decDigits i).toArray⟩) ∧ w' = w := Any.strconv_Itoa_small Tryz.lays171 i hi w
def Tryz.laysPu14_ren : Go.Shelf.Ren := ⟨fun | 14 => 135 | 16 => 174 | 17 => 175 | 19 => 201 | 20 => 202 | 21 => 203 | 22 => 204 | 23 => 205 | 24 => 206 | 25 => 227 | 27 => 47 | 26 => 228 | 28 => 79 | 29 => 116 | 30 => 152 | 31 => 153 | 32 => 154 | 33 => 155 | 35 => 180 | 34 => 179 | 36 => 181 | 37 => 182 | 38 => 183 | 39 => 207 | 40 => 208 | n => n, fun | 9 => 9 | 3 => 3 | 22 => 130 | 24 => 88 | 25 => 178 | 4 => 4 | 34 => 241 | 5 => 5 | 36 => 128 | 37 => 84 | 0 => 0 | 39 => 243 | 21 => 21 | 44 => 264 | 47 => 121 | 50 => 277 | 48 => 275 | 2 => 2 | 52 => 195 | 55 => 198 | 59 => 220 | 60 => 122 | 20 => 20 | 61 => 221 | 65 => 266 | 66 => 267 | 67 => 98 | n => n, fun | 0 => 2 | 1 => 3 | 2 => 1 | 3 => 4 | 4 => 5 | n => n⟩
theorem Tryz.laysPu14 : Go.Proofs.LaysPu.n14 Tryz.prog Tryz.laysPu14_ren := {
  mixed := by kernel_rfl
  f14 := Tryz.func135.trans (congrArg some (by kernel_rfl))
  f16 := Tryz.func174.trans (congrArg some (by kernel_rfl))
  f17 := Tryz.func175.trans (congrArg some (by kernel_rfl))
  f19 := Tryz.func201.trans (congrArg some (by kernel_rfl))
  f20 := Tryz.func202.trans (congrArg some (by kernel_rfl))
  f21 := Tryz.func203.trans (congrArg some (by kernel_rfl))
  f22 := Tryz.func204.trans (congrArg some (by kernel_rfl))
  f23 := Tryz.func205.trans (congrArg some (by kernel_rfl))
  f24 := Tryz.func206.trans (congrArg some (by kernel_rfl))
  f25 := Tryz.func227.trans (congrArg some (by kernel_rfl))
  f26 := Tryz.func228.trans (congrArg some (by kernel_rfl))
  f27 := Tryz.func47.trans (congrArg some (by kernel_rfl))
  f28 := Tryz.func79.trans (congrArg some (by kernel_rfl))
  f29 := Tryz.func116.trans (congrArg some (by kernel_rfl))
  f30 := Tryz.func152.trans (congrArg some (by kernel_rfl))
  f31 := Tryz.func153.trans (congrArg some (by kernel_rfl))
  f32 := Tryz.func154.trans (congrArg some (by kernel_rfl))
  f33 := Tryz.func155.trans (congrArg some (by kernel_rfl))
  f34 := Tryz.func179.trans (congrArg some (by kernel_rfl))
  f35 := Tryz.func180.trans (congrArg some (by kernel_rfl))
  f36 := Tryz.func181.trans (congrArg some (by kernel_rfl))
  f37 := Tryz.func182.trans (congrArg some (by kernel_rfl))
  f38 := Tryz.func183.trans (congrArg some (by kernel_rfl))
  f39 := Tryz.func207.trans (congrArg some (by kernel_rfl))
  f40 := Tryz.func208.trans (congrArg some (by kernel_rfl))
  t0 := Tryz.underlying0
  a0 := Tryz.isAgg0
  z0 := Tryz.sizeOf0
  v0 := Tryz.zeroValue0
  i0 := by kernel_rfl
  t2 := Tryz.underlying2
  a2 := Tryz.isAgg2
  z2 := Tryz.sizeOf2
  v2 := Tryz.zeroValue2
  i2 := by kernel_rfl
  t3 := Tryz.underlying3
  a3 := Tryz.isAgg3
  z3 := Tryz.sizeOf3
  v3 := Tryz.zeroValue3
  i3 := by kernel_rfl
  t4 := Tryz.underlying4
  a4 := Tryz.isAgg4
  z4 := Tryz.sizeOf4
  v4 := Tryz.zeroValue4
  i4 := by kernel_rfl
  t5 := Tryz.underlying5
  a5 := Tryz.isAgg5
  z5 := Tryz.sizeOf5
  v5 := Tryz.zeroValue5
  i5 := by kernel_rfl
  t9 := Tryz.underlying9
  a9 := Tryz.isAgg9
  z9 := Tryz.sizeOf9
  v9 := Tryz.zeroValue9
  i9 := by kernel_rfl
  t20 := Tryz.underlying20
  a20 := Tryz.isAgg20
  z20 := Tryz.sizeOf20
  v20 := Tryz.zeroValue20
  i20 := by kernel_rfl
  t21 := Tryz.underlying21
  a21 := Tryz.isAgg21
  z21 := Tryz.sizeOf21
  v21 := Tryz.zeroValue21
  i21 := by kernel_rfl
  t22 := Tryz.underlying130
  a22 := Tryz.isAgg130
  z22 := Tryz.sizeOf130
  v22 := Tryz.zeroValue130
  i22 := by kernel_rfl
  t24 := Tryz.underlying88
  a24 := Tryz.isAgg88
  z24 := Tryz.sizeOf88
  v24 := Tryz.zeroValue88
  i24 := by kernel_rfl
  t25 := Tryz.underlying178
  a25 := Tryz.isAgg178
  z25 := Tryz.sizeOf178
  v25 := Tryz.zeroValue178
  i25 := by kernel_rfl
  t34 := Tryz.underlying241
  a34 := Tryz.isAgg241
  z34 := Tryz.sizeOf241
  v34 := Tryz.zeroValue241
  i34 := by kernel_rfl
  c34 := by kernel_rfl
  t36 := Tryz.underlying128
  a36 := Tryz.isAgg128
  z36 := Tryz.sizeOf128
  v36 := Tryz.zeroValue128
  i36 := by kernel_rfl
  t37 := Tryz.underlying84
  a37 := Tryz.isAgg84
  z37 := Tryz.sizeOf84
  v37 := Tryz.zeroValue84
  i37 := by kernel_rfl
  t39 := Tryz.underlying243
  a39 := Tryz.isAgg243
  z39 := Tryz.sizeOf243
  v39 := Tryz.zeroValue243
  i39 := by kernel_rfl
  t44 := Tryz.underlying264
  a44 := Tryz.isAgg264
  z44 := Tryz.sizeOf264
  v44 := Tryz.zeroValue264
  i44 := by kernel_rfl
  t47 := Tryz.underlying121
  a47 := Tryz.isAgg121
  z47 := Tryz.sizeOf121
  v47 := Tryz.zeroValue121
  i47 := by kernel_rfl
  t48 := Tryz.underlying275
  a48 := Tryz.isAgg275
  z48 := Tryz.sizeOf275
  v48 := Tryz.zeroValue275
  i48 := by kernel_rfl
  t50 := Tryz.underlying277
  a50 := Tryz.isAgg277
  z50 := Tryz.sizeOf277
  v50 := Tryz.zeroValue277
  i50 := by kernel_rfl
  t52 := Tryz.underlying195
  a52 := Tryz.isAgg195
  z52 := Tryz.sizeOf195
  v52 := Tryz.zeroValue195
  i52 := by kernel_rfl
  t55 := Tryz.underlying198
  a55 := Tryz.isAgg198
  z55 := Tryz.sizeOf198
  v55 := Tryz.zeroValue198
  i55 := by kernel_rfl
  t59 := Tryz.underlying220
  a59 := Tryz.isAgg220
  z59 := Tryz.sizeOf220
  v59 := Tryz.zeroValue220
  i59 := by kernel_rfl
  t60 := Tryz.underlying122
  a60 := Tryz.isAgg122
  z60 := Tryz.sizeOf122
  v60 := Tryz.zeroValue122
  i60 := by kernel_rfl
  t61 := Tryz.underlying221
  a61 := Tryz.isAgg221
  z61 := Tryz.sizeOf221
  t65 := Tryz.underlying266
  a65 := Tryz.isAgg266
  z65 := Tryz.sizeOf266
  v65 := Tryz.zeroValue266
  i65 := by kernel_rfl
  t66 := Tryz.underlying267
  a66 := Tryz.isAgg267
  z66 := Tryz.sizeOf267
  v66 := Tryz.zeroValue267
  i66 := by kernel_rfl
  t67 := Tryz.underlying98
  a67 := Tryz.isAgg98
  z67 := Tryz.sizeOf98
  v67 := Tryz.zeroValue98
  i67 := by kernel_rfl
  g0 := by kernel_rfl
  m0 := by kernel_rfl
  g1 := by kernel_rfl
  m1 := by kernel_rfl
  g2 := by kernel_rfl
  m2 := by kernel_rfl
  g3 := by kernel_rfl
  m3 := by kernel_rfl
  g4 := by kernel_rfl
  m4 := by kernel_rfl }
open Go.RowKit in
theorem Tryz.strconv_ParseUint_10_at64_ok (s : ByteArray) (hmax : s.size ≤ 9223372036854775806) (u : Nat) (h : Lib.parseUintB 64 s.data.toList = .ok u) (w : World) :
    Calls Tryz.prog 135 #[.string s, .int .i64 10, .int .i64 64] w fun e w' => e = .returned (.tuple #[.int .u64 u, .nilIface]) ∧ (w' = w ∨ w' = Lib.bytesWorld w 5 s) := Any.strconv_ParseUint_10_at64_ok Tryz.laysPu14 s hmax u h w
def Tryz.lays145_ren : Go.Shelf.Ren := ⟨fun | 145 => 217 | 220 => 232 | 219 => 242 | 217 => 244 | 225 => 241 | 224 => 240 | 267 => 245 | 266 => 246 | 314 => 247 | n => n, fun | 9 => 9 | 4 => 4 | 59 => 254 | 3 => 3 | 5 => 5 | 46 => 128 | 146 => 191 | 51 => 122 | n => n, fun | 1 => 0 | n => n⟩
theorem Tryz.lays145 : Go.Proofs.Lays.n145 Tryz.prog Tryz.lays145_ren := {
  mixed := by kernel_rfl
  f145 := Tryz.func217.trans (congrArg some (by kernel_rfl))
  f217 := Tryz.func244.trans (congrArg some (by kernel_rfl))
  f219 := Tryz.func242.trans (congrArg some (by kernel_rfl))
  f220 := Tryz.func232.trans (congrArg some (by kernel_rfl))
  f224 := Tryz.func240.trans (congrArg some (by kernel_rfl))
  f225 := Tryz.func241.trans (congrArg some (by kernel_rfl))
  f266 := Tryz.func246.trans (congrArg some (by kernel_rfl))
  f267 := Tryz.func245.trans (congrArg some (by kernel_rfl))
  f314 := Tryz.func247.trans (congrArg some (by kernel_rfl))
  t3 := Tryz.underlying3
  a3 := Tryz.isAgg3
  z3 := Tryz.sizeOf3
  v3 := Tryz.zeroValue3
  t4 := Tryz.underlying4
  a4 := Tryz.isAgg4
  z4 := Tryz.sizeOf4
  v4 := Tryz.zeroValue4
  t5 := Tryz.underlying5
  a5 := Tryz.isAgg5
  z5 := Tryz.sizeOf5
  v5 := Tryz.zeroValue5
  t9 := Tryz.underlying9
  a9 := Tryz.isAgg9
  z9 := Tryz.sizeOf9
  v9 := Tryz.zeroValue9
  t46 := Tryz.underlying128
  a46 := Tryz.isAgg128
  z46 := Tryz.sizeOf128
  v46 := Tryz.zeroValue128
  t51 := Tryz.underlying122
  a51 := Tryz.isAgg122
  z51 := Tryz.sizeOf122
  v51 := Tryz.zeroValue122
  t59 := Tryz.underlying254
  a59 := Tryz.isAgg254
  z59 := Tryz.sizeOf254
  v59 := Tryz.zeroValue254
  t146 := Tryz.underlying191
  a146 := Tryz.isAgg191
  z146 := Tryz.sizeOf191
  v146 := Tryz.zeroValue191
  g1 := by kernel_rfl }
open Go.RowKit Go.Lib in
theorem Tryz.strings_Cut (s sep : ByteArray) (m : Int) (w : World) (hs : s.size < 4294967281) (hm : w.cell? ⟨0, 0, none⟩ = some (.int .i64 m)) :
    Calls Tryz.prog 217 #[.string s, .string sep] w fun e w' => e = .returned (.tuple #[.string ⟨(Lib.cut s.data.toList sep.data.toList).1.toArray⟩, .string ⟨(Lib.cut s.data.toList sep.data.toList).2.1.toArray⟩, .bool (Lib.cut s.data.toList sep.data.toList).2.2]) ∧ ∃ n, w' = w.drewN n := Any.strings_Cut Tryz.lays145 s sep m w hs hm
def Tryz.lays105_ren : Go.Shelf.Ren := ⟨fun | 105 => 78 | 212 => 113 | 99 => 114 | 165 => 75 | 166 => 43 | 170 => 115 | 169 => 49 | 263 => 149 | 264 => 150 | 206 => 151 | 240 => 74 | 241 => 109 | 276 => 108 | 277 => 147 | n => n, fun | 9 => 9 | 3 => 3 | 4 => 4 | 20 => 20 | 0 => 0 | 46 => 128 | 109 => 156 | 5 => 5 | 72 => 86 | 76 => 89 | 51 => 122 | 146 => 191 | 53 => 130 | 148 => 193 | 70 => 83 | 37 => 84 | 75 => 88 | 127 => 121 | 164 => 153 | 80 => 98 | n => n, fun | n => n⟩
theorem Tryz.lays105 : Go.Proofs.Lays.n105 Tryz.prog Tryz.lays105_ren := {
  mixed := by kernel_rfl
  f99 := Tryz.func114.trans (congrArg some (by kernel_rfl))
  f105 := Tryz.func78.trans (congrArg some (by kernel_rfl))
  f165 := Tryz.func75.trans (congrArg some (by kernel_rfl))
  f166 := Tryz.func43.trans (congrArg some (by kernel_rfl))
  f169 := Tryz.func49.trans (congrArg some (by kernel_rfl))
  f170 := Tryz.func115.trans (congrArg some (by kernel_rfl))
  f206 := Tryz.func151.trans (congrArg some (by kernel_rfl))
  f212 := Tryz.func113.trans (congrArg some (by kernel_rfl))
  f240 := Tryz.func74.trans (congrArg some (by kernel_rfl))
  f241 := Tryz.func109.trans (congrArg some (by kernel_rfl))
  f263 := Tryz.func149.trans (congrArg some (by kernel_rfl))
  f264 := Tryz.func150.trans (congrArg some (by kernel_rfl))
  f276 := Tryz.func108.trans (congrArg some (by kernel_rfl))
  f277 := Tryz.func147.trans (congrArg some (by kernel_rfl))
  t0 := Tryz.underlying0
  a0 := Tryz.isAgg0
  z0 := Tryz.sizeOf0
  v0 := Tryz.zeroValue0
  t3 := Tryz.underlying3
  a3 := Tryz.isAgg3
  z3 := Tryz.sizeOf3
  v3 := Tryz.zeroValue3
  t4 := Tryz.underlying4
  a4 := Tryz.isAgg4
  z4 := Tryz.sizeOf4
  v4 := Tryz.zeroValue4
  t5 := Tryz.underlying5
  a5 := Tryz.isAgg5
  z5 := Tryz.sizeOf5
  v5 := Tryz.zeroValue5
  t9 := Tryz.underlying9
  a9 := Tryz.isAgg9
  z9 := Tryz.sizeOf9
  v9 := Tryz.zeroValue9
  t20 := Tryz.underlying20
  a20 := Tryz.isAgg20
  z20 := Tryz.sizeOf20
  v20 := Tryz.zeroValue20
  t37 := Tryz.underlying84
  a37 := Tryz.isAgg84
  z37 := Tryz.sizeOf84
  v37 := Tryz.zeroValue84
  t46 := Tryz.underlying128
  a46 := Tryz.isAgg128
  z46 := Tryz.sizeOf128
  v46 := Tryz.zeroValue128
  t51 := Tryz.underlying122
  a51 := Tryz.isAgg122
  z51 := Tryz.sizeOf122
  v51 := Tryz.zeroValue122
  t53 := Tryz.underlying130
  a53 := Tryz.isAgg130
  z53 := Tryz.sizeOf130
  v53 := Tryz.zeroValue130
  t70 := Tryz.underlying83
  a70 := Tryz.isAgg83
  z70 := Tryz.sizeOf83
  v70 := Tryz.zeroValue83
  t72 := Tryz.underlying86
  a72 := Tryz.isAgg86
  z72 := Tryz.sizeOf86
  v72 := Tryz.zeroValue86
  t75 := Tryz.underlying88
  a75 := Tryz.isAgg88
  z75 := Tryz.sizeOf88
  v75 := Tryz.zeroValue88
  t76 := Tryz.underlying89
  a76 := Tryz.isAgg89
  z76 := Tryz.sizeOf89
  v76 := Tryz.zeroValue89
  t109 := Tryz.underlying156
  a109 := Tryz.isAgg156
  z109 := Tryz.sizeOf156
  v109 := Tryz.zeroValue156
  t127 := Tryz.underlying121
  a127 := Tryz.isAgg121
  z127 := Tryz.sizeOf121
  v127 := Tryz.zeroValue121
  t146 := Tryz.underlying191
  a146 := Tryz.isAgg191
  z146 := Tryz.sizeOf191
  v146 := Tryz.zeroValue191
  t148 := Tryz.underlying193
  a148 := Tryz.isAgg193
  z148 := Tryz.sizeOf193
  v148 := Tryz.zeroValue193
  t164 := Tryz.underlying153
  a164 := Tryz.isAgg153
  z164 := Tryz.sizeOf153
  v164 := Tryz.zeroValue153 }
theorem Tryz.Builder_Extra_105 : Builder.Extra Tryz.prog Tryz.lays105_ren := {
  sizeBuilder := by kernel_rfl
  liesBuilder := by kernel_rfl
  t5 := Tryz.underlying5
  a5 := Tryz.isAgg5
  z5 := Tryz.sizeOf5
  v5 := Tryz.zeroValue5
  infoByte := by kernel_rfl
  cellsByte := by kernel_rfl
  sizeByte := by kernel_rfl
  neB5 := by decide }
open Go.RowKit Go.Lib in
theorem Tryz.strings_Repeat_zero (s : ByteArray) (w : World) :
    Calls Tryz.prog 78 #[.string s, .int .i64 0] w fun e w' => e = .returned (.string ⟨#[]⟩) ∧ w' = w := Any.strings_Repeat_zero Tryz.lays105 s w
open Go.RowKit Go.Lib in
theorem Tryz.strings_Repeat_one (s : ByteArray) (w : World) :
    Calls Tryz.prog 78 #[.string s, .int .i64 1] w fun e w' => e = .returned (.string s) ∧ w' = w := Any.strings_Repeat_one Tryz.lays105 s w
open Go.RowKit Go.Lib in
theorem Tryz.strings_Repeat (s : ByteArray) (c : Nat) (w : World) (hc : c ≤ 9223372036854775807) (hlen : s.size * c ≤ 140737488355328) :
    Calls Tryz.prog 78 #[.string s, .int .i64 c] w fun e w' => e = .returned (.string ⟨(Lib.repeatL s.data.toList c).toArray⟩) ∧ Below w.heap.size w w' := Any.strings_Repeat Tryz.lays105 Tryz.Builder_Extra_105 s c w hc hlen
def Tryz.lays167_ren : Go.Shelf.Ren := ⟨fun | 167 => 139 | 105 => 78 | 212 => 113 | 99 => 114 | 165 => 75 | 166 => 43 | 170 => 115 | 169 => 49 | 263 => 149 | 264 => 150 | 206 => 151 | 240 => 74 | 241 => 109 | 276 => 108 | 277 => 147 | n => n, fun | 9 => 9 | 3 => 3 | 4 => 4 | 20 => 20 | 0 => 0 | 46 => 128 | 109 => 156 | 5 => 5 | 72 => 86 | 76 => 89 | 51 => 122 | 146 => 191 | 53 => 130 | 148 => 193 | 70 => 83 | 37 => 84 | 75 => 88 | 127 => 121 | 164 => 153 | 80 => 98 | n => n, fun | n => n⟩
theorem Tryz.lays167 : Go.Proofs.Lays.n167 Tryz.prog Tryz.lays167_ren := {
  mixed := by kernel_rfl
  f167 := Tryz.func139.trans (congrArg some (by kernel_rfl))
  f240 := Tryz.func74.trans (congrArg some (by kernel_rfl))
  f276 := Tryz.func108.trans (congrArg some (by kernel_rfl))
  t0 := Tryz.underlying0
  a0 := Tryz.isAgg0
  z0 := Tryz.sizeOf0
  v0 := Tryz.zeroValue0
  t4 := Tryz.underlying4
  a4 := Tryz.isAgg4
  z4 := Tryz.sizeOf4
  v4 := Tryz.zeroValue4
  t5 := Tryz.underlying5
  a5 := Tryz.isAgg5
  z5 := Tryz.sizeOf5
  v5 := Tryz.zeroValue5
  t9 := Tryz.underlying9
  a9 := Tryz.isAgg9
  z9 := Tryz.sizeOf9
  v9 := Tryz.zeroValue9
  t20 := Tryz.underlying20
  a20 := Tryz.isAgg20
  z20 := Tryz.sizeOf20
  v20 := Tryz.zeroValue20
  t37 := Tryz.underlying84
  a37 := Tryz.isAgg84
  z37 := Tryz.sizeOf84
  v37 := Tryz.zeroValue84
  t70 := Tryz.underlying83
  a70 := Tryz.isAgg83
  z70 := Tryz.sizeOf83
  v70 := Tryz.zeroValue83
  t72 := Tryz.underlying86
  a72 := Tryz.isAgg86
  z72 := Tryz.sizeOf86
  v72 := Tryz.zeroValue86
  t75 := Tryz.underlying88
  a75 := Tryz.isAgg88
  z75 := Tryz.sizeOf88
  v75 := Tryz.zeroValue88
  t164 := Tryz.underlying153
  a164 := Tryz.isAgg153
  z164 := Tryz.sizeOf153
  v164 := Tryz.zeroValue153 }
theorem Tryz.Builder_Extra_167 : Builder.Extra Tryz.prog Tryz.lays167_ren := {
  sizeBuilder := by kernel_rfl
  liesBuilder := by kernel_rfl
  t5 := Tryz.underlying5
  a5 := Tryz.isAgg5
  z5 := Tryz.sizeOf5
  v5 := Tryz.zeroValue5
  infoByte := by kernel_rfl
  cellsByte := by kernel_rfl
  sizeByte := by kernel_rfl
  neB5 := by decide }
open Go.RowKit in
theorem Tryz.Builder_WriteByte (B b : Nat) (bs : List Value) (c : Int) (w : World) (h : Lib.IsBuilder 86 5 B b bs w) (hlen : bs.length + 1 ≤ 140737488355328) (hBw : B ≤ w.heap.size) :
    Calls Tryz.prog 139 #[.pointer (some ⟨b, 0, none⟩), .int .u8 c] w fun e w' => e = .returned .nilIface ∧ (Lib.BuilderAt 86 5 B b (.pointer (some ⟨b, 0, none⟩)) (bs ++ [.int .u8 c]) w' ∧ Below B w w') := Any.Builder_WriteByte Tryz.lays167 Tryz.Builder_Extra_167 B b bs c w h hlen hBw
open Go.RowKit in
theorem Tryz.Builder_WriteString (B b : Nat) (bs : List Value) (s : ByteArray) (w : World) (h : Lib.IsBuilder 86 5 B b bs w) (hlen : bs.length + s.size ≤ 140737488355328) (hBw : B ≤ w.heap.size) :
    Calls Tryz.prog 43 #[.pointer (some ⟨b, 0, none⟩), .string s] w fun e w' => e = .returned (.tuple #[.int .i64 s.size, .nilIface]) ∧ (Lib.BuilderAt 86 5 B b (.pointer (some ⟨b, 0, none⟩)) (bs ++ Lib.strCells s) w' ∧ Below B w w') := Any.Builder_WriteString ({ Tryz.lays105 with } : Go.Proofs.Lays.n166 Tryz.prog Tryz.lays105_ren) Tryz.Builder_Extra_105 B b bs s w h hlen hBw
open Go.RowKit in
theorem Tryz.strings_Trim (s cutset : ByteArray) (w : World) (hs : s.size ≤ 9223372036854775807) (hcs : cutset.size < 4294967281) (hascii : ∀ (j : Nat) b, cutset.data.toList[j]? = some b → b.toNat < 128) :
    Calls Tryz.prog 157 #[.string s, .string cutset] w fun e w' => e = .returned (.string ⟨(Lib.trimS s.data.toList cutset.data.toList).toArray⟩) ∧ Below w.heap.size w w' := Any.strings_Trim_laid Tryz.lays160 (by kernel_rfl) s cutset w hs hcs hascii
open Go.RowKit in
theorem Tryz.strings_TrimLeft (s cutset : ByteArray) (w : World) (hcs : cutset.size < 4294967281) (hascii : ∀ (j : Nat) b, cutset.data.toList[j]? = some b → b.toNat < 128) :
    Calls Tryz.prog 158 #[.string s, .string cutset] w fun e w' => e = .returned (.string ⟨(Lib.trimLeftS s.data.toList cutset.data.toList).toArray⟩) ∧ Below w.heap.size w w' := Any.strings_TrimLeft_laid Tryz.lays161 (by kernel_rfl) s cutset w hcs hascii
end Go.Proofs

/- Contracts of digits and Canonical, Check. -/
namespace Go.Proofs.YtjcbohbpkodkoaaGreatDoor
open Go.RowKit Num

theorem prefix_minus (l : List UInt8) : Lib.hasPrefix l [45] = sgn l ∧ Lib.trimPrefix l [45] = body l := by
  cases l with
  | nil => exact ⟨rfl, rfl⟩
  | cons c r =>
    by_cases h : c = 45
    · subst h; exact ⟨by simp [Lib.hasPrefix, sgn], by simp [Lib.trimPrefix, Lib.hasPrefix, body]⟩
    · have e1 : sgn (c :: r) = false := by
        unfold sgn; split
        · rename_i e; rw [List.cons.injEq] at e; exact absurd e.1 h
        · rfl
      have e2 : body (c :: r) = c :: r := by
        unfold body; split
        · rename_i e; rw [List.cons.injEq] at e; exact absurd e.1 h
        · rfl
      have e3 : (45 == c) = false := by simpa using Ne.symm h
      rw [e1, e2]
      exact ⟨by simp [Lib.hasPrefix, List.isPrefixOf, e3], by simp [Lib.trimPrefix, Lib.hasPrefix, List.isPrefixOf, e3]⟩
def digL : List UInt8 := [48, 49, 50, 51, 52, 53, 54, 55, 56, 57]
theorem digL_has (c : UInt8) : digL.contains c = isDig c := by
  rw [Bool.eq_iff_iff]
  simp only [digL, isDig, List.contains_eq_mem, List.mem_cons, List.not_mem_nil, or_false, decide_eq_true_eq, Bool.and_eq_true, ← UInt8.toNat_inj, UInt8.reduceToNat]
  omega
theorem dropWhile_nil {p : UInt8 → Bool} (l : List UInt8) : l.dropWhile p = [] ↔ l.all p = true := by
  induction l with
  | nil => simp
  | cons c r ih =>
    rw [List.dropWhile_cons, List.all_cons]
    cases hp : p c
    · simp
    · simp [ih]
theorem trim_nil (l : List UInt8) : Lib.trimS l digL = [] ↔ l.all isDig = true := by
  have e : (fun c => digL.contains c) = isDig := funext digL_has
  unfold Lib.trimS Lib.trimLeftS Lib.trimRightS
  rw [e, dropWhile_nil, List.all_reverse]
  constructor
  · intro h
    rw [List.all_eq_true] at h ⊢
    intro x hx
    by_cases hp : (l.reverse.dropWhile isDig) = []
    · rw [dropWhile_nil, List.all_reverse, List.all_eq_true] at hp
      exact hp x hx
    · exfalso
      have h1 := List.head_dropWhile_not isDig (l := l.reverse) hp
      have h2 := h _ (List.head_mem hp)
      rw [h1] at h2; cases h2
  · intro h
    rw [List.all_eq_true] at h ⊢
    exact fun x hx => h x (by have := (List.dropWhile_sublist _).subset hx; simpa using this)
theorem lead_eq (l : List UInt8) : Lib.trimLeftS l [48] = lead l := by
  unfold Lib.trimLeftS lead
  congr 1
  funext c
  rw [Bool.eq_iff_iff]
  simp
def DgPost (s : ByteArray) (w : World) (e : Ending) (w' : World) : Prop := e = .returned (.tuple #[.string ⟨(dgs s.data.toList).toArray⟩, .bool (neg s.data.toList)]) ∧ Below w.heap.size w w'
set_option maxRecDepth 100000 in
theorem digits_any (s : ByteArray) (w : World) (hs : s.size ≤ 1000000) : Calls Tryz.prog 117 #[.string s] w (DgPost s w) := by
  have hp := prefix_minus s.data.toList
  have hcut := fun W => Tryz.strings_CutPrefix s ⟨#[45]⟩ W
  have e0 : (⟨#[45]⟩ : ByteArray).data.toList = [45] := rfl
  rw [e0, hp.1, hp.2] at hcut
  have hbl : (body s.data.toList).length ≤ 1000000 := by
    have : (body s.data.toList).length ≤ s.data.toList.length := by
      unfold body; split
      · rename_i h; rw [h]; simp
      · exact Nat.le_refl _
    have h2 : s.data.toList.length = s.size := rfl
    omega
  have hD := Lib.hid (show dgs s.data.toList = if (body s.data.toList).all isDig then lead (body s.data.toList) else [] from rfl)
  have hN := Lib.hid (show neg s.data.toList = (sgn s.data.toList && !(dgs s.data.toList).isEmpty) from rfl)
  unfold DgPost
  generalize hb : body s.data.toList = b at *
  generalize hsg : sgn s.data.toList = sg at *
  generalize hdg : dgs s.data.toList = dg at *
  generalize hng : neg s.data.toList = ng at *
  have htrim := fun W => Tryz.strings_Trim ⟨b.toArray⟩ ⟨#[48, 49, 50, 51, 52, 53, 54, 55, 56, 57]⟩ W (by simp [ByteArray.size]; omega) (by decide) (ascii_of_all (by decide))
  have hleft := fun W => Tryz.strings_TrimLeft ⟨b.toArray⟩ ⟨#[48]⟩ W (by decide) (ascii_of_all (by decide))
  have e1 : Lib.trimS (⟨b.toArray⟩ : ByteArray).data.toList (⟨#[48, 49, 50, 51, 52, 53, 54, 55, 56, 57]⟩ : ByteArray).data.toList = Lib.trimS b digL := by simp [digL]
  have e2 : Lib.trimLeftS (⟨b.toArray⟩ : ByteArray).data.toList (⟨#[48]⟩ : ByteArray).data.toList = lead b := by rw [← lead_eq]
  rw [e1] at htrim
  rw [e2] at hleft
  have HC := Lib.hid hcut
  have HT := Lib.hid htrim
  have HL := Lib.hid hleft
  clear hp hcut e0 htrim hleft e1 e2 hb hsg hdg hng
  cases hall : b.all isDig
  · have ht : Lib.trimS b digL ≠ [] := fun h => by rw [trim_nil, hall] at h; cases h
    have hd : dg = [] := by rw [hD.out, hall]; rfl
    have hn : ng = false := by rw [hN.out, hd]; simp
    generalize Lib.trimS b digL = t at *
    have t1 : (t = []) = False := by simpa using ht
    have t2 : t.isEmpty = false := by simpa using ht
    have HF := Lib.hid (And.intro hd hn)
    have HA := Lib.hid hall
    clear hd hn ht hD hN hall
    go_enter Tryz.func117, Tryz.ntmps117
    go_wp2_with fail
    refine (HC.out _).mono ?_
    rintro e w1 ⟨rfl, rfl⟩
    go_wp2_with fail
    refine (HT.out _).mono ?_
    rintro e w1 ⟨rfl, hb1⟩
    go_wp2_with fail
    go_ret2
    exact ⟨by rw [HF.out.1, HF.out.2]; rfl, hb1⟩
  · have ht : Lib.trimS b digL = [] := (trim_nil b).2 hall
    rw [ht] at HT
    have hd : dg = lead b := by rw [hD.out, hall]; rfl
    have hn := hN.out
    rw [hd] at hn
    have HF := Lib.hid (And.intro hd hn)
    have HA := Lib.hid hall
    clear hd hn ht hD hN hall
    generalize lead b = t at *
    cases sg
    · go_enter Tryz.func117, Tryz.ntmps117
      go_wp2_with fail
      refine (HC.out _).mono ?_
      rintro e w1 ⟨rfl, rfl⟩
      go_wp2_with fail
      refine (HT.out _).mono ?_
      rintro e w1 ⟨rfl, hb1⟩
      go_wp2_with fail
      refine (HL.out _).mono ?_
      rintro e w2 ⟨rfl, hb2⟩
      go_wp2_with fail
      go_ret2
      exact ⟨by rw [HF.out.1, HF.out.2]; rfl, hb1.trans (hb2.mono hb1.size)⟩
    · cases t with
      | nil =>
        go_enter Tryz.func117, Tryz.ntmps117
        go_wp2_with fail
        refine (HC.out _).mono ?_
        rintro e w1 ⟨rfl, rfl⟩
        go_wp2_with fail
        refine (HT.out _).mono ?_
        rintro e w1 ⟨rfl, hb1⟩
        go_wp2_with fail
        refine (HL.out _).mono ?_
        rintro e w2 ⟨rfl, hb2⟩
        go_wp2_with fail
        go_ret2
        exact ⟨by rw [HF.out.1, HF.out.2]; rfl, hb1.trans (hb2.mono hb1.size)⟩
      | cons x r =>
        go_enter Tryz.func117, Tryz.ntmps117
        go_wp2_with fail
        refine (HC.out _).mono ?_
        rintro e w1 ⟨rfl, rfl⟩
        go_wp2_with fail
        refine (HT.out _).mono ?_
        rintro e w1 ⟨rfl, hb1⟩
        go_wp2_with fail
        refine (HL.out _).mono ?_
        rintro e w2 ⟨rfl, hb2⟩
        go_wp2_with fail
        go_ret2
        exact ⟨by rw [HF.out.1, HF.out.2]; rfl, hb1.trans (hb2.mono hb1.size)⟩
end Go.Proofs.YtjcbohbpkodkoaaGreatDoor

/- Contract of read. -/
namespace Go.Proofs.YtjcbohbpkodkoaaGreatDoor
open Go.RowKit Num

theorem parse_ok (l : List UInt8) (h : l.all isDig = true) : ∀ acc, (acc + 1) * 10 ^ l.length ≤ 1000000000000000000 → Lib.parseUintM (2 ^ 64 - 1) acc l = .ok (l.foldl (fun n c => 10 * n + dv c) acc) := by
  induction l with
  | nil => intro acc _; rfl
  | cons c r ih =>
    intro acc hb
    rw [List.all_cons, Bool.and_eq_true] at h
    have h1 := h.1
    have hd := dv_le h1
    simp only [isDig, Bool.and_eq_true, decide_eq_true_eq] at h1
    have hp : 1 ≤ 10 ^ r.length := Nat.pow_pos (by omega)
    rw [List.length_cons, Nat.pow_succ] at hb
    have hb2 : (10 * acc + 10) * 10 ^ r.length ≤ 1000000000000000000 := by
      have e : (10 * acc + 10) * 10 ^ r.length = (acc + 1) * (10 ^ r.length * 10) := by rw [show 10 * acc + 10 = 10 * (acc + 1) by omega, Nat.mul_comm (10 ^ r.length) 10, ← Nat.mul_assoc, Nat.mul_comm 10]
      omega
    have hb3 : (10 * acc + 10) * 1 ≤ (10 * acc + 10) * 10 ^ r.length := Nat.mul_le_mul_left _ hp
    have e2 : acc * 10 + (c.toNat - 48) = 10 * acc + dv c := by unfold dv; omega
    rw [Lib.parseUintM, if_pos h1, if_neg (by omega), if_neg (by rw [e2]; omega), e2, ih h.2 _ ?_]
    · rfl
    · have : (10 * acc + dv c + 1) * 10 ^ r.length ≤ (10 * acc + 10) * 10 ^ r.length := Nat.mul_le_mul_right _ (by omega)
      omega
theorem parse_digits (l : List UInt8) (h : l.all isDig = true) (hne : l ≠ []) (h9 : l.length ≤ 9) : Lib.parseUintB 64 l = .ok (digV l) := by
  rw [Lib.parseUintB, if_neg hne, parse_ok l h 0 ?_]
  · rfl
  · have : 10 ^ l.length ≤ 10 ^ 9 := Nat.pow_le_pow_right (by omega) h9
    omega
theorem below_bytes (W : World) (s : ByteArray) : Below W.heap.size W (Lib.bytesWorld W 5 s) := Joins.below_bytesWorld W.heap.size W 5 s (Nat.le_refl _)
theorem parse_part (D : List UInt8) (hall : D.all isDig = true) (lo hi : Nat) (h : lo < hi) (hl : hi ≤ D.length) (h9 : hi ≤ lo + 9) (W : World) :
    Calls Tryz.prog 135 #[.string ((⟨D.toArray⟩ : ByteArray).extract lo hi), .int .i64 10, .int .i64 64] W fun e w' => e = .returned (.tuple #[.int .u64 ((digV ((D.take hi).drop lo) : Nat) : Int), .nilIface]) ∧ Below W.heap.size W w' := by
  have e1 : ((⟨D.toArray⟩ : ByteArray).extract lo hi).data.toList = (D.take hi).drop lo := by simp [List.extract_eq_take_drop, List.drop_take]
  have hlen : ((D.take hi).drop lo).length = hi - lo := by rw [List.length_drop, List.length_take]; omega
  have hp := parse_digits ((D.take hi).drop lo) (List.all_eq_true.2 fun x hx => List.all_eq_true.1 hall x (List.mem_of_mem_take (List.mem_of_mem_drop hx))) (fun e => by rw [e] at hlen; simp at hlen; omega) (by omega)
  refine (Tryz.strconv_ParseUint_10_at64_ok _ (by have : ((⟨D.toArray⟩ : ByteArray).extract lo hi).size = ((D.take hi).drop lo).length := by rw [← e1]; rfl
                                                  omega) _ (by rw [e1]; exact hp) W).mono ?_
  rintro e w' ⟨he, hw⟩
  refine ⟨he, ?_⟩
  rcases hw with rfl | rfl
  · exact Below.refl _ _
  · exact below_bytes _ _
/-- what 'read' returns for a string -/
def ReadPost (l : List UInt8) (w : World) (e : Ending) (w' : World) : Prop := ∃ A n c, e = .returned (.agg #[.bool (neg l), .slice A n c]) ∧ n ≤ 120 ∧ Mag w' A n c (grp (dgs l)) ∧ (n = 0 → A = none ∧ c = 0) ∧ Below w.heap.size w w'
theorem grp_step (s : List UInt8) (k : Nat) (hk : 0 < k) (hl : k ≤ s.length) : grp (s.take k) = digV ((s.take k).drop (k - 9)) :: grp (s.take (k - 9)) := by
  have hne : s.take k ≠ [] := fun e => by have := congrArg List.length e; rw [List.length_take, List.length_nil] at this; omega
  have hlen : (s.take k).length = k := by rw [List.length_take]; omega
  rw [grp_ne hne, hlen, List.take_take, Nat.min_eq_left (by omega)]
theorem dgs_len (l : List UInt8) : (dgs l).length ≤ l.length := by
  unfold dgs
  split
  · have h1 : (lead (body l)).length ≤ (body l).length := (List.dropWhile_sublist _).length_le
    have h2 : (body l).length ≤ l.length := by
      unfold body; split
      · simp
      · exact Nat.le_refl _
    omega
  · simp
theorem grp_len (s : List UInt8) : (grp s).length ≤ s.length := by
  induction hn : s.length using Nat.strongRecOn generalizing s with
  | _ n ih =>
    by_cases h : s = []
    · subst h; rw [grp_nil]; simp
    · have hp : 0 < s.length := List.length_pos_iff.2 h
      rw [grp_ne h, List.length_cons]
      have := ih (s.take (s.length - 9)).length (by rw [List.length_take]; omega) _ rfl
      rw [List.length_take] at this
      omega
theorem OwnU.below {B : Nat} {w w' : World} {v : Value} {l : List Nat} (h : OwnU B w v l) (hb : Below w.heap.size w w') : OwnU B w' v l := by
  rcases h.2 with ⟨rfl, h0⟩ | ⟨g, cap, cur, rfl, hB, hg, hr⟩
  · exact ⟨h.1, .inl ⟨rfl, h0⟩⟩
  · refine ⟨h.1, .inr ⟨g, cap, cur, rfl, hB, ?_, hr⟩⟩
    rw [hb.block]
    · exact hg
    · rcases Nat.lt_or_ge g w.heap.size with h' | h'
      · exact h'
      · rw [Array.getElem?_eq_none h'] at hg; cases hg
set_option maxRecDepth 100000 in
set_option maxHeartbeats 2000000 in
theorem read_any (s : ByteArray) (w : World) (hs : s.size ≤ 120) : Calls Tryz.prog 100 #[.string s] w (ReadPost s.data.toList w) := by
  have hdl : (dgs s.data.toList).length ≤ 120 := by
    have h1 := dgs_len s.data.toList
    have h2 : s.data.toList.length = s.size := rfl
    omega
  have hall := Lib.hid (dgs_all s.data.toList)
  have hgl := Lib.hid (grp_len (dgs s.data.toList))
  have hglt := Lib.hid (grp_lt _ (dgs_all s.data.toList))
  have hdig := fun W => digits_any s W (by omega)
  unfold DgPost at hdig
  unfold ReadPost
  generalize neg s.data.toList = ng at *
  generalize dgs s.data.toList = D at *
  have HD := Lib.hid hdig
  clear hdig
  go_enter Tryz.func100, Tryz.ntmps100
  go_wp2_with fail
  refine (HD.out _).mono ?_
  rintro e w1 ⟨rfl, hb1⟩
  have r0 : w1.cell? ⟨w.heap.size, 0, none⟩ = some (.bool false) := by rw [hb1.cell (by simp)]; go_simp
  have r1 : w1.cell? ⟨w.heap.size, 1, none⟩ = some (.slice none 0 0) := by rw [hb1.cell (by simp)]; go_simp
  have g0 : w1.frozen? ⟨w.heap.size, 0, none⟩ = false := by rw [hb1.frozen (by simp)]; go_simp
  have g1 : w1.frozen? ⟨w.heap.size, 1, none⟩ = false := by rw [hb1.frozen (by simp)]; go_simp
  have hsz : w.heap.size + 1 ≤ w1.heap.size := by have := hb1.size; simpa using this
  have hbw : Below w.heap.size w w1 := ((Below.refl _ w).alloc (Nat.le_refl _) _).trans (hb1.mono (by simp))
  have HR := Lib.hid (And.intro r0 (And.intro r1 (And.intro g0 g1)))
  clear r0 r1 g0 g1 hb1
  go_wp2_with fail
  go_loopw [5, 6] (fun mv ev wr => ∃ (k : Int) (acc : List Nat), ev = .int .i64 k ∧ k ≤ (D.length : Int) ∧ -9 ≤ k ∧ Hid (grp D = acc ++ grp (D.take k.toNat)) ∧ OwnU w1.heap.size wr mv acc ∧ Hid (acc = [] → mv = .slice none 0 0) ∧ Below w1.heap.size w1 wr) (fun _ ev _ => (intOf ev).toNat)
  case atStart => exact ⟨(D.length : Int), [], by simp, Int.le_refl _, by omega, by show _ = _; simp, OwnU.nil _ _, fun _ => rfl, Below.refl _ _⟩
  case round =>
    obtain ⟨k, acc, rfl, hk1, hk2, hg, hown, hnil, hbel⟩ := hrel
    by_cases hk0 : 0 < k
    · obtain ⟨j, rfl⟩ : ∃ j : Nat, k = (j : Int) := ⟨k.toNat, by omega⟩
      have hd0 : decide ((0 : Int) < (j : Int)) = true := decide_eq_true hk0
      have hjl : j ≤ D.length := by omega
      have hj0 : 0 < j := by omega
      by_cases h9 : 9 ≤ j
      · obtain ⟨i, rfl⟩ : ∃ i, j = i + 9 := ⟨j - 9, by omega⟩
        have e9 : ((i + 9 : Nat) : Int) - 9 = (i : Int) := by omega
        have hmx : max (0 : Int) (i : Int) = (i : Int) := by omega
        have hd1 : decide ((0 : Int) < (i : Int) + 9) = true := by rw [decide_eq_true_iff]; omega
        obtain ⟨x, hx⟩ : ∃ x, x = digV ((D.take (i + 9)).drop i) := ⟨_, rfl⟩
        have hpp := Lib.hid (fun W => parse_part D hall.out i (i + 9) (by omega) hjl (by omega) W)
        rw [← hx] at hpp
        have hgs := Lib.hid (grp_step D (i + 9) (by omega) hjl)
        have HX := Lib.hid hx
        clear hx
        go_wp2_with fail
        refine (hpp.out _).mono ?_
        rintro e w5 ⟨rfl, hb5⟩
        have hown5 := hown.below hb5
        have hbel5 := hbel.trans (hb5.mono hbel.size)
        have hwl := hbel.size
        have hw5 := hb5.size
        have hal : acc.length + 1 ≤ 1000000 := by
          have h1 := congrArg List.length hg.out
          rw [List.length_append] at h1
          have h2 := hgl.out
          omega
        clear hown hbel
        go_wp2_with (with_reducible refine wp_append_u rfl (.tmp 30) (.tmp 32) rfl w1.heap.size u5 acc w5 x rfl hown5 rfl (by omega) hal ?_)
        intro v' w6 hown6 hb6 _
        clear hown5
        go_wp2_with fail
        go_roundw
        case rel => exact ⟨(i : Int), acc ++ [x], rfl, by omega, by omega, by show _ = _; rw [hg.out, Int.toNat_natCast, Int.toNat_natCast, hgs.out, HX.out, List.append_assoc]; rfl, hown6, fun h => by simp at h, hbel5.trans hb6⟩
        case measure => simp [intOf]; omega
      · have hmx : max (0 : Int) ((j : Int) - 9) = 0 := by omega
        obtain ⟨x, hx⟩ : ∃ x, x = digV ((D.take (j)).drop 0) := ⟨_, rfl⟩
        have hpp := Lib.hid (fun W => parse_part D hall.out 0 (j) (by omega) hjl (by omega) W)
        rw [← hx] at hpp
        have hgs := Lib.hid (grp_step D (j) (by omega) hjl)
        have HX := Lib.hid hx
        clear hx
        go_wp2_with fail
        refine (hpp.out _).mono ?_
        rintro e w5 ⟨rfl, hb5⟩
        have hown5 := hown.below hb5
        have hbel5 := hbel.trans (hb5.mono hbel.size)
        have hwl := hbel.size
        have hw5 := hb5.size
        have hal : acc.length + 1 ≤ 1000000 := by
          have h1 := congrArg List.length hg.out
          rw [List.length_append] at h1
          have h2 := hgl.out
          omega
        clear hown hbel
        go_wp2_with (with_reducible refine wp_append_u rfl (.tmp 30) (.tmp 32) rfl w1.heap.size u5 acc w5 x rfl hown5 rfl (by omega) hal ?_)
        intro v' w6 hown6 hb6 _
        clear hown5
        go_wp2_with fail
        go_roundw
        case rel => exact ⟨(j : Int) - 9, acc ++ [x], rfl, by omega, by omega, by show _ = _; rw [hg.out, Int.toNat_natCast, show ((j : Int) - 9).toNat = j - 9 by omega, hgs.out, HX.out, List.append_assoc, show j - 9 = 0 by omega]; rfl, hown6, fun h => by simp at h, hbel5.trans hb6⟩
        case measure => simp [intOf]; omega
    · have hd0 : decide ((0 : Int) < k) = false := decide_eq_false hk0
      have hgr : grp D = acc := by rw [hg.out, show k.toNat = 0 by omega, List.take_zero, grp_nil, List.append_nil]
      obtain ⟨A, c, hv, hmg, hfr⟩ := hown.mag (by rw [← hgr]; exact hglt.out)
      subst hv
      have s0 : wr.cell? ⟨w.heap.size, 0, none⟩ = some (.bool false) := (hbel.cell (by simp; omega)).trans HR.out.1
      have s1 : wr.cell? ⟨w.heap.size, 1, none⟩ = some (.slice none 0 0) := (hbel.cell (by simp; omega)).trans HR.out.2.1
      have g0 : wr.frozen? ⟨w.heap.size, 0, none⟩ = false := (hbel.frozen (by simp; omega)).trans HR.out.2.2.1
      have g1 : wr.frozen? ⟨w.heap.size, 1, none⟩ = false := (hbel.frozen (by simp; omega)).trans HR.out.2.2.2
      have hnz := Lib.hid (show acc.length = 0 → A = none ∧ c = 0 from fun h => by
        have e := hnil.out (List.eq_nil_of_length_eq_zero h)
        simp only [Value.slice.injEq] at e
        exact ⟨e.1, e.2.2⟩)
      have hal : acc.length ≤ 120 := by
        have := hgl.out
        rw [hgr] at this
        omega
      have hgr := Lib.hid hgr
      have hmf := Lib.hid (fun x y => hmg.far (r := w.heap.size) (fun ad h => by have := hfr ad h; omega) x y)
      generalize acc.length = n at *
      clear hown hmg hfr
      go_wp2_with fail
      have t0 : ((wr.setCell ⟨w.heap.size, 0, none⟩ (.bool ng)).setCell ⟨w.heap.size, 1, none⟩ (.slice A n c)).cell? ⟨w.heap.size, 0, none⟩ = some (.bool ng) := by
        rw [World.cell?_setCell_other _ _ _ _ (by simp), World.cell?_setCell_same _ _ _ s0]
      have s1' : (wr.setCell ⟨w.heap.size, 0, none⟩ (.bool ng)).cell? ⟨w.heap.size, 1, none⟩ = some (.slice none 0 0) := by
        rw [World.cell?_setCell_other _ _ _ _ (by simp)]; exact s1
      have t1 := World.cell?_setCell_same _ _ (.slice A n c) s1'
      have hb6 : Below w.heap.size w ((wr.setCell ⟨w.heap.size, 0, none⟩ (.bool ng)).setCell ⟨w.heap.size, 1, none⟩ (.slice A n c)) := ((hbw.trans (hbel.mono (by omega))).setCell (p := ⟨w.heap.size, 0, none⟩) (by simp) _).setCell (p := ⟨w.heap.size, 1, none⟩) (by simp) _
      have hm6 := hmf.out (.bool ng) (.slice A n c)
      have HF := Lib.hid (And.intro hb6 hm6)
      clear hb6 hm6 s1' s0 s1 g0 g1
      generalize (wr.setCell ⟨w.heap.size, 0, none⟩ (.bool ng)).setCell ⟨w.heap.size, 1, none⟩ (.slice A n c) = w6 at *
      exact bodyPost_ret (v := .agg #[.bool ng, .slice A n c]) (by simp [results, Tryz.results100, go_sem, t0, t1]) rfl ⟨A, n, c, rfl, hal, HF.out.2, hnz.out, HF.out.1⟩
end Go.Proofs.YtjcbohbpkodkoaaGreatDoor

/- Contract of FormatUint at base 10. -/
namespace Go.Proofs.YtjcbohbpkodkoaaGreatDoor
open Go.RowKit Num

/-- the table of the powers of ten holds them -/
def Tab (w : World) : Prop := Lib.TabIs Tryz.prog w "internal/strconv.uint64pow10" .u64 Lib.pow10Tab
theorem gPow : Tryz.prog.globalNamed "internal/strconv.uint64pow10" = some 1 := by kernel_rfl
theorem Tab.below {w w' : World} (h : Tab w) (hb : Below w.heap.size w w') : Tab w' := Joins.tab_stays gPow h hb (Nat.le_refl _)
theorem dec_fmt (n : Nat) : Lib.decDigits n = fmt n := by
  induction n using Nat.strongRecOn with
  | _ n ih =>
    rw [Lib.decDigits]
    by_cases h : n < 10
    · rw [dif_pos h]
      unfold fmt
      by_cases h0 : n = 0
      · subst h0; rfl
      · rw [if_neg h0, dig_pos h0, Nat.div_eq_of_lt h, dig_zero, Nat.mod_eq_of_lt h]; rfl
    · rw [dif_neg h, ih (n / 10) (by omega)]
      have h1 : n / 10 ≠ 0 := by omega
      unfold fmt
      rw [if_neg h1, if_neg (by omega), dig_pos (n := n) (by omega)]
theorem tab_alloc {w : World} (h : Tab w) (o : Obj) : Tab (w.alloc o) := h.below ((Below.refl _ _).alloc (Nat.le_refl _) _)
open Go.Lib Go.Sort in
set_option maxHeartbeats 3200000 in
set_option maxRecDepth 100000 in
theorem ifmt_any (u : Nat) (hu64 : u < 18446744073709551616) (w : World) (ht : Tab w) :
    Calls Tryz.prog 177 #[.int .u64 (u : Int), .int .i64 10] w fun e w' => e = .returned (.string ⟨(Lib.decDigits u).toArray⟩) ∧ Below w.heap.size w w' := by
  by_cases hs : u < 100
  · have hi : (u : Int) < 100 := by omega
    go_enter Tryz.func177, Tryz.ntmps177
    go_wp2_with fail
    refine (Tryz.internal_strconv_small u hs _).mono ?_
    rintro e w' ⟨rfl, rfl⟩
    go_wp2_with fail
    go_ret
    exact ⟨rfl, Below.refl _ _⟩
  · have hi : decide ((u : Int) < 100) = false := by rw [decide_eq_false_iff_not]; omega
    have hu1 : 1 ≤ u := by omega
    have hnd20 : Lib.nDigits u ≤ 20 := by have := Lib.numDigits_eq u hu1 hu64; split at this <;> omega
    have hb3 : Lib.nDigits u ≤ 24 := by omega
    have hal : Tryz.prog.arrayLen 195 = 24 := by simp [Program.arrayLen, Tryz.underlying195]
    have hsl1 : ∀ W, (Instr.sliceAt 195 (.pointer (some ⟨w.heap.size, 0, none⟩)) none (some (.int .i64 (Lib.nDigits u : Int))) none).run Tryz.prog W = .ok (.slice (some ⟨w.heap.size, 0, none⟩) (Lib.nDigits u) 24) W := fun W => by
      rw [run_sliceAt_array_h W 195 ⟨w.heap.size, 0, none⟩ (by simp [Program.arrayLen, Program.elem, Tryz.underlying195]) .i64 (Lib.nDigits u : Int) (by omega) (by rw [hal]; omega)]
      go_simp
    have hH0 : Sort.Holds (fun (b : UInt8) => Value.int .u8 (b.toNat : Int)) (w.alloc (.cells Lib.zeros24 195)) w.heap.size 0 (Array.replicate (Lib.nDigits u) 0) := fun j hj => by
      have hj' : j < Lib.nDigits u := by simpa using hj
      refine ⟨?_, World.frozen?_alloc_new _ _ _ _⟩
      rw [World.cell?_alloc_new, Lib.zeros24_at _ (by omega), getElem!_pos _ j hj]
      simp
    have hfmt := Tryz.internal_strconv_formatBase10 w.heap.size 0 24 u (Array.replicate (Lib.nDigits u) 0) (w.alloc (.cells Lib.zeros24 195)) hH0 (by rw [Array.size_replicate]; exact Lib.lt_pow_nDigits u) hu64 (by rw [Array.size_replicate]; omega)
    rw [Array.size_replicate] at hfmt
    have HH0 := Lib.hid hH0
    have HFM := Lib.hid hfmt
    have htab := Lib.hid (tab_alloc ht (.cells Lib.zeros24 195))
    clear hH0 hal hfmt ht
    go_enter Tryz.func177, Tryz.ntmps177
    go_wp2_with fail
    refine (Tryz.internal_strconv_numDigits u hu1 hu64 _ htab.out).mono ?_
    rintro e w' ⟨rfl, rfl⟩
    go_wp2_with fail
    refine HFM.out.mono ?_
    rintro e w' ⟨rfl, k, v', dk, rfl, hF⟩
    have hcv : (convert 84 9 (.slice (some ⟨w.heap.size, 0, none⟩) (Lib.nDigits u) 24)).run Tryz.prog ((putRow (fun (b : UInt8) => Value.int .u8 (b.toNat : Int)) (w.alloc (.cells Lib.zeros24 195)) w.heap.size 0 dk).drewN k) = .ok (.string ⟨(Lib.decDigits u).toArray⟩) ((putRow (fun (b : UInt8) => Value.int .u8 (b.toNat : Int)) (w.alloc (.cells Lib.zeros24 195)) w.heap.size 0 dk).drewN k) := by
      have h := run_convert_bytes_back (P := Tryz.prog) ((putRow (fun (b : UInt8) => Value.int .u8 (b.toNat : Int)) (w.alloc (.cells Lib.zeros24 195)) w.heap.size 0 dk).drewN k) 84 9 5 ⟨w.heap.size, 0, none⟩ 24 (Lib.decDigits u) Tryz.underlying84 Tryz.underlying5 Tryz.underlying9 (fun j hj => by
        rw [Lib.row_is_numeral hF j hj, Lib.add_plain, World.cell?_drewN]
        exact cell?_putRow (fun (b : UInt8) => Value.int .u8 (b.toNat : Int)) _ w.heap.size 0 _ dk HH0.out (by rw [hF.size, Array.size_replicate]) j (by rw [hF.size]; rw [Lib.decDigits_length] at hj; exact hj))
      rw [Lib.decDigits_length] at h
      exact h
    have hbz : Below w.heap.size w ((putRow (fun (b : UInt8) => Value.int .u8 (b.toNat : Int)) (w.alloc (.cells Lib.zeros24 195)) w.heap.size 0 dk).drewN k) := by
      rw [alloc_eq_grow]
      obtain ⟨os', _, e⟩ := putRow_grow_new (fun (b : UInt8) => Value.int .u8 (b.toNat : Int)) w #[.cells Lib.zeros24 195] w.heap.size 0 dk (Nat.le_refl _)
      rw [e]
      exact ⟨rfl, rfl, rfl, by simp [Sort.grow, World.drewN], fun j hj => by simp [Sort.grow, World.drewN, Array.getElem?_append, hj]⟩
    go_wp2_with fail
    go_ret
    exact ⟨rfl, hbz⟩
theorem fmt_any (u : Nat) (hu64 : u < 18446744073709551616) (w : World) (ht : Tab w) :
    Calls Tryz.prog 140 #[.int .u64 (u : Int), .int .i64 10] w fun e w' => e = .returned (.string ⟨(fmt u).toArray⟩) ∧ Below w.heap.size w w' := by
  have h := fun W hT => ifmt_any u hu64 W hT
  rw [dec_fmt u] at h
  have H := Lib.hid h
  clear h
  go_enter Tryz.func140, Tryz.ntmps140
  go_wp2_with fail
  refine (H.out _ ht).mono ?_
  rintro e w' ⟨rfl, hb⟩
  go_wp2_with fail
  go_ret
  exact ⟨rfl, hb⟩
end Go.Proofs.YtjcbohbpkodkoaaGreatDoor
