/- Contracts of money.sum and money.Put at no money and one of any amount. -/
import Derived.Test.YtejaehmoplohdaaGreatDoorQ4
import Derived.Test.YtejaehmoplohdaaGreatDoorQ1
import Derived.Test.YtejaehmoplohdaaGreatDoorQ2
import Derived.Shelf.SlSortCmp.NoneTotal
import Derived.Test.YtejaehmoplohdaaGreatDoorChecked
import Derived.Shelf.SlSortCmp.WholeK
import Derived.Laws.AppendOwn
import Derived.Below
import Derived.OwnWalk
namespace Go.Proofs.YtejaehmoplohdaaGreatDoor
open Go.RowKit Go.Shelf Num
attribute [local go_sem] Oper.semAt_some

abbrev rowM : Row (List UInt8 × List UInt8) := ⟨146, 150, .agg #[.string ⟨#[]⟩, .string ⟨#[]⟩], 2, 32, fun q => [.string ⟨q.1.toArray⟩, .string ⟨q.2.toArray⟩]⟩
theorem rowM_ok : rowM.Ok where
  hS := Tryz.underlying146
  info := by kernel_rfl
  zc := rfl
  k0 := by decide
  b1 := by decide
  hk _ := rfl
  h1 x v hv := by
    simp only [List.mem_cons, List.not_mem_nil, or_false] at hv
    rcases hv with rfl | rfl <;> rfl
/-- what the loop in sum keeps in memory -/
structure SJ (w : World) (pre : List Unit) (W : World) : Prop where
  ho : ∃ A c, Boxed W w.heap.size 146 (.slice A pre.length c) ∧ (pre = [] → A = none ∧ c = 0)
  bel : Below w.heap.size w W
  sz : w.heap.size + 3 ≤ W.heap.size
theorem SJ.grown {w W W' : World} {pre : List Unit} {row : Option Nat} (h : SJ w pre W) (hg : W.grownBy W' row) (hrow : ∀ r, row = some r → w.heap.size < r) : SJ w pre W' := by
  obtain ⟨A, c, hb, hn⟩ := h.ho
  exact ⟨⟨A, c, hb.kept hg (fun e => by have := hrow _ e.symm; omega), hn⟩, h.bel.grown hg h.bel.size (fun k e => Nat.le_of_lt (hrow k e)), Nat.le_trans h.sz hg.size⟩
theorem SJ.below {w W W' : World} {pre : List Unit} (h : SJ w pre W) (hb : Below W.heap.size W W') : SJ w pre W' := by
  obtain ⟨A, c, hx, hn⟩ := h.ho
  exact ⟨⟨A, c, (hb.block _ hx.lt).trans hx, hn⟩, h.bel.trans (hb.mono h.bel.size), Nat.le_trans h.sz hb.size⟩
def AmJ (m : List UInt8) (_ : Unit) (W0 W : World) : Prop := W.cell? ⟨W0.heap.size, 0, none⟩ = some (.string ⟨#[]⟩) ∧ W.cell? ⟨W0.heap.size, 1, none⟩ = some (.string ⟨m.toArray⟩)
theorem AmJ.put {m : List UInt8} {x : Unit} {W0 W : World} (h : AmJ m x W0 W) {b : Nat} (hb : b < W0.heap.size) (o : Obj) : AmJ m x W0 (W.putObj b o) :=
  ⟨(World.cell?_of_block (a := ⟨W0.heap.size, 0, none⟩) (World.putObj_heap_other (by simp; omega))).trans h.1, (World.cell?_of_block (a := ⟨W0.heap.size, 1, none⟩) (World.putObj_heap_other (by simp; omega))).trans h.2⟩
set_option maxRecDepth 100000 in
set_option maxHeartbeats 4000000 in
theorem sum_two (d : Nat) (hd : 1 ≤ d) (bm : Nat) (l m : List UInt8) (w : World) (m0 : w.cell? ⟨bm, 0, none⟩ = some (.string ⟨l.toArray⟩)) (m1 : w.cell? ⟨bm, 1, none⟩ = some (.string ⟨m.toArray⟩)) (ht : Tab w) (hml : m.length ≤ 120) (hcan : txt (val m) = m) (hne : m ≠ []) :
    CallsIn Fence.wide d Tryz.prog 154 #[.slice none 0 0, .slice (some ⟨bm, 0, none⟩) 1 1] w fun e w' => (∃ v, e = .returned (.tuple #[v, .int .i64 0])) ∧ Below w.heap.size w w' := by
  refine callsIn_of_wp_marks Tryz.func154 rfl trivial ?_ rfl
  simp only [Tryz.ntmps154, List.size_toArray, List.length_cons, List.length_nil, Nat.reduceAdd, Nat.reduceSub, Array.replicate_succ, Array.replicate_zero, List.push_toArray, List.append_toArray, List.nil_append, List.cons_append]
  gi_wp2_with (refine ⟨trivial, ?_⟩; refine (callsIn_wide.2 (both_any _ _ _ _)).mono ?_; rintro e w' ⟨rfl, rfl⟩)
  have hbl : bm < w.heap.size := block_lt_of_cell m0
  have b0 := Boxed.new w 146 (.slice none 0 0)
  have b1 := Boxed.new (w.alloc (.cells #[.slice none 0 0] 146)) 146 (.slice none 0 0)
  have b2 := Boxed.new ((w.alloc (.cells #[.slice none 0 0] 146)).alloc (.cells #[.slice none 0 0] 146)) 146 (.slice (some ⟨bm, 0, none⟩) 1 1)
  simp only [World.size_alloc] at b1 b2 ⊢
  have hB0 : Below w.heap.size w (((w.alloc (.cells #[.slice none 0 0] 146)).alloc (.cells #[.slice none 0 0] 146)).alloc (.cells #[.slice (some ⟨bm, 0, none⟩) 1 1] 146)) := ex_alloc3 w _ _ _
  have hF0 : SJ w [] (((w.alloc (.cells #[.slice none 0 0] 146)).alloc (.cells #[.slice none 0 0] 146)).alloc (.cells #[.slice (some ⟨bm, 0, none⟩) 1 1] 146)) := ⟨⟨none, 0, (b0.alloc _).alloc _, fun _ => ⟨rfl, rfl⟩⟩, hB0, by simp⟩
  have b1' := b1.alloc (.cells #[.slice (some ⟨bm, 0, none⟩) 1 1] 146)
  have hsz : (((w.alloc (.cells #[.slice none 0 0] 146)).alloc (.cells #[.slice none 0 0] 146)).alloc (.cells #[.slice (some ⟨bm, 0, none⟩) 1 1] 146)).heap.size = w.heap.size + 3 := by simp
  clear b0 b1
  generalize (((w.alloc (.cells #[.slice none 0 0] 146)).alloc (.cells #[.slice none 0 0] 146)).alloc (.cells #[.slice (some ⟨bm, 0, none⟩) 1 1] 146)) = W0 at *
  have n0 := (hB0.cell (p := ⟨bm, 0, none⟩) hbl).trans m0
  have n1 := (hB0.cell (p := ⟨bm, 1, none⟩) hbl).trans m1
  refine range_boxA (w.heap.size + 1) rfl hd (gf := 193) (lb := #[.pointer (some ⟨w.heap.size + 1, 0, none⟩), .pointer (some ⟨w.heap.size + 1 + 1, 0, none⟩)]) rfl trivial (enters_of Tryz.func193 (by kernel_rfl) rfl) (w.heap.size + 1 + 1) (by omega) (by omega)
    (both2_stops (d - 1) (w.heap.size + 1) (w.heap.size + 1 + 1) bm l m W0 b1' b2 n0 n1 (by omega) (by omega) (by omega)) (fun _ => rfl)
    (fun s W => SJ w s W) (fun _ _ => False)
    (fun s A B row hs hg hr => hs.grown hg (fun r e => by have := (hr r e).1; omega))
    (fun s A B row hs hg hr => hs)
    (fun s A B hs hg => hs.grown hg (fun r e => by cases e; omega))
    (fun s A B hs hg => hs)
    hF0
    (fun _ Wp => { tmps := #[.slice none 0 0, .slice (some ⟨bm, 0, none⟩) 1 1, undef, undef, .slice none 0 0, .int .i64 0, .pointer (some ⟨w.heap.size, 0, none⟩), .string ⟨l.toArray⟩, .pointer (some ⟨Wp.heap.size, 0, none⟩), undef, .slice none 0 0, .slice (some ⟨bm, 0, none⟩) 1 1, .func (.func 193) #[] #[.pointer (some ⟨w.heap.size + 1, 0, none⟩), .pointer (some ⟨w.heap.size + 1 + 1, 0, none⟩)], .string ⟨l.toArray⟩, .agg #[.string ⟨#[]⟩, .string ⟨m.toArray⟩], undef, undef, undef, undef, undef, undef, undef, undef, undef, undef, undef, undef, undef, undef, undef, undef, undef], defers := [] })
    (AmJ m) (fun x W0 W' o hlt h => h.put hlt o) ?assign ?body ?done ?stop
  case assign =>
    intro lp x W K hK
    gi_wp2
    exact hK _ (World.grownBy_alloc _ _ _) ⟨by go_simp, by go_simp⟩
  case body =>
    rintro lp pre x Wp W hWp hF ⟨p0, p1⟩ hpre
    obtain rfl : pre = [] := List.eq_nil_of_length_eq_zero (by omega)
    have htW : Tab W := ht.below hF.bel
    have hadd : CallsIn (Fence.wide.inRound lp) (d - 1 - 1 - 1) Tryz.prog 27 #[.string ⟨#[]⟩, .string ⟨m.toArray⟩] W fun e w' => e = .returned (.string ⟨m.toArray⟩) ∧ Below W.heap.size W w' := by
      refine CallsIn.inRound lp (callsIn_wide.2 ?_)
      refine (Add_any ⟨#[]⟩ ⟨m.toArray⟩ W (by decide) (by show m.toArray.size ≤ 120; rw [List.size_toArray]; exact hml) htW).mono ?_
      rintro e w' ⟨he, hb⟩
      refine ⟨?_, hb⟩
      have e0 : txt (val (⟨#[]⟩ : ByteArray).data.toList + val (⟨m.toArray⟩ : ByteArray).data.toList) = m := by
        have e1 : val (⟨#[]⟩ : ByteArray).data.toList = 0 := by rfl
        rw [e1, Int.zero_add]
        exact hcan
      rw [he, e0]
    have HA := Lib.hid hadd
    obtain ⟨A, c, hbx, hn⟩ := hF.ho
    obtain ⟨rfl, rfl⟩ := hn rfl
    have HF := Lib.hid hF
    have HX := Lib.hid hbx
    clear hadd b1' b2 hF0 hB0 n0 n1 m0 m1 hn hF hbx
    obtain ⟨v0, vr, rfl⟩ : ∃ v0 vr, m = v0 :: vr := by
      cases m with
      | nil => exact absurd rfl hne
      | cons v0 vr => exact ⟨v0, vr, rfl⟩
    gi_wp2_with (first
      | (refine ⟨trivial, fun h => (by cases h), ?_⟩; refine HA.out.mono ?_; rintro e W3 ⟨rfl, hb3⟩; have HF3 := Lib.hid (HF.out.below hb3); have HX3 := Lib.hid (show Boxed W3 w.heap.size 146 (.slice none 0 0) from (hb3.block _ HX.out.lt).trans HX.out); have HB3 := Lib.hid hb3; have cb := HX3.out.cell; have fb := HX3.out.frozen; clear hb3)
      | (gi_at_builtin; refine wpIn_append1 rowM_ok rfl (.tmp 22) (.tmp 26) rfl w.heap.size _ [] W3 (l, v0 :: vr) _ _ rfl rfl rfl (Row.Own.nil _ _) rfl HF3.out.bel.size (by decide) ?_; intro v1 w5 ho5 hg5; obtain ⟨A5, c5, rfl⟩ := ho5.slice; obtain ⟨k1, k2, k3, k4, k5⟩ := HX3.out.appended (by decide) (Row.Own.nil (R := rowM) w.heap.size W3) HF3.out.bel.size (Nat.le_refl _) ho5 hg5; have hc5 := k1.cell; have hf5 := k1.frozen)
      | gi_in)
    have hb6 : ∀ b, b ≠ w.heap.size → b < W.heap.size → (w5.setCell ⟨w.heap.size, 0, none⟩ (.slice A5 1 c5)).heap[b]? = W.heap[b]? := fun b h1 h2 => by
      rw [Below.heap_setCell _ _ _ _ h1, hg5.block b (by rw [World.size_alloc]; have := HB3.out.size; omega) (fun e => by have e2 : some b = none := e; cases e2), heap_alloc_old _ _ (by have := HB3.out.size; omega)]
      exact HB3.out.block b h2
    have hsW := HF.out.sz
    refine ⟨((keeps_of_below HB3.out).trans k4).from _, ⟨hb6 _ (by omega) (by omega), hb6 _ (by omega) (by omega)⟩, ⟨⟨A5, c5, k2, fun h => by cases h⟩, HF3.out.bel.trans k5, Nat.le_trans HF3.out.sz k4.size⟩⟩
  case done =>
    rintro D ys W hD hys hF hK
    obtain ⟨A, c, hbx, _⟩ := hF.ho
    subst hys
    have c0 := hbx.cell
    clear b1' b2 hF0 hB0 n0 n1 m0 m1
    gi_wp2
    refine ⟨by simp, .inl ⟨_, _, rfl, run_takeDeferred hK, ?_⟩⟩
    refine ⟨.tuple #[.slice A 1 c, .int .i64 0], ?_, ⟨_, rfl⟩, hF.bel.trans (belowK_b (w := w) (Nat.le_refl _) W D _ _ (by omega) hK rfl rfl)⟩
    simp [results, Tryz.f154, go_sem]
  case stop =>
    rintro D pre W hD hpre hF hK
    exact hF.elim
def PutQ (l m : List UInt8) (w : World) (e : Ending) (w' : World) : Prop := (∃ v, e = .returned (.tuple #[v, .int .i64 (if curB l = false then 23 else chkI m)])) ∧ Below w.heap.size w w'
theorem PutQ.of {l m : List UInt8} {w W : World} {v : Value} {i : Int} (hb : Below w.heap.size w W) (h : (if curB l = false then 23 else chkI m) = i) : PutQ l m w (.returned (.tuple #[v, .int .i64 i])) W := ⟨⟨v, by rw [h]⟩, hb⟩
set_option maxRecDepth 100000 in
set_option maxHeartbeats 4000000 in
theorem Put2_any (l m : List UInt8) (w : World) (hl : l.length ≤ maxLen) (hm : m.length ≤ 120) (ht : Tab w) : Calls Tryz.prog 116 #[.slice none 0 0, .agg #[.string ⟨l.toArray⟩, .string ⟨m.toArray⟩]] w (PutQ l m w) := by
  by_cases hme : m = []
  · subst hme
    refine (Put_any l w hl ht).mono ?_
    rintro e w' ⟨rfl, hb⟩
    refine PutQ.of hb ?_
    rw [chkI_nil]
    cases curB l <;> rfl
  have h1 := fun W => isCode_any ⟨l.toArray⟩ W hl
  have e1 : (⟨l.toArray⟩ : ByteArray).data.toList = l := rfl
  rw [e1] at h1
  have h2 := fun W => Check_any ⟨m.toArray⟩ W (by show m.toArray.size ≤ _; rw [List.size_toArray]; first | exact hm | omega)
  have e2 : (⟨m.toArray⟩ : ByteArray).data.toList = m := rfl
  rw [e2] at h2
  unfold IntPost at h2
  have H1 := Lib.hid h1
  have H2 := Lib.hid h2
  have hq := Lib.hid (fun W v i (hb : Below w.heap.size w W) (h : (if curB l = false then 23 else chkI m) = i) => PutQ.of (v := v) hb h)
  have hck := Lib.hid (show chkI m = if can m = m then 0 else 1 from rfl)
  clear h1 h2 e1 e2
  have hbx : Below w.heap.size w (w.alloc (.cells #[.string ⟨l.toArray⟩, .string ⟨m.toArray⟩] 150)) := (Below.refl _ w).alloc (Nat.le_refl _) _
  have x0 : (w.alloc (.cells #[.string ⟨l.toArray⟩, .string ⟨m.toArray⟩] 150)).cell? ⟨w.heap.size, 0, none⟩ = some (.string ⟨l.toArray⟩) := by go_simp
  have x1 : (w.alloc (.cells #[.string ⟨l.toArray⟩, .string ⟨m.toArray⟩] 150)).cell? ⟨w.heap.size, 1, none⟩ = some (.string ⟨m.toArray⟩) := by go_simp
  generalize PutQ l m w = Post at *
  cases hc : curB l
  · have H1' := Lib.hid (by have := H1.out; rw [hc] at this; exact this)
    have hv := Lib.hid (hq.out _ (.slice none 0 0) 23 hbx (by rw [hc, if_pos rfl]))
    clear hq
    go_enter Tryz.func116, Tryz.ntmps116
    go_wp2_with fail
    refine (MCheck_nil _).mono ?_
    rintro e w1 ⟨rfl, rfl⟩
    go_wp2_with fail
    refine (H1'.out _).mono ?_
    rintro e w1 ⟨rfl, rfl⟩
    go_wp2_with fail
    exact hv.out
  have H1' := Lib.hid (by have := H1.out; rw [hc] at this; exact this)
  have hq2 := Lib.hid (fun W v i hb (h : chkI m = i) => hq.out W v i hb (by rw [hc, if_neg (by decide)]; exact h))
  clear hq
  generalize chkI m = ck at *
  go_enter Tryz.func116, Tryz.ntmps116
  go_wp2_with fail
  refine (MCheck_nil _).mono ?_
  rintro e w1 ⟨rfl, rfl⟩
  go_wp2_with fail
  refine (H1'.out _).mono ?_
  rintro e w1 ⟨rfl, rfl⟩
  go_wp2_with fail
  refine (H2.out _).mono ?_
  rintro e w1 ⟨rfl, hb1⟩
  have x0' := (hb1.cell (p := ⟨w.heap.size, 0, none⟩) (by simp)).trans x0
  have x1' := (hb1.cell (p := ⟨w.heap.size, 1, none⟩) (by simp)).trans x1
  have B1 := Lib.hid (hbx.trans (hb1.mono (by simp)))
  clear x0 x1 hb1
  by_cases hz : ck = 0
  case neg =>
    have hzb : (ck != 0) = true := by rw [bne_iff_ne]; exact hz
    have h1 : ck = 1 := by
      rw [hck.out] at hz ⊢
      split at hz
      · exact absurd rfl hz
      · rw [if_neg (by assumption)]
    have hv := Lib.hid (hq2.out w1 (.slice none 0 0) 1 B1.out h1)
    go_wp2_with fail
    exact hv.out
  have hcm : can m = m := by
    have := hck.out
    rw [hz] at this
    by_cases e : can m = m
    · exact e
    · rw [if_neg e] at this; cases this
  subst hz
  go_wp2_with fail
  have hal : Below w1.heap.size w1 (w1.alloc (.cells #[.string ⟨l.toArray⟩, .string ⟨m.toArray⟩] 150)) := (Below.refl _ _).alloc (Nat.le_refl _) _
  have B2 := Lib.hid (B1.out.trans (hal.mono B1.out.size))
  have hs := (callsIn_wide (n := 5)).1 (sum_two 5 (by omega) w1.heap.size l m (w1.alloc (.cells #[.string ⟨l.toArray⟩, .string ⟨m.toArray⟩] 150)) (by go_simp) (by go_simp) (ht.below B2.out) hm hcm hme)
  refine hs.mono ?_
  rintro e w2 ⟨⟨v, rfl⟩, hb2⟩
  have B3 := Lib.hid (B2.out.trans (hb2.mono B2.out.size))
  have hv := Lib.hid (hq2.out w2 v 0 B3.out rfl)
  clear hs hal hb2
  go_wp2_with fail
  exact hv.out
end Go.Proofs.YtejaehmoplohdaaGreatDoor

/- slices.SortFunc at keys: laid by the kit. -/
namespace Go.Proofs
open Go.Shelf
def Tryz.laysSortK_ren : Go.Shelf.Ren := ⟨fun | 6 => 160 | 15 => 184 | 14 => 183 | 28 => 204 | 29 => 174 | 20 => 196 | 21 => 197 | 22 => 198 | 23 => 199 | 24 => 200 | 25 => 201 | 26 => 202 | 27 => 203 | 46 => 211 | 47 => 212 | 48 => 213 | 49 => 214 | 50 => 215 | 57 => 218 | n => n, fun | 22 => 152 | 24 => 123 | 25 => 151 | 3 => 3 | 39 => 131 | 0 => 0 | 53 => 125 | 55 => 101 | 4 => 4 | 46 => 235 | 45 => 234 | 50 => 158 | 5 => 5 | 9 => 9 | 66 => 249 | 70 => 253 | 76 => 255 | 77 => 256 | n => n, fun | n => n⟩
theorem Tryz.laysSortK : Go.Proofs.SlLaysF0.n6 Tryz.prog Tryz.laysSortK_ren := {
  mixed := by kernel_rfl
  f6 := ⟨Tryz.f160.name, by decide, Tryz.func160.trans (congrArg some (by kernel_rfl))⟩
  f14 := ⟨Tryz.f183.name, by decide, Tryz.func183.trans (congrArg some (by kernel_rfl))⟩
  f15 := Tryz.func184.trans (congrArg some (by kernel_rfl))
  f20 := ⟨Tryz.f196.name, by decide, Tryz.func196.trans (congrArg some (by kernel_rfl))⟩
  f21 := ⟨Tryz.f197.name, by decide, Tryz.func197.trans (congrArg some (by kernel_rfl))⟩
  f22 := ⟨Tryz.f198.name, by decide, Tryz.func198.trans (congrArg some (by kernel_rfl))⟩
  f23 := ⟨Tryz.f199.name, by decide, Tryz.func199.trans (congrArg some (by kernel_rfl))⟩
  f24 := ⟨Tryz.f200.name, by decide, Tryz.func200.trans (congrArg some (by kernel_rfl))⟩
  f25 := ⟨Tryz.f201.name, by decide, Tryz.func201.trans (congrArg some (by kernel_rfl))⟩
  f26 := ⟨Tryz.f202.name, by decide, Tryz.func202.trans (congrArg some (by kernel_rfl))⟩
  f27 := ⟨Tryz.f203.name, by decide, Tryz.func203.trans (congrArg some (by kernel_rfl))⟩
  f28 := Tryz.func204.trans (congrArg some (by kernel_rfl))
  f29 := Tryz.func174.trans (congrArg some (by kernel_rfl))
  f46 := ⟨Tryz.f211.name, by decide, Tryz.func211.trans (congrArg some (by kernel_rfl))⟩
  f47 := Tryz.func212.trans (congrArg some (by kernel_rfl))
  f48 := Tryz.func213.trans (congrArg some (by kernel_rfl))
  f49 := ⟨Tryz.f214.name, by decide, Tryz.func214.trans (congrArg some (by kernel_rfl))⟩
  f50 := ⟨Tryz.f215.name, by decide, Tryz.func215.trans (congrArg some (by kernel_rfl))⟩
  f57 := ⟨Tryz.f218.name, by decide, Tryz.func218.trans (congrArg some (by kernel_rfl))⟩
  t0 := Tryz.underlying0
  a0 := Tryz.isAgg0
  z0 := Tryz.sizeOf0
  v0 := Tryz.zeroValue0
  t3 := Tryz.underlying3
  a3 := Tryz.isAgg3
  z3 := Tryz.sizeOf3
  v3 := Tryz.zeroValue3
  t4 := Tryz.underlying4
  a4 := Tryz.isAgg4
  z4 := Tryz.sizeOf4
  v4 := Tryz.zeroValue4
  t5 := Tryz.underlying5
  a5 := Tryz.isAgg5
  z5 := Tryz.sizeOf5
  v5 := Tryz.zeroValue5
  t9 := Tryz.underlying9
  a9 := Tryz.isAgg9
  z9 := Tryz.sizeOf9
  v9 := Tryz.zeroValue9
  t22 := Tryz.underlying152
  a22 := Tryz.isAgg152
  z22 := Tryz.sizeOf152
  v22 := Tryz.zeroValue152
  t25 := Tryz.underlying151
  a25 := Tryz.isAgg151
  z25 := Tryz.sizeOf151
  v25 := Tryz.zeroValue151
  t39 := Tryz.underlying131
  a39 := Tryz.isAgg131
  z39 := Tryz.sizeOf131
  v39 := Tryz.zeroValue131
  t45 := Tryz.underlying234
  a45 := Tryz.isAgg234
  z45 := Tryz.sizeOf234
  v45 := Tryz.zeroValue234
  t46 := Tryz.underlying235
  a46 := Tryz.isAgg235
  z46 := Tryz.sizeOf235
  v46 := Tryz.zeroValue235
  t50 := Tryz.underlying158
  a50 := Tryz.isAgg158
  z50 := Tryz.sizeOf158
  v50 := Tryz.zeroValue158
  t53 := Tryz.underlying125
  a53 := Tryz.isAgg125
  z53 := Tryz.sizeOf125
  v53 := Tryz.zeroValue125
  t55 := Tryz.underlying101
  a55 := Tryz.isAgg101
  z55 := Tryz.sizeOf101
  v55 := Tryz.zeroValue101
  t66 := Tryz.underlying249
  a66 := Tryz.isAgg249
  z66 := Tryz.sizeOf249
  v66 := Tryz.zeroValue249
  t70 := Tryz.underlying253
  a70 := Tryz.isAgg253
  z70 := Tryz.sizeOf253
  v70 := Tryz.zeroValue253
  t76 := Tryz.underlying255
  a76 := Tryz.isAgg255
  z76 := Tryz.sizeOf255
  v76 := Tryz.zeroValue255
  t77 := Tryz.underlying256
  a77 := Tryz.isAgg256
  z77 := Tryz.sizeOf256
  v77 := Tryz.zeroValue256 }
end Go.Proofs

/- Rows of the call's own, as the kit's sort speaks of them. -/
namespace Go.Proofs.YtejaehmoplohdaaGreatDoor
open Go.RowKit Go.Sort Go.Lib

theorem flat_len {α : Type} (enc : α → List Value) (k : Nat) (hk : ∀ x, (enc x).length = k) (l : List α) : (l.flatMap enc).length = l.length * k := by
  induction l with
  | nil => simp
  | cons a l ih => rw [List.flatMap_cons, List.length_append, ih, hk, List.length_cons, Nat.add_mul]; omega
theorem flat_get {α : Type} [Inhabited α] (enc : α → List Value) (k : Nat) (hk : ∀ x, (enc x).length = k) : ∀ (l : List α) (t : Nat), t < l.length * k → (l.flatMap enc)[t]? = some ((enc (l[t / k]!))[t % k]!)
  | [], t, h => by simp at h
  | a :: l, t, h => by
    have hk0 : 0 < k := by
      rcases Nat.eq_zero_or_pos k with h0 | h0
      · rw [h0] at h; simp at h
      · exact h0
    rw [List.flatMap_cons]
    by_cases ht : t < k
    · rw [List.getElem?_append_left (by rw [hk]; exact ht), Nat.div_eq_of_lt ht, Nat.mod_eq_of_lt ht]
      simp only [List.getElem!_cons_zero]
      rw [List.getElem?_eq_getElem (by rw [hk]; exact ht), getElem!_pos (enc a) t (by rw [hk]; exact ht)]
    · obtain ⟨s, rfl⟩ : ∃ s, t = s + k := ⟨t - k, by omega⟩
      rw [List.getElem?_append_right (by rw [hk]; omega), hk, Nat.add_sub_cancel, Nat.add_div_right _ hk0, Nat.add_mod_right]
      simp only [List.getElem!_cons_succ]
      refine flat_get enc k hk l s ?_
      rw [List.length_cons, Nat.add_mul] at h
      omega
theorem flat_eq {α : Type} [Inhabited α] (enc : α → List Value) (k : Nat) (hk : ∀ x, (enc x).length = k) (l : List α) : flatK enc k l.toArray = (l.flatMap enc).toArray := by
  refine ext_get! (by rw [size_flatK]; simp only [List.size_toArray, flat_len enc k hk]) fun t ht => ?_
  rw [size_flatK] at ht
  simp only [List.size_toArray] at ht
  rw [get_flatK enc k _ t (by simpa using ht)]
  have h := flat_get enc k hk l t ht
  have h2 : t < (l.flatMap enc).length := by rw [flat_len enc k hk]; exact ht
  rw [List.getElem?_eq_getElem h2] at h
  rw [getElem!_pos (l.flatMap enc).toArray t (by simpa using h2)]
  simp only [List.getElem_toArray]
  rw [Option.some.inj h]
  simp
theorem own_holds {α : Type} [Inhabited α] (enc : α → List Value) (k : Nat) (hk : ∀ x, (enc x).length = k) {w : World} {B e : Nat} {v : Value} {l : List α} (h : w.ownsRow B e k v l.length (l.flatMap enc)) (hne : 0 < l.length) :
    ∃ g cap, v = .slice (some ⟨g, 0, none⟩) l.length cap ∧ B ≤ g ∧ g < w.heap.size ∧ HoldsK enc k w g 0 l.toArray := by
  rcases h.2 with ⟨_, h0⟩ | ⟨g, cap, cur, hv, hB, hg, hc, hm, hsz, htake⟩
  · omega
  · refine ⟨g, cap, hv, hB, ?_, fun j hj => ?_⟩
    · rcases Nat.lt_or_ge g w.heap.size with h' | h'
      · exact h'
      · rw [Array.getElem?_eq_none h'] at hg; cases hg
    · rw [size_flatK] at hj
      simp only [List.size_toArray] at hj
      rw [cell_of_row _ _ _ _ _ _ hg, frozen_of_row _ _ _ _ _ hg, Nat.zero_add]
      refine ⟨?_, rfl⟩
      have h1 : cur[j]? = (l.flatMap enc)[j]? := by
        rw [← htake, List.getElem?_take, if_pos hj, Array.getElem?_toList]
      rw [h1, flat_get enc k hk l j hj, get_flatK enc k _ j (by simpa using hj)]
      simp
theorem own_put {α : Type} [Inhabited α] (enc : α → List Value) (k : Nat) (hk : ∀ x, (enc x).length = k) {w : World} {B e : Nat} {g n cap : Nat} {l m : List α} (h : w.ownsRow B e k (.slice (some ⟨g, 0, none⟩) l.length cap) l.length (l.flatMap enc)) (hl : m.length = l.length) (hne : 0 < l.length) (os : Array Obj) :
    (grow (putRowK enc k (Sort.ahead w n) g 0 m.toArray) os).ownsRow B e k (.slice (some ⟨g, 0, none⟩) l.length cap) m.length (m.flatMap enc) ∧ Below B w (grow (putRowK enc k (Sort.ahead w n) g 0 m.toArray) os) := by
  rcases h.2 with ⟨_, h0⟩ | ⟨g', cap', cur, hv, hB, hg, hc, hm, hsz, htake⟩
  · omega
  injection hv with hv1 hv2 hv3
  injection hv1 with hv1
  injection hv1 with hv1
  subst hv1 hv3
  have hlt : g < w.heap.size := by
    rcases Nat.lt_or_ge g w.heap.size with h' | h'
    · exact h'
    · rw [Array.getElem?_eq_none h'] at hg; cases hg
  have hbl : ∀ i, i < w.heap.size → i ≠ g → (grow (putRowK enc k (Sort.ahead w n) g 0 m.toArray) os).heap[i]? = w.heap[i]? := fun i hi hne => by
    simp only [grow]
    rw [Array.getElem?_append_left (by simpa [putRowK, Sort.ahead] using hi)]
    simp [putRowK, putRow, mapBlock, Sort.ahead, Array.getElem?_modify, hne.symm]
  have hrow : (grow (putRowK enc k (Sort.ahead w n) g 0 m.toArray) os).heap[g]? = some (.cells (putCells id 0 (flatK enc k m.toArray) cur) e (0, 0)) := by
    simp only [grow]
    rw [Array.getElem?_append_left (by simpa [putRowK, Sort.ahead] using hlt)]
    simp [putRowK, putRow, mapBlock, Sort.ahead, Array.getElem?_modify, hg, onCells]
  have hml : (m.flatMap enc).length = m.length * k := flat_len enc k hk m
  refine ⟨⟨hml, .inr ⟨g, cap, _, by rw [hl], hB, hrow, by omega, hm, by simp [putCells, hsz], ?_⟩⟩, ?_⟩
  · rw [flat_eq enc k hk]
    apply List.ext_getElem?
    intro i
    rw [List.getElem?_take]
    by_cases hi : i < m.length * k
    · have hi2 : i < cap * k := Nat.lt_of_lt_of_le hi (Nat.mul_le_mul_right k (by omega))
      rw [if_pos hi, Array.getElem?_toList]
      simp only [putCells, Array.getElem?_mapIdx, List.size_toArray]
      rw [Array.getElem?_eq_getElem (by omega), Option.map_some, if_pos ⟨Nat.zero_le _, by omega⟩, Nat.sub_zero, getElem!_pos _ i (by simpa using (by omega : i < (m.flatMap enc).length)), List.getElem?_eq_getElem (by omega)]
      simp
    · rw [if_neg hi, List.getElem?_eq_none (by omega)]
  · exact ⟨rfl, rfl, rfl, by simp [grow, putRowK, Sort.ahead], fun i hi => hbl i (by omega) (by omega)⟩
end Go.Proofs.YtejaehmoplohdaaGreatDoor

/- Plain: normal forms by putting lines in, sorted lists, the merge of two sorted lists. -/
namespace Go.Proofs.YtejaehmoplohdaaGreatDoor
namespace Num

/-- a line put into lines in order -/
def putL : List Ln → Ln → List Ln
  | [], x => if val x.2.2 = 0 then [] else [x]
  | y :: r, x => if cmpK y x < 0 then y :: putL r x
    else if cmpK y x = 0 then (if val y.2.2 + val x.2.2 = 0 then r else (x.1, x.2.1, txt (val y.2.2 + val x.2.2)) :: r)
    else if val x.2.2 = 0 then y :: r else x :: y :: r
/-- the normal form of lines -/
def nrmL (l : List Ln) : List Ln := l.foldl putL []
theorem nrmL_snoc (l : List Ln) (x : Ln) : nrmL (l ++ [x]) = putL (nrmL l) x := by simp [nrmL]
theorem putL_tot (l : List Ln) (x : Ln) (k : Ky) : tot (putL l x) k = tot l k + if key x = k then val x.2.2 else 0 := by
  induction l with
  | nil =>
    unfold putL
    split
    · rename_i h; rw [h, tot_nil]; split <;> rfl
    · rw [tot_cons, tot_nil]; omega
  | cons y r ih =>
    unfold putL
    split
    · rw [tot_cons, ih, tot_cons]; omega
    · split
      · rename_i h
        have hk : key y = key x := cmpKy_zero.1 h
        split
        · rename_i h0
          rw [tot_cons, hk]; split <;> omega
        · rw [tot_cons, tot_cons, hk]
          show (if key x = k then val (txt (val y.2.2 + val x.2.2)) else 0) + _ = _
          rw [val_txt]; split <;> omega
      · split
        · rename_i h; rw [h]; split <;> omega
        · rw [tot_cons, tot_cons]; omega
theorem putL_mem (l : List Ln) (x z : Ln) (h : z ∈ putL l x) : z ∈ l ∨ key z = key x := by
  induction l with
  | nil =>
    unfold putL at h
    split at h
    · cases h
    · rw [List.mem_singleton] at h; subst h; exact .inr rfl
  | cons y r ih =>
    unfold putL at h
    split at h
    · rcases List.mem_cons.1 h with h | h
      · subst h; exact .inl (by simp)
      · rcases ih h with h | h
        · exact .inl (by simp [h])
        · exact .inr h
    · split at h
      · split at h
        · exact .inl (by simp [h])
        · rcases List.mem_cons.1 h with h | h
          · subst h; exact .inr rfl
          · exact .inl (by simp [h])
      · split at h
        · exact .inl h
        · rcases List.mem_cons.1 h with h | h
          · subst h; exact .inr rfl
          · exact .inl h
theorem cmpK_of_key {a b z : Ln} (h : key a = key b) : cmpK z a = cmpK z b ∧ cmpK a z = cmpK b z := by
  unfold cmpK; rw [h]; exact ⟨rfl, rfl⟩
theorem putL_ord (l : List Ln) (x : Ln) (h : OrdL l) : OrdL (putL l x) := by
  unfold OrdL at *
  induction l with
  | nil =>
    unfold putL
    split
    · exact List.Pairwise.nil
    · exact List.pairwise_singleton _ _
  | cons y r ih =>
    rw [List.pairwise_cons] at h
    unfold putL
    split
    · rename_i hc
      have hc1 : cmpK y x = -1 := by have := cmpK_cmp.rng y x; omega
      refine List.pairwise_cons.2 ⟨fun z hz => ?_, ih h.2⟩
      rcases putL_mem r x z hz with hz | hz
      · exact h.1 z hz
      · rw [(cmpK_of_key hz).1]; exact hc1
    · split
      · rename_i h0
        have hk : key y = key x := cmpKy_zero.1 h0
        split
        · exact h.2
        · refine List.pairwise_cons.2 ⟨fun z hz => ?_, h.2⟩
          have := h.1 z hz
          rw [(cmpK_of_key (z := z) hk).2] at this
          exact this
      · rename_i h1 h0
        split
        · exact List.pairwise_cons.2 h
        · have hxy : cmpK x y = -1 := by have := cmpK_cmp.rng y x; have := cmpK_cmp.anti y x; omega
          refine List.pairwise_cons.2 ⟨fun z hz => ?_, List.pairwise_cons.2 h⟩
          rcases List.mem_cons.1 hz with hz | hz
          · subst hz; exact hxy
          · exact cmpK_cmp.tr _ _ _ hxy (h.1 z hz)
theorem putL_amt (l : List Ln) (x : Ln) (h : ∀ z ∈ l, canB z = true ∧ z.2.2 ≠ []) (hx : canB x = true) : ∀ z ∈ putL l x, canB z = true ∧ z.2.2 ≠ [] := by
  have hne : val x.2.2 ≠ 0 → x.2.2 ≠ [] := fun h e => h (by rw [e]; rfl)
  induction l with
  | nil =>
    intro z hz
    unfold putL at hz
    split at hz
    · cases hz
    · rename_i h0
      rw [List.mem_singleton] at hz; subst hz; exact ⟨hx, hne h0⟩
  | cons y r ih =>
    intro z hz
    unfold putL at hz
    split at hz
    · rcases List.mem_cons.1 hz with hz | hz
      · subst hz; exact h _ (by simp)
      · exact ih (fun u hu => h u (by simp [hu])) z hz
    · split at hz
      · split at hz
        · exact h z (by simp [hz])
        · rename_i h0
          rcases List.mem_cons.1 hz with hz | hz
          · subst hz
            refine ⟨?_, fun e => h0 (txt_nil.1 e)⟩
            unfold canB can
            simp only [val_txt]
            exact decide_eq_true trivial
          · exact h z (by simp [hz])
      · split at hz
        · exact h z hz
        · rename_i h0
          rcases List.mem_cons.1 hz with hz | hz
          · subst hz; exact ⟨hx, hne h0⟩
          · exact h z hz
theorem nrmL_of (l : List Ln) (h : ∀ x ∈ l, canB x = true) : NormOf l (nrmL l) := by
  have aux : ∀ (r : List Ln) (m : List Ln), (∀ x ∈ r, canB x = true) → OrdL m → (∀ z ∈ m, canB z = true ∧ z.2.2 ≠ []) →
      OrdL (r.foldl putL m) ∧ (∀ z ∈ r.foldl putL m, canB z = true ∧ z.2.2 ≠ []) ∧ ∀ k, tot (r.foldl putL m) k = tot m k + tot r k := by
    intro r
    induction r with
    | nil => intro m _ h1 h2; exact ⟨h1, h2, fun k => by rw [tot_nil]; simp⟩
    | cons x r ih =>
      intro m hr h1 h2
      obtain ⟨a, b, c⟩ := ih (putL m x) (fun z hz => hr z (by simp [hz])) (putL_ord m x h1) (putL_amt m x h2 (hr x (by simp)))
      refine ⟨a, b, fun k => ?_⟩
      rw [List.foldl_cons, c k, putL_tot, tot_cons]; omega
  obtain ⟨a, b, c⟩ := aux l [] h List.Pairwise.nil (fun z hz => by cases hz)
  exact ⟨a, b, fun k => by rw [nrmL, c k, tot_nil]; omega⟩
theorem nrmL_self {l : List Ln} (ho : OrdL l) (ha : ∀ x ∈ l, canB x = true ∧ x.2.2 ≠ []) : nrmL l = l :=
  (nrmL_of l fun x hx => (ha x hx).1).uniq ⟨ho, ha, fun _ => rfl⟩
theorem nrmL_tot {l m : List Ln} (hl : ∀ x ∈ l, canB x = true) (hm : ∀ x ∈ m, canB x = true) (h : ∀ k, tot l k = tot m k) : nrmL l = nrmL m := by
  have h1 := nrmL_of l hl
  have h2 := nrmL_of m hm
  exact h1.uniq ⟨h2.ord, h2.amt, fun k => by rw [h2.tot, h k]⟩
/-- lines made out of keys in order -/
def rowsK (l : List Ln) : List Ky → List Ln
  | [] => []
  | k :: r => if txt (tot l k) = [] then rowsK l r else (k.1, k.2, txt (tot l k)) :: rowsK l r
theorem rowsK_snoc (l : List Ln) (a : List Ky) (k : Ky) : rowsK l (a ++ [k]) = rowsK l a ++ if txt (tot l k) = [] then [] else [(k.1, k.2, txt (tot l k))] := by
  induction a with
  | nil => rw [List.nil_append, rowsK, rowsK]; split <;> rfl
  | cons x r ih =>
    rw [List.cons_append, rowsK, rowsK, ih]
    split <;> rfl
theorem rowsK_len (l : List Ln) (a : List Ky) : (rowsK l a).length ≤ a.length := by
  induction a with
  | nil => exact Nat.le_refl _
  | cons x r ih => rw [rowsK]; split <;> simp <;> omega
theorem rowsK_key {l : List Ln} {a : List Ky} {z : Ln} (h : z ∈ rowsK l a) : key z ∈ a ∧ z.2.2 = txt (tot l (key z)) ∧ z.2.2 ≠ [] := by
  induction a with
  | nil => cases h
  | cons x r ih =>
    rw [rowsK] at h
    split at h
    · obtain ⟨p, q⟩ := ih h; exact ⟨by simp [p], q⟩
    · rename_i hne
      rcases List.mem_cons.1 h with h | h
      · subst h; exact ⟨by simp [key], rfl, hne⟩
      · obtain ⟨p, q⟩ := ih h; exact ⟨by simp [p], q⟩
theorem rowsK_of {l : List Ln} {a : List Ky} (ho : a.Pairwise fun p q => cmpKy p q = -1) (hm : ∀ k, k ∈ a ↔ ∃ x ∈ l, key x = k) : NormOf l (rowsK l a) := by
  have hord : ∀ (b : List Ky), b.Pairwise (fun p q => cmpKy p q = -1) → OrdL (rowsK l b) := by
    intro b
    induction b with
    | nil => intro _; exact List.Pairwise.nil
    | cons k r ih =>
      intro hb
      rw [List.pairwise_cons] at hb
      rw [rowsK]
      split
      · exact ih hb.2
      · refine List.pairwise_cons.2 ⟨fun z hz => ?_, ih hb.2⟩
        exact hb.1 _ (rowsK_key hz).1
  have htot : ∀ (b : List Ky), b.Pairwise (fun p q => cmpKy p q = -1) → ∀ k, tot (rowsK l b) k = if k ∈ b then tot l k else 0 := by
    intro b
    induction b with
    | nil => intro _ k; simp [rowsK, tot]
    | cons y r ih =>
      intro hb k
      rw [List.pairwise_cons] at hb
      have hny : y ∉ r := fun h => by have := hb.1 y h; rw [cmpKy_cmp.self] at this; omega
      rw [rowsK]
      by_cases e : k = y
      · subst e
        split
        · rename_i h0
          rw [ih hb.2, if_neg hny, if_pos (by simp), txt_nil.1 h0]
        · rw [tot_cons, if_pos (show key (k.1, k.2, txt (tot l k)) = k from rfl), ih hb.2, if_neg hny, if_pos (List.mem_cons_self)]
          show val (txt _) + 0 = _
          rw [val_txt]; omega
      · have h2 : (k ∈ y :: r) ↔ k ∈ r := by simp [e]
        split
        · rw [ih hb.2]; simp [e]
        · rw [tot_cons, ih hb.2, if_neg (fun h => e (by rw [← h]; rfl))]; simp [e]
  refine ⟨hord a ho, fun x hx => ?_, fun k => ?_⟩
  · obtain ⟨_, h2, h3⟩ := rowsK_key hx
    refine ⟨?_, h3⟩
    unfold canB can
    rw [h2, val_txt]
    exact decide_eq_true rfl
  · rw [htot a ho k]
    split
    · rfl
    · rename_i h
      exact (tot_none fun x hx e => h ((hm k).2 ⟨x, hx, e⟩)).symm
theorem rowsK_nrm {l : List Ln} {a : List Ky} (hl : ∀ x ∈ l, canB x = true) (ho : a.Pairwise fun p q => cmpKy p q = -1) (hm : ∀ k, k ∈ a ↔ ∃ x ∈ l, key x = k) : rowsK l a = nrmL l :=
  (rowsK_of ho hm).uniq (nrmL_of l hl)

/-! sorted lists -/
section
variable {α : Type} {c : α → α → Int}
theorem Cmp.le_tr (h : Cmp c) {a b d : α} (h1 : c a b ≤ 0) (h2 : c b d ≤ 0) : c a d ≤ 0 := by
  rcases h.rng a b with e | e | e
  · rcases h.rng b d with f | f | f
    · have := h.tr _ _ _ e f; omega
    · have := h.eqv' b d a f; omega
    · omega
  · have := h.eqv a b d e; omega
  · omega
def Srt (c : α → α → Int) (l : List α) : Prop := l.Pairwise fun a b => c a b ≤ 0
/-- equals of the list are one -/
def Tight (c : α → α → Int) (l : List α) : Prop := ∀ a ∈ l, ∀ b ∈ l, c a b = 0 → a = b
theorem srt_uniq (h : Cmp c) {a b : List α} (ha : Srt c a) (hb : Srt c b) (hp : a.Perm b) (ht : Tight c a) : a = b := by
  refine List.Perm.eq_of_pairwise (le := fun x y => c x y ≤ 0) (fun x y hx hy h1 h2 => ?_) ha hb hp
  refine ht x hx y (hp.mem_iff.2 hy) ?_
  have := h.anti x y
  omega
/-- what is left of two sorted lists without what they share -/
def mrg (c : α → α → Int) : List α → List α → List α × List α
  | [], b => ([], b)
  | x :: a, [] => (x :: a, [])
  | x :: a, y :: b => if c x y < 0 then (x :: (mrg c a (y :: b)).1, (mrg c a (y :: b)).2)
    else if 0 < c x y then ((mrg c (x :: a) b).1, y :: (mrg c (x :: a) b).2) else mrg c a b
termination_by a b => a.length + b.length
theorem mrg_nil (b : List α) : mrg c [] b = ([], b) := by rw [mrg]
theorem mrg_nil' (a : List α) : mrg c a [] = (a, []) := by cases a <;> rw [mrg]
theorem mrg_cons (x : α) (a : List α) (y : α) (b : List α) : mrg c (x :: a) (y :: b) = if c x y < 0 then (x :: (mrg c a (y :: b)).1, (mrg c a (y :: b)).2)
    else if 0 < c x y then ((mrg c (x :: a) b).1, y :: (mrg c (x :: a) b).2) else mrg c a b := by rw [mrg]
theorem mrg_sub : ∀ (a b : List α), (mrg c a b).1.Sublist a ∧ (mrg c a b).2.Sublist b
  | [], b => by rw [mrg_nil]; exact ⟨List.Sublist.refl _, List.Sublist.refl _⟩
  | x :: a, [] => by rw [mrg_nil']; exact ⟨List.Sublist.refl _, List.Sublist.refl _⟩
  | x :: a, y :: b => by
    rw [mrg_cons]
    split
    · obtain ⟨h1, h2⟩ := mrg_sub a (y :: b)
      exact ⟨h1.cons_cons x, h2⟩
    · split
      · obtain ⟨h1, h2⟩ := mrg_sub (x :: a) b
        exact ⟨h1, h2.cons_cons y⟩
      · obtain ⟨h1, h2⟩ := mrg_sub a b
        exact ⟨h1.cons x, h2.cons y⟩
termination_by a b => a.length + b.length
def cnt (c : α → α → Int) (l : List α) (x : α) : Nat := l.countP fun y => decide (c x y = 0)
theorem cnt_cons (l : List α) (x y : α) : cnt c (y :: l) x = cnt c l x + if c x y = 0 then 1 else 0 := by
  unfold cnt; rw [List.countP_cons]; simp
theorem cnt_perm {l m : List α} (h : l.Perm m) (x : α) : cnt c l x = cnt c m x := h.countP_eq _
theorem cnt_zero {l : List α} {x : α} : cnt c l x = 0 ↔ ∀ y ∈ l, c x y ≠ 0 := by
  unfold cnt; rw [List.countP_eq_zero]; simp
theorem mrg_cnt (h : Cmp c) (z : α) : ∀ (a b : List α), cnt c a z + cnt c (mrg c a b).2 z = cnt c b z + cnt c (mrg c a b).1 z
  | [], b => by rw [mrg_nil]; show cnt c [] z + cnt c b z = cnt c b z + cnt c [] z; omega
  | x :: a, [] => by rw [mrg_nil']; show cnt c (x :: a) z + cnt c [] z = cnt c [] z + cnt c (x :: a) z; omega
  | x :: a, y :: b => by
    rw [mrg_cons]
    split
    · have := mrg_cnt h z a (y :: b)
      simp only [cnt_cons] at this ⊢
      omega
    · split
      · have := mrg_cnt h z (x :: a) b
        simp only [cnt_cons] at this ⊢
        omega
      · rename_i h1 h2
        have hxy : c x y = 0 := by omega
        have := mrg_cnt h z a b
        have he := h.eqv' x y z hxy
        simp only [cnt_cons, he]
        omega
termination_by a b => a.length + b.length
theorem mrg_len : ∀ (a b : List α), (mrg c a b).1.length + b.length = (mrg c a b).2.length + a.length
  | [], b => by rw [mrg_nil]; simp
  | x :: a, [] => by rw [mrg_nil']; simp
  | x :: a, y :: b => by
    rw [mrg_cons]
    split
    · have := mrg_len a (y :: b)
      simp only [List.length_cons] at this ⊢
      omega
    · split
      · have := mrg_len (x :: a) b
        simp only [List.length_cons] at this ⊢
        omega
      · have := mrg_len a b
        simp only [List.length_cons]
        omega
termination_by a b => a.length + b.length
theorem mrg_apart (h : Cmp c) (z : α) : ∀ (a b : List α), Srt c a → Srt c b → cnt c (mrg c a b).1 z = 0 ∨ cnt c (mrg c a b).2 z = 0
  | [], b, _, _ => by rw [mrg_nil]; exact .inl rfl
  | x :: a, [], _, _ => by rw [mrg_nil']; exact .inr rfl
  | x :: a, y :: b, ha, hb => by
    have ha2 := List.pairwise_cons.1 ha
    have hb2 := List.pairwise_cons.1 hb
    rw [mrg_cons]
    split
    · rename_i hlt
      by_cases hz : c z x = 0
      · refine .inr (cnt_zero.2 fun u hu e => ?_)
        have hu2 := (mrg_sub a (y :: b)).2.subset hu
        have hyu : c y u ≤ 0 := by
          rcases List.mem_cons.1 hu2 with e2 | e2
          · subst e2; have := h.self u; omega
          · exact hb2.1 u e2
        have h1 := h.eqv z x u hz
        have h3 := h.le_tr (a := x) (b := y) (d := u) (by omega) hyu
        have h4 : c y x ≤ 0 := by
          have h5 : c u x = 0 := by have := h.anti x u; omega
          have := h.eqv' u x y h5
          omega
        have := h.anti x y
        omega
      · rcases mrg_apart h z a (y :: b) ha2.2 hb with e | e
        · left
          simp only [cnt_cons, e, if_neg hz]
        · exact .inr e
    · split
      · rename_i hlt
        by_cases hz : c z y = 0
        · refine .inl (cnt_zero.2 fun u hu e => ?_)
          have hu2 := (mrg_sub (x :: a) b).1.subset hu
          have hxu : c x u ≤ 0 := by
            rcases List.mem_cons.1 hu2 with e2 | e2
            · subst e2; have := h.self u; omega
            · exact ha2.1 u e2
          have h1 := h.eqv z y u hz
          have h5 : c u y = 0 := by have := h.anti y u; omega
          have := h.eqv' u y x h5
          omega
        · rcases mrg_apart h z (x :: a) b ha hb2.2 with e | e
          · exact .inl e
          · right
            simp only [cnt_cons, e, if_neg hz]
      · exact mrg_apart h z a b ha2.2 hb2.2
termination_by a b => a.length + b.length
theorem mrg_srt {a b : List α} (ha : Srt c a) (hb : Srt c b) : Srt c (mrg c a b).1 ∧ Srt c (mrg c a b).2 :=
  ⟨List.Pairwise.sublist (mrg_sub a b).1 ha, List.Pairwise.sublist (mrg_sub a b).2 hb⟩
theorem mrg_self (h : Cmp c) : ∀ (a : List α), mrg c a a = ([], [])
  | [] => mrg_nil _
  | x :: a => by
    have := h.self x
    rw [mrg_cons, if_neg (by omega), if_neg (by omega), mrg_self h a]
theorem mrg_swap (h : Cmp c) : ∀ (a b : List α), mrg c b a = ((mrg c a b).2, (mrg c a b).1)
  | [], b => by rw [mrg_nil, mrg_nil']
  | x :: a, [] => by rw [mrg_nil, mrg_nil']
  | x :: a, y :: b => by
    have := h.anti x y
    rw [mrg_cons, mrg_cons]
    by_cases h1 : c x y < 0
    · rw [if_pos h1, if_neg (by omega), if_pos (by omega), mrg_swap h a (y :: b)]
    · by_cases h2 : 0 < c x y
      · rw [if_neg h1, if_pos h2, if_pos (by omega), mrg_swap h (x :: a) b]
      · rw [if_neg h1, if_neg h2, if_neg (by omega), if_neg (by omega), mrg_swap h a b]
termination_by a b => a.length + b.length
theorem mrg_map {β : Type} (f : β → α) : ∀ (a b : List β), mrg c (a.map f) (b.map f) = ((mrg (fun x y => c (f x) (f y)) a b).1.map f, (mrg (fun x y => c (f x) (f y)) a b).2.map f)
  | [], b => by rw [List.map_nil, mrg_nil, mrg_nil]; rfl
  | x :: a, [] => by rw [List.map_nil, mrg_nil', mrg_nil']; rfl
  | x :: a, y :: b => by
    rw [List.map_cons, List.map_cons, mrg_cons, mrg_cons]
    have h1 := mrg_map f a (y :: b)
    have h2 := mrg_map f (x :: a) b
    rw [List.map_cons] at h1 h2
    split
    · rw [h1]; rfl
    · split
      · rw [h2]; rfl
      · exact mrg_map f a b
termination_by a b => a.length + b.length
/-- the reference's difference of sorted lists -/
def lss (c : α → α → Int) : List α → List α → List α
  | [], _ => []
  | x :: a, [] => x :: a
  | x :: a, y :: b => if c y x < 0 then lss c (x :: a) b else if c y x = 0 then lss c a b else x :: lss c a (y :: b)
termination_by a b => a.length + b.length
theorem lss_mrg (h : Cmp c) : ∀ (a b : List α), lss c a b = (mrg c a b).1
  | [], b => by rw [lss, mrg_nil]
  | x :: a, [] => by rw [lss, mrg_nil']
  | x :: a, y :: b => by
    have := h.anti x y
    rw [lss, mrg_cons]
    by_cases h1 : c x y < 0
    · rw [if_neg (by omega), if_neg (by omega), if_pos h1, lss_mrg h a (y :: b)]
    · by_cases h2 : 0 < c x y
      · rw [if_pos (by omega), if_neg h1, if_pos h2, lss_mrg h (x :: a) b]
      · rw [if_neg (by omega), if_pos (by omega), if_neg h1, if_neg h2, lss_mrg h a b]
termination_by a b => a.length + b.length

/-! insertion: one element sinks -/
/-- in the list d the places up to i are in order, but for place j, which may lie too far back -/
structure Sink (c : α → α → Int) (x0 : α) (d : List α) (j i : Nat) : Prop where
  rest : ∀ p q, p < q → q ≤ i → p ≠ j → q ≠ j → c (d.getD p x0) (d.getD q x0) ≤ 0
  behind : ∀ q, j < q → q ≤ i → c (d.getD j x0) (d.getD q x0) ≤ 0
/-- the places up to i are in order -/
def Upto (c : α → α → Int) (x0 : α) (d : List α) (i : Nat) : Prop := ∀ p q, p < q → q ≤ i → c (d.getD p x0) (d.getD q x0) ≤ 0
theorem sink_start {x0 : α} {d : List α} {i : Nat} (h : Upto c x0 d i) : Sink c x0 d (i + 1) (i + 1) :=
  ⟨fun p q h1 h2 _ h4 => h p q h1 (by omega), fun q h1 h2 => by omega⟩
theorem sink_zero {x0 : α} {d : List α} {i : Nat} (h : Sink c x0 d 0 i) : Upto c x0 d i := fun p q h1 h2 => by
  by_cases e : p = 0
  · subst e; exact h.behind q h1 h2
  · exact h.rest p q h1 h2 e (by omega)
theorem sink_stop (hc : Cmp c) {x0 : α} {d : List α} {j i : Nat} (h : Sink c x0 d (j + 1) i) (hji : j + 1 ≤ i) (hs : ¬ c (d.getD (j + 1) x0) (d.getD j x0) < 0) : Upto c x0 d i := fun p q h1 h2 => by
  have h3 : c (d.getD j x0) (d.getD (j + 1) x0) ≤ 0 := by have := hc.anti (d.getD (j + 1) x0) (d.getD j x0); omega
  by_cases e : p = j + 1
  · subst e; exact h.behind q h1 h2
  · by_cases e2 : q = j + 1
    · subst e2
      by_cases e3 : p = j
      · subst e3; exact h3
      · exact hc.le_tr (h.rest p j (by omega) (by omega) e (by omega)) h3
    · exact h.rest p q h1 h2 e e2
/-- places j and j + 1 exchanged -/
def exch (x0 : α) (d : List α) (j : Nat) : List α := (d.set (j + 1) (d.getD j x0)).set j (d.getD (j + 1) x0)
theorem exch_len {x0 : α} (d : List α) (j : Nat) : (exch x0 d j).length = d.length := by simp [exch]
theorem exch_get {x0 : α} (d : List α) (j : Nat) (hj : j + 1 < d.length) (p : Nat) : (exch x0 d j).getD p x0 = if p = j then d.getD (j + 1) x0 else if p = j + 1 then d.getD j x0 else d.getD p x0 := by
  unfold exch
  rw [List.getD_eq_getElem?_getD, List.getElem?_set]
  by_cases e : p = j
  · subst e; rw [if_pos rfl, if_pos (by simp; omega), if_pos rfl]; rfl
  · rw [if_neg (fun h => e h.symm), if_neg e, List.getElem?_set]
    by_cases e2 : p = j + 1
    · subst e2; rw [if_pos rfl, if_pos (by omega), if_pos rfl]; rfl
    · rw [if_neg (fun h => e2 h.symm), if_neg e2, List.getD_eq_getElem?_getD]
theorem exch_perm {x0 : α} (d : List α) (j : Nat) (hj : j + 1 < d.length) : (exch x0 d j).Perm d := by
  have e1 : d.getD j x0 = d[j] := by rw [List.getD_eq_getElem?_getD, List.getElem?_eq_getElem (by omega)]; rfl
  have e2 : d.getD (j + 1) x0 = d[j + 1] := by rw [List.getD_eq_getElem?_getD, List.getElem?_eq_getElem hj]; rfl
  unfold exch
  rw [e1, e2]
  exact List.set_set_perm (i := j + 1) (j := j) hj (by omega)
theorem sink_step {x0 : α} {d : List α} {j i : Nat} (h : Sink c x0 d (j + 1) i) (hji : j + 1 ≤ i) (hi : i < d.length) (hs : c (d.getD (j + 1) x0) (d.getD j x0) < 0) : Sink c x0 (exch x0 d j) j i := by
  have hg := exch_get (x0 := x0) d j (by omega)
  refine ⟨fun p q h1 h2 h3 h4 => ?_, fun q h1 h2 => ?_⟩
  · rw [hg p, hg q, if_neg h3, if_neg h4]
    by_cases e : p = j + 1
    · subst e
      rw [if_pos rfl, if_neg (by omega)]
      exact h.rest j q (by omega) h2 (by omega) (by omega)
    · rw [if_neg e]
      by_cases e2 : q = j + 1
      · subst e2
        rw [if_pos rfl]
        exact h.rest p j (by omega) (by omega) e (by omega)
      · rw [if_neg e2]
        exact h.rest p q h1 h2 e e2
  · rw [hg j, hg q, if_pos rfl, if_neg (by omega)]
    by_cases e : q = j + 1
    · subst e; rw [if_pos rfl]; omega
    · rw [if_neg e]
      exact h.behind q (by omega) h2
theorem upto_srt {x0 : α} {d : List α} {i : Nat} (h : Upto c x0 d i) (hi : d.length ≤ i + 1) : Srt c d := by
  refine List.pairwise_iff_getElem.2 fun p q hp hq hpq => ?_
  have := h p q hpq (by omega)
  rw [List.getD_eq_getElem?_getD, List.getD_eq_getElem?_getD, List.getElem?_eq_getElem hp, List.getElem?_eq_getElem hq] at this
  exact this
end
end Num
end Go.Proofs.YtejaehmoplohdaaGreatDoor

/- Contract of slices.SortFunc at keys and key.compare. -/
namespace Go.Proofs.YtejaehmoplohdaaGreatDoor
open Go.RowKit Go.Sort Go.Lib Go.Shelf Num

set_option maxRecDepth 100000 in
set_option maxHeartbeats 2000000 in
theorem kcmp_grow (a b : Ky) (w : World) : Calls Tryz.prog 118 #[.agg (encK a).toArray, .agg (encK b).toArray] w fun e w' => e = .returned (.int .i64 (cmpKy a b)) ∧ ∃ q os', w' = grow (w.drewN q) os' := by
  obtain ⟨a1, a2⟩ := a
  obtain ⟨b1, b2⟩ := b
  have hv := Lib.hid (show cmpKy (a1, a2) (b1, b2) = orI [cmpS a1 b1, cmpS a2 b2] by rw [orI2]; rfl)
  simp only [encK]
  go_enter Tryz.func118, Tryz.ntmps118
  go_wp2_with fail
  have HG := Lib.hid (show ((w.alloc (.cells #[.string ⟨a1.toArray⟩, .string ⟨a2.toArray⟩] 123)).alloc (.cells #[.string ⟨b1.toArray⟩, .string ⟨b2.toArray⟩] 123)) = grow w #[.cells #[.string ⟨a1.toArray⟩, .string ⟨a2.toArray⟩] 123, .cells #[.string ⟨b1.toArray⟩, .string ⟨b2.toArray⟩] 123] from by rw [alloc_eq_grow, alloc_eq_grow, grow_grow]; rfl)
  have x0 : ((w.alloc (.cells #[.string ⟨a1.toArray⟩, .string ⟨a2.toArray⟩] 123)).alloc (.cells #[.string ⟨b1.toArray⟩, .string ⟨b2.toArray⟩] 123)).cell? ⟨w.heap.size, 0, none⟩ = some (.string ⟨a1.toArray⟩) := by go_simp
  have x1 : ((w.alloc (.cells #[.string ⟨a1.toArray⟩, .string ⟨a2.toArray⟩] 123)).alloc (.cells #[.string ⟨b1.toArray⟩, .string ⟨b2.toArray⟩] 123)).cell? ⟨w.heap.size, 1, none⟩ = some (.string ⟨a2.toArray⟩) := by go_simp
  have y0 : ((w.alloc (.cells #[.string ⟨a1.toArray⟩, .string ⟨a2.toArray⟩] 123)).alloc (.cells #[.string ⟨b1.toArray⟩, .string ⟨b2.toArray⟩] 123)).cell? ⟨w.heap.size + 1, 0, none⟩ = some (.string ⟨b1.toArray⟩) := by go_simp
  have y1 : ((w.alloc (.cells #[.string ⟨a1.toArray⟩, .string ⟨a2.toArray⟩] 123)).alloc (.cells #[.string ⟨b1.toArray⟩, .string ⟨b2.toArray⟩] 123)).cell? ⟨w.heap.size + 1, 1, none⟩ = some (.string ⟨b2.toArray⟩) := by go_simp
  generalize ((w.alloc (.cells #[.string ⟨a1.toArray⟩, .string ⟨a2.toArray⟩] 123)).alloc (.cells #[.string ⟨b1.toArray⟩, .string ⟨b2.toArray⟩] 123)) = W at *
  have ne0 := World.new_ne W ⟨w.heap.size, 0, none⟩ x0
  have ne1 := World.new_ne W ⟨w.heap.size, 1, none⟩ x1
  have ne2 := World.new_ne W ⟨w.heap.size + 1, 0, none⟩ y0
  have ne3 := World.new_ne W ⟨w.heap.size + 1, 1, none⟩ y1
  go_region_held3 (fun w' => w'.cell? ⟨w.heap.size, 0, none⟩ = some (.string ⟨a1.toArray⟩) ∧ w'.cell? ⟨w.heap.size, 1, none⟩ = some (.string ⟨a2.toArray⟩) ∧ w'.cell? ⟨w.heap.size + 1, 0, none⟩ = some (.string ⟨b1.toArray⟩) ∧ w'.cell? ⟨w.heap.size + 1, 1, none⟩ = some (.string ⟨b2.toArray⟩)) (go_keep)
    (first
      | (go_at_call 158; refine (cmpS_any _ _ _).mono ?_; rintro e w' ⟨rfl, rfl⟩)
      | (go_at_call 157; refine (Or_any _ _ _ [cmpS a1 b1, cmpS a2 b2] _ (ints2d _ _ _)).mono ?_; rintro e w' ⟨rfl, rfl⟩))
  go_wp2_with fail
  go_ret
  refine ⟨by rw [hv.out]; rfl, 1, #[.cells #[.string ⟨a1.toArray⟩, .string ⟨a2.toArray⟩] 123, .cells #[.string ⟨b1.toArray⟩, .string ⟨b2.toArray⟩] 123] ++ #[.cells #[.int .i64 (cmpS a1 b1), .int .i64 (cmpS a2 b2)] 3], ?_⟩
  rw [HG.out, alloc_eq_grow, grow_grow]
  rfl
theorem cmpLaysK (blk off size : Nat) (w : World) : CmpLays Tryz.prog 118 #[] encK 2 cmpKy blk off size w :=
  fun _ _ _ _ x y => kcmp_grow x y _
theorem lt_of_K (x y : Ky) : ltOf cmpKy x y = decide (cmpKy x y < 0) := rfl
theorem swoK : SWO (ltOf cmpKy) where
  irrefl x := by rw [lt_of_K, cmpKy_cmp.self]; rfl
  trans x y z h1 h2 := by
    rw [lt_of_K, decide_eq_true_eq] at *
    have r1 := cmpKy_cmp.rng x y
    have r2 := cmpKy_cmp.rng y z
    have := cmpKy_cmp.tr x y z (by omega) (by omega)
    omega
  ntrans x y z h1 h2 := by
    rw [lt_of_K, decide_eq_false_iff_not] at *
    have a1 := cmpKy_cmp.anti x y
    have a2 := cmpKy_cmp.anti y z
    have a3 := cmpKy_cmp.anti x z
    have := cmpKy_cmp.le_tr (a := z) (b := y) (d := x) (by omega) (by omega)
    omega
theorem totK (x y : Ky) (h1 : ltOf cmpKy x y = false) (h2 : ltOf cmpKy y x = false) : x = y := by
  rw [lt_of_K, decide_eq_false_iff_not] at *
  have := cmpKy_cmp.anti x y
  exact cmpKy_zero.1 (by omega)
def SortKP (B : Nat) (w : World) (v : Value) (l : List Ky) (e : Ending) (w' : World) : Prop :=
  e = .returned (.tuple #[]) ∧ ∃ m : List Ky, m.Perm l ∧ Srt cmpKy m ∧ rowK.Own B w' v m ∧ Below B w w'
theorem sortK_any (B : Nat) (v : Value) (l : List Ky) (w : World) (h : rowK.Own B w v l) (h1 : l.length ≤ 10000) (hB : B ≤ w.heap.size) :
    Calls Tryz.prog 160 #[v, .func (.func 118) #[] #[]] w (SortKP B w v l) := by
  by_cases h0 : 0 < l.length
  case neg =>
    have hl : l = [] := List.eq_nil_of_length_eq_zero (by omega)
    subst hl
    obtain ⟨A, c, rfl⟩ := h.slice
    have hc := AnyF.slices_SortFunc_none Tryz.laysSortK A c (.func (.func 118) #[] #[]) w
    refine Calls.mono (show Calls Tryz.prog 160 #[.slice A 0 c, .func (.func 118) #[] #[]] w _ from hc) fun e w' ⟨he, hw⟩ => ?_
    subst hw
    exact ⟨he, [], List.Perm.refl _, List.Pairwise.nil, h, Below.refl _ _⟩
  obtain ⟨g, cap, rfl, hB, hg, hH⟩ := own_holds encK 2 (fun _ => rfl) h h0
  have eg : ∀ args w, (callFunc 118 args).run Tryz.prog w = .ok (.enter 118 args) w := enters_of Tryz.func118 (by kernel_rfl) rfl
  have hc := AnyQ.slices_SortFunc_total Tryz.laysSortK 2 Tryz.isAgg123 Tryz.sizeOf123 encK (fun _ => rfl) (fun x v hv => rowK_ok.h1 x v hv) cmpKy swoK 118 #[] g 0 cap l.toArray w eg (cmpLaysK g 0 _ w) hH hg (by simp; omega) totK
  refine Calls.mono (show Calls Tryz.prog 160 #[.slice (some ⟨g, 0, none⟩) l.length cap, .func (.func 118) #[] #[]] w _ from hc) fun e w' ⟨he, n, os, hw⟩ => ?_
  have hp : (l.mergeSort fun x y => !(ltOf cmpKy) y x).Perm l := List.mergeSort_perm _ _
  obtain ⟨p1, p2⟩ := own_put encK 2 (fun _ => rfl) (n := n) (m := l.mergeSort fun x y => !(ltOf cmpKy) y x) h hp.length_eq h0 os
  have e : grow (putRowK encK 2 (Sort.ahead w n) g 0 (l.mergeSort fun x y => !(ltOf cmpKy) y x).toArray) os = w' := by
    rw [hw]; rfl
  rw [e] at p1 p2
  refine ⟨he, _, hp, ?_, p1, p2⟩
  have hs := List.pairwise_mergeSort (le := fun x y => !(ltOf cmpKy) y x) (fun a b c h1 h2 => by
    rw [lt_of_K, Bool.not_eq_true', decide_eq_false_iff_not] at *
    have a1 := cmpKy_cmp.anti a b
    have a2 := cmpKy_cmp.anti b c
    have a3 := cmpKy_cmp.anti a c
    have := cmpKy_cmp.le_tr (a := a) (b := b) (d := c) (by omega) (by omega)
    omega) (fun a b => by
    rw [lt_of_K, lt_of_K, Bool.or_eq_true, Bool.not_eq_true', Bool.not_eq_true', decide_eq_false_iff_not, decide_eq_false_iff_not]
    have a1 := cmpKy_cmp.anti a b
    omega) l
  refine hs.imp fun {a b} hab => ?_
  rw [lt_of_K, Bool.not_eq_true', decide_eq_false_iff_not] at hab
  have a1 := cmpKy_cmp.anti a b
  omega
end Go.Proofs.YtejaehmoplohdaaGreatDoor

/- Contract of slices.SortedFunc at the keys of Normal's map. -/
namespace Go.Proofs.YtejaehmoplohdaaGreatDoor
open Go.RowKit Go.Maps Num

theorem KeysD.perm {D : DataW Nat} {ss m : List Ky} (h : KeysD D ss) (hp : m.Perm ss) : KeysD D m :=
  ⟨((hp.map kb).nodup_iff).2 h.1, fun k => ((hp.map kb).mem_iff).trans (h.2.1 k), by rw [hp.length_eq]; exact h.2.2.1, fun q hq => h.2.2.2 q (hp.mem_iff.1 hq)⟩
def SortedP (D : DataW Nat) (w : World) (e : Ending) (w' : World) : Prop := ∃ v ss, e = .returned v ∧ KeysD D ss ∧ Srt cmpKy ss ∧ rowK.Own w.heap.size w' v ss ∧ Below w.heap.size w w'
set_option maxRecDepth 100000 in
theorem SortedK_any (bx b nn : Nat) (D : DataW Nat) (w : World) (hbx : bx < w.heap.size) (hm : w.cell? ⟨bx, 0, none⟩ = some (.map (some b))) (hown : w.ownsMap Tryz.prog 123 (plainElem Tryz.prog 25) b nn D) (hn : Maps.size D ≤ 10000) :
    Calls Tryz.prog 119 #[.func (.func 161) #[] #[.pointer (some ⟨bx, 0, none⟩)], .func (.func 118) #[] #[]] w (SortedP D w) := by
  have hc := (callsIn_wide (n := 6)).1 (collect_in 6 (by omega) 161 #[.pointer (some ⟨bx, 0, none⟩)] (KeysD D) (Maps.size D) hn w (enters_of Tryz.func161 (by kernel_rfl) rfl) (keys_stops (6 - 1 - 1) (by omega) bx b nn D w hbx hm hown) (fun ss h => h.2.2.1))
  have HC := Lib.hid hc
  have HP := Lib.hid (show ∀ v ss W, KeysD D ss → Srt cmpKy ss → rowK.Own w.heap.size W v ss → Below w.heap.size w W → SortedP D w (.returned v) W from fun v ss W h1 h2 h3 h4 => ⟨v, ss, rfl, h1, h2, h3, h4⟩)
  clear hc hm hown
  generalize SortedP D w = Post at *
  go_enter Tryz.func119, Tryz.ntmps119
  go_wp2_with fail
  refine HC.out.mono ?_
  rintro e w1 ⟨v, ss, rfl, hk, ho, hb⟩
  have HK := Lib.hid hk
  have HB := Lib.hid hb
  have hs := Lib.hid (sortK_any w.heap.size v ss w1 ho (Nat.le_trans hk.2.2.1 hn) hb.size)
  clear hk ho hb HC
  go_wp2_with fail
  refine hs.out.mono ?_
  rintro e w2 ⟨rfl, m, hp, hsrt, ho2, hb2⟩
  have H2 := Lib.hid (And.intro hp (And.intro hsrt (And.intro ho2 hb2)))
  clear hp hsrt ho2 hb2 hs
  go_wp2_with fail
  exact HP.out v m w2 (HK.out.perm H2.out.1) H2.out.2.1 H2.out.2.2.1 (HB.out.trans H2.out.2.2.2)
end Go.Proofs.YtejaehmoplohdaaGreatDoor

/- What entry.Normal's loops keep, plain. -/
namespace Go.Proofs.YtejaehmoplohdaaGreatDoor
open Go.RowKit Go.Maps Num

/-- what is wrong with the fields of lines -/
def fldI : List Ln → Int
  | [] => 0
  | x :: r => if lineI x ≠ 0 then lineI x else fldI r
theorem fldI_cons (x : Ln) (r : List Ln) : fldI (x :: r) = if lineI x ≠ 0 then lineI x else fldI r := rfl
theorem fldI_zero {l : List Ln} (h : fldI l = 0) : ∀ x ∈ l, lineI x = 0 := by
  induction l with
  | nil => intro x hx; cases hx
  | cons y r ih =>
    rw [fldI_cons] at h
    split at h
    · omega
    · rename_i h0
      intro x hx
      rcases List.mem_cons.1 hx with e | e
      · subst e; omega
      · exact ih h x e
theorem lineI_can {x : Ln} (h : lineI x = 0) : canB x = true := by
  unfold lineI at h
  split at h
  · split at h
    · unfold chkI at h
      split at h
      · rename_i h0; unfold canB; exact decide_eq_true h0
      · omega
    · omega
  · omega
/-- the code that Normal gives back -/
def nrmI (d : Int) (c : List UInt8) (l : List Ln) : Int :=
  if headI d c ≠ 0 then headI d c else if fldI l ≠ 0 then fldI l else if balB l = false then 14 else if 64 < (nrmL l).length then 4 else 0
def SmK (q : Ky) : Prop := q.1.length ≤ 100000 ∧ q.2.length ≤ 100000
theorem smK_of {x : Ln} (h : Sml x) : SmK (key x) := ⟨Nat.le_trans h.1 (by omega), Nat.le_trans h.2.1 (by omega)⟩
theorem key75q {q : Ky} (h : SmK q) : keyOf Tryz.prog 123 (.agg (encK q).toArray) = some (.string (kb q)) := key75 q.1 q.2 h.1 h.2
theorem kb_injq {p q : Ky} (h1 : SmK p) (h2 : SmK q) (h : kb p = kb q) : p = q := kb_inj h1.1 h1.2 h2.1 h2.2 h
/-- the map of the sums by account and currency, after k lines -/
def NmR (l : List Ln) (bm k : Nat) (W : World) : Prop :=
  ∃ f ks, MapS 123 W bm k f ks ∧ (∀ q, SmK q → f (kb q) = txt (tot (l.take k) q)) ∧ ∀ s, s ∈ ks ↔ ∃ x ∈ l.take k, s = kb (key x)
theorem NmR.zero (l : List Ln) (w : World) : NmR l w.heap.size 0 (w.alloc (.map #[] 0)) :=
  ⟨_, [], MapS.made 123 w, fun q _ => by rw [List.take_zero, tot_nil, txt_zero], fun s => by simp⟩
theorem NmR.kept {l : List Ln} {bm k : Nat} {W W' : World} {row : Option Nat} (h : NmR l bm k W) (hg : W.grownBy W' row) (hne : some bm ≠ row) : NmR l bm k W' := by
  obtain ⟨f, ks, h1, h2, h3⟩ := h
  exact ⟨f, ks, h1.kept hg hne, h2, h3⟩
theorem NmR.below {l : List Ln} {bm k : Nat} {W W' : World} (h : NmR l bm k W) (hb : Below W.heap.size W W') : NmR l bm k W' := h.kept (grown_of_below hb) (by simp)
theorem NmR.lt {l : List Ln} {bm k : Nat} {W : World} (h : NmR l bm k W) : bm < W.heap.size := by
  obtain ⟨f, ks, h1, _⟩ := h
  exact h1.lt
theorem NmR.look {l : List Ln} {bm k : Nat} {W : World} (h : NmR l bm k W) (a c : List UInt8) (hq : SmK (a, c)) : (Instr.lookup 120 (.map (some bm)) (.agg #[.string ⟨a.toArray⟩, .string ⟨c.toArray⟩]) false).run Tryz.prog W = .ok (.string ⟨(txt (tot (l.take k) (a, c))).toArray⟩) W := by
  obtain ⟨f, ks, h1, h2, h3⟩ := h
  have := h1.look keyed75 Tryz.underlying120 (key75q hq)
  rw [h2 _ hq] at this
  exact this
theorem NmR.put {l : List Ln} {bm k : Nat} {W : World} (h : NmR l bm k W) (a c m : List UInt8) (hq : SmK (a, c)) (hk : k < 10000) (htk : l.take (k + 1) = l.take k ++ [(a, c, m)]) (_hsm : ∀ x ∈ l, Sml x) (hv : (txt (val (txt (tot (l.take k) (a, c))) + val m)).length ≤ 100000) :
    ∃ W', (Instr.mapUpdate 120 (.map (some bm)) (.agg #[.string ⟨a.toArray⟩, .string ⟨c.toArray⟩]) (.string ⟨(txt (val (txt (tot (l.take k) (a, c))) + val m)).toArray⟩)).run Tryz.prog W = .ok () W' ∧ NmR l bm (k + 1) W' ∧ W.grownBy W' (some bm) := by
  obtain ⟨f, ks, h1, h2, h3⟩ := h
  obtain ⟨W', hrun, hm, hg⟩ := h1.put keyed75 Tryz.underlying120 (by omega) (key75q hq) hv
  refine ⟨W', hrun, ⟨_, _, hm, fun q hq2 => ?_, fun s => ?_⟩, hg⟩
  · by_cases e : kb q = kb (a, c)
    · have e2 := kb_injq hq2 hq e
      subst e2
      rw [if_pos rfl, val_txt, htk, tot_snoc, if_pos (show key (a, c, m) = (a, c) from rfl)]
    · rw [if_neg e, h2 q hq2, htk, tot_snoc, if_neg (fun e2 => e (by rw [← e2]; rfl))]
      simp
  · rw [List.mem_cons, h3, htk]
    constructor
    · rintro (rfl | ⟨x, hx, rfl⟩)
      · exact ⟨_, List.mem_append_right _ (List.mem_singleton.2 rfl), rfl⟩
      · exact ⟨x, List.mem_append_left _ hx, rfl⟩
    · rintro ⟨x, hx, rfl⟩
      rcases List.mem_append.1 hx with h | h
      · exact .inr ⟨x, h, rfl⟩
      · rw [List.mem_singleton.1 h]; exact .inl rfl
/-- the sorted keys are the lines' keys, each once -/
theorem keys_of {l : List Ln} (hsm : ∀ x ∈ l, Sml x) {D : DataW Nat} {ks : List (List UInt8)} (hks : ∀ s, s ∈ ks ↔ ∃ x ∈ l, s = kb (key x)) (hD : ∀ k, has D (.string k) = true ↔ k ∈ ks) {m : List Ky} (hm : KeysD D m) (hs : Srt cmpKy m) :
    m.Pairwise (fun p q => cmpKy p q = -1) ∧ (∀ k, k ∈ m ↔ ∃ x ∈ l, key x = k) ∧ ∀ q ∈ m, SmK q := by
  have h1 : ∀ q ∈ m, ∃ x ∈ l, key x = q := fun q hq => by
    obtain ⟨x, hx, e⟩ := (hks _).1 ((hD _).1 ((hm.2.1 _).1 (List.mem_map_of_mem hq)))
    refine ⟨x, hx, ?_⟩
    have h2 := hm.2.2.2 q hq
    have h3 := key75q (smK_of (hsm x hx))
    rw [e] at h2
    have := keyed75.inj h2 h3
    exact (encK_inj this).symm
  have hnd : m.Nodup := by
    have := hm.1
    exact List.Pairwise.of_map kb (fun a b h e => h (by rw [e])) this
  refine ⟨?_, fun k => ⟨h1 k, ?_⟩, fun q hq => ?_⟩
  · have := List.Pairwise.and hs hnd
    refine this.imp fun {p q} hpq => ?_
    have r := cmpKy_cmp.rng p q
    have : cmpKy p q ≠ 0 := fun e => hpq.2 (cmpKy_zero.1 e)
    omega
  · rintro ⟨x, hx, rfl⟩
    have h2 := (hm.2.1 (kb (key x))).2 ((hD _).2 ((hks _).2 ⟨x, hx, rfl⟩))
    obtain ⟨q, hq, e⟩ := List.mem_map.1 h2
    obtain ⟨y, hy, rfl⟩ := h1 q hq
    rw [kb_injq (smK_of (hsm y hy)) (smK_of (hsm x hx)) e] at hq
    exact hq
  · obtain ⟨x, hx, rfl⟩ := h1 q hq
    exact smK_of (hsm x hx)
def big60 : Nat := 10 ^ 60
theorem tot_bd60 (l : List Ln) (h : ∀ x ∈ l, x.2.2.length ≤ 60) (k : Ky) : (tot l k).natAbs ≤ l.length * big60 := by
  induction l with
  | nil => simp [tot]
  | cons x r ih =>
    have h1 : (val x.2.2).natAbs < big60 := Nat.lt_of_lt_of_le (val_bd _) (Nat.pow_le_pow_right (by omega) (h x (by simp)))
    have h2 := ih fun y hy => h y (List.mem_cons_of_mem _ hy)
    rw [tot_cons, List.length_cons, Nat.add_mul]
    split <;> omega
theorem bd60_txt {v : Int} {n : Nat} (h : v.natAbs ≤ n * big60) (hn : n ≤ 1000) : (txt v).length ≤ 70 := by
  have h1 : n * big60 ≤ 1000 * big60 := Nat.mul_le_mul_right _ hn
  have h2 : 1000 * big60 < 10 ^ 69 := by decide
  have := txt_bd (k := 69) (show v.natAbs < 10 ^ 69 by omega)
  omega
theorem rowsK_sml {l : List Ln} (hl : l.length ≤ 1000) (hsm : ∀ x ∈ l, Sml x) (h60 : ∀ x ∈ l, x.2.2.length ≤ 60) {m : List Ky} (hm : ∀ q ∈ m, ∃ x ∈ l, key x = q) : ∀ z ∈ rowsK l m, Sml z := by
  intro z hz
  obtain ⟨h1, h2, _⟩ := rowsK_key hz
  obtain ⟨x, hx, e⟩ := hm _ h1
  have h3 := hsm x hx
  simp only [key, Prod.mk.injEq] at e
  refine ⟨by rw [← e.1]; exact h3.1, by rw [← e.2]; exact h3.2.1, ?_⟩
  rw [h2]
  have := bd60_txt (tot_bd60 l h60 (key z)) hl
  omega
theorem take_ky (m : List Ky) (k : Nat) (h : k < m.length) : m.take (k + 1) = m.take k ++ [m.getD k ([], [])] := by
  rw [List.take_succ_eq_append_getElem h, List.getD_eq_getElem?_getD, List.getElem?_eq_getElem h]; rfl
theorem txt_nrmI {d : Int} {c : List UInt8} {l : List Ln} : nrmI d c l = if headI d c ≠ 0 then headI d c else if fldI l ≠ 0 then fldI l else if balB l = false then 14 else if 64 < (nrmL l).length then 4 else 0 := rfl
end Go.Proofs.YtejaehmoplohdaaGreatDoor

/- The ledger's sums: contract of add. -/
namespace Go.Proofs.YtejaehmoplohdaaGreatDoor
open Go.RowKit Go.Maps Num

theorem bd_txt4 {v : Int} {n : Nat} (h : v.natAbs ≤ n * big) (hn : n ≤ 10000) : (txt v).length ≤ 110 := by
  have h1 : n * big ≤ 10000 * big := Nat.mul_le_mul_right _ hn
  have h2 : 10000 * big < 10 ^ 109 := by decide
  have := txt_bd (k := 109) (show v.natAbs < 10 ^ 109 by omega)
  omega
/-- the map holds the sums of the lines L -/
def SumM (L : List Ln) (bm : Nat) (W : World) : Prop := NmR L bm L.length W
theorem NmR.ext {l l' : List Ln} {bm k : Nat} {W : World} (h : NmR l bm k W) (e : l'.take k = l.take k) : NmR l' bm k W := by
  obtain ⟨f, ks, h1, h2, h3⟩ := h
  exact ⟨f, ks, h1, fun q hq => by rw [e]; exact h2 q hq, fun s => by rw [e]; exact h3 s⟩
theorem SumM.zero (w : World) : SumM [] w.heap.size (w.alloc (.map #[] 0)) := NmR.zero [] w
theorem SumM.below {L : List Ln} {bm : Nat} {W W' : World} (h : SumM L bm W) (hb : Below W.heap.size W W') : SumM L bm W' := NmR.below h hb
theorem SumM.kept {L : List Ln} {bm : Nat} {W W' : World} {row : Option Nat} (h : SumM L bm W) (hg : W.grownBy W' row) (hne : some bm ≠ row) : SumM L bm W' := NmR.kept h hg hne
theorem take_all (L : List Ln) (x : Ln) : (L ++ [x]).take L.length = L := by rw [List.take_append_of_le_length (Nat.le_refl _), List.take_length]
set_option maxRecDepth 100000 in
set_option maxHeartbeats 4000000 in
theorem add_s (bm : Nat) (L : List Ln) (a c m : List UInt8) (w : World) (h : SumM L bm w) (hsm : ∀ x ∈ L ++ [(a, c, m)], Sml x) (hL : L.length < 10000) (ht : Tab w) :
    Calls Tryz.prog 87 #[.map (some bm), .agg #[.string ⟨a.toArray⟩, .string ⟨c.toArray⟩], .string ⟨m.toArray⟩] w fun e w' => e = .returned (.tuple #[]) ∧ SumM (L ++ [(a, c, m)]) bm w' ∧ w.grownBy w' (some bm) := by
  have hx : Sml (a, c, m) := hsm _ (by simp)
  have hq : SmK (a, c) := smK_of hx
  have hbm := NmR.lt h
  have h' : NmR (L ++ [(a, c, m)]) bm L.length w := NmR.ext h (by rw [take_all, List.take_length])
  have hl1 := bd_txt4 (tot_bd L (fun x hx => hsm x (List.mem_append_left _ hx)) (a, c)) (by omega)
  have hl2 : (txt (val (txt (tot L (a, c))) + val m)).length ≤ 100000 := by
    have e := tot_bd (L ++ [(a, c, m)]) hsm (a, c)
    rw [tot_snoc, if_pos (show key (a, c, m) = (a, c) from rfl), List.length_append, List.length_singleton] at e
    rw [val_txt]
    exact Nat.le_trans (bd_txt4 e (by omega)) (by omega)
  have htk : (L ++ [(a, c, m)]).take (L.length + 1) = (L ++ [(a, c, m)]).take L.length ++ [(a, c, m)] := by
    rw [take_all, List.take_of_length_le (by rw [List.length_append, List.length_singleton]; exact Nat.le_refl _)]
  have hB0 : Below w.heap.size w (w.alloc (.cells #[.string ⟨a.toArray⟩, .string ⟨c.toArray⟩] 123)) := (Below.refl _ w).alloc (Nat.le_refl _) _
  have hK := Lib.hid (fun W (hb : Below w.heap.size w W) => h'.below hb)
  have hlk := (h'.below (hB0.trans ((Below.drew (Below.refl _ (w.alloc (.cells #[.string ⟨a.toArray⟩, .string ⟨c.toArray⟩] 123)))).mono hB0.size))).look a c hq
  rw [take_all] at hlk
  have x0 : (w.alloc (.cells #[.string ⟨a.toArray⟩, .string ⟨c.toArray⟩] 123)).cell? ⟨w.heap.size, 0, none⟩ = some (.string ⟨a.toArray⟩) := by go_simp
  have x1 : (w.alloc (.cells #[.string ⟨a.toArray⟩, .string ⟨c.toArray⟩] 123)).cell? ⟨w.heap.size, 1, none⟩ = some (.string ⟨c.toArray⟩) := by go_simp
  have HP := Lib.hid (fun W (h1 : NmR (L ++ [(a, c, m)]) bm (L.length + 1) W) (h2 : w.grownBy W (some bm)) => (show (Ending.returned (.tuple #[]) = Ending.returned (.tuple #[]) ∧ SumM (L ++ [(a, c, m)]) bm W ∧ w.grownBy W (some bm)) from ⟨rfl, by unfold SumM; rw [List.length_append, List.length_singleton]; exact h1, h2⟩))
  have HT := Lib.hid ht
  have HL1 := Lib.hid hl1
  have HL2 := Lib.hid hl2
  have HM := Lib.hid hx.2.2
  have HSM := Lib.hid hsm
  have HTK := Lib.hid htk
  have HQ := Lib.hid hq
  have B0 := Lib.hid hB0
  have hsz : (w.alloc (.cells #[.string ⟨a.toArray⟩, .string ⟨c.toArray⟩] 123)).heap.size = w.heap.size + 1 := by simp
  clear h h' hx hq hl1 hl2 hsm ht hB0 htk
  go_enter Tryz.func87, Tryz.ntmps87
  go_upto_region 1 with fail
  generalize w.alloc (.cells #[.string ⟨a.toArray⟩, .string ⟨c.toArray⟩] 123) = w1 at *
  have lw : w.heap.size < w1.heap.size := by omega
  have hne : some w.heap.size ≠ some bm := fun e => by have := Option.some.inj e; omega
  have HX := Lib.hid (And.intro x0 x1)
  have HBr := Lib.hid (Below.refl w1.heap.size w1)
  have HS1 := Lib.hid hsz
  clear hsz
  go_region_held3 (fun w' => w'.cell? ⟨w.heap.size, 0, none⟩ = some (.string ⟨a.toArray⟩) ∧ w'.cell? ⟨w.heap.size, 1, none⟩ = some (.string ⟨c.toArray⟩))
    (first | exact ⟨e0, e1⟩ | exact ⟨d0, d1⟩ | exact ⟨x0, x1⟩ | go_keep)
    (first
      | (go_at_call 27; refine (Add_any ⟨(txt (tot L (a, c))).toArray⟩ ⟨m.toArray⟩ _ (by show (txt (tot L (a, c))).toArray.size ≤ 120; rw [List.size_toArray]; exact Nat.le_trans HL1.out (by decide)) (by show m.toArray.size ≤ 120; rw [List.size_toArray]; exact Nat.le_trans HM.out (by decide)) (HT.out.below (B0.out.trans (((HBr.out.trans ((Below.drew (Below.refl _ _)).mono (Nat.le_refl _))).mono (by rw [HS1.out]; omega)))))).mono ?_; rintro e w' ⟨rfl, hb⟩; have HBr := Lib.hid (below_next HBr.out hb ⟨rfl, rfl, rfl, rfl⟩); have d0 := (HBr.out.cell (p := ⟨w.heap.size, 0, none⟩) lw).trans HX.out.1; have d1 := (HBr.out.cell (p := ⟨w.heap.size, 1, none⟩) lw).trans HX.out.2; clear hb; obtain ⟨wU, hrU, hnU, hgU⟩ := (hK.out w' (B0.out.trans (HBr.out.mono (by rw [HS1.out]; omega)))).put a c m HQ.out (by omega) HTK.out HSM.out (by rw [take_all]; exact HL2.out); rw [take_all] at hrU; have HNU := Lib.hid hnU; have HGU := Lib.hid hgU; have e0 := hgU.cell (a := ⟨w.heap.size, 0, none⟩) d0 hne; have e1 := hgU.cell (a := ⟨w.heap.size, 1, none⟩) d1 hne; clear hnU hgU))
  have hgr := Lib.hid (grown_tr (grown_below (grown_refl w (some bm)) (B0.out.trans (HBr.out.mono (by rw [HS1.out]; omega)))) HGU.out)
  go_wp2_with fail
  go_end0
  exact ⟨rfl, (HP.out _ HNU.out hgr.out).2⟩
end Go.Proofs.YtejaehmoplohdaaGreatDoor

/- Contracts of the reference's Code (05) and Cause (printed by gen_refa.py). -/
namespace Go.Proofs.YtejaehmoplohdaaGreatDoor
open Go.RowKit Go.Shelf Num

set_option maxHeartbeats 4000000 in
set_option maxRecDepth 100000 in
theorem rcur_any (s : ByteArray) (w : World) (hs : s.size ≤ maxLen) : Calls Tryz.prog 68 #[.string s] w fun e w' => e = .returned (.bool (curB s.data.toList)) ∧ w = w' := by
  unfold maxLen at hs
  have hl : s.data.toList.length = s.size := rfl
  have hnb := Lib.hid (show curB s.data.toList = (s.data.toList.all upC && decide (s.size = 3)) from rfl)
  have HL := Lib.hid hl
  clear hl
  have hget : ∀ k (h : k < s.size), s.data.toList.getD k 0 = s[k] := fun k h => by rw [List.getD_eq_getElem?_getD, List.getElem?_eq_getElem (by simpa using h)]; rfl
  have HG := Lib.hid hget
  clear hget
  go_enter Tryz.func68, Tryz.ntmps68
  go_wp2_with fail
  go_loop [3] (fun i => ∃ k : Nat, k ≤ s.size ∧ i = .int .i64 (k : Int) ∧ Hid ((s.data.toList.take k).all upC = true)) (fun i => s.size - (intOf i).toNat)
  case atStart => exact ⟨0, by omega, rfl, rfl⟩
  case round =>
    obtain ⟨k, hk, rfl, HA⟩ := hrel
    by_cases hlt : k < s.size
    · have hal := Lib.hid (allp_take_succ upC s.data.toList k (by rw [HL.out]; exact hlt))
      have hno := Lib.hid (fun h => notp_all (p := upC) (l := s.data.toList) (k := k) (by rw [HL.out]; exact hlt) h)
      have hnc := Lib.hid (show upC (s.data.toList.getD k 0) = decide (65 ≤ (s[k]).toNat ∧ (s[k]).toNat ≤ 90) by rw [HG.out k hlt]; rfl)
      have hzz := zones3 s[k].toNat
      generalize upC (s.data.toList.getD k 0) = nc at *
      have hki : (k : Int) < (s.size : Int) := by omega
      rcases hzz with hz | hz | hz
      · have t1 : decide ((s[k].toNat : Int) < 65) = true := by rw [decide_eq_true_iff]; omega
        have hncv := Lib.hid (show nc = false by rw [hnc.out, decide_eq_false_iff_not]; omega)
        clear hz
        go_wp2_with fail
        go_ret
        exact ⟨ret_bool (by rw [hnb.out, hno.out hncv.out, Bool.false_and]), rfl⟩
      · have t1 : decide ((s[k].toNat : Int) < 65) = false := by rw [decide_eq_false_iff_not]; omega
        have t2 : decide (90 < (s[k].toNat : Int)) = false := by rw [decide_eq_false_iff_not]; omega
        have hncv := Lib.hid (show nc = true by rw [hnc.out, decide_eq_true_iff]; omega)
        clear hz
        go_wp2_with fail
        go_round
        case rel => exact ⟨k + 1, by omega, by go_num, by show _ = _; rw [hal.out, HA.out, hncv.out]; rfl⟩
        case measure => simp [intOf]; omega
      · have t1 : decide ((s[k].toNat : Int) < 65) = false := by rw [decide_eq_false_iff_not]; omega
        have t2 : decide (90 < (s[k].toNat : Int)) = true := by rw [decide_eq_true_iff]; omega
        have hncv := Lib.hid (show nc = false by rw [hnc.out, decide_eq_false_iff_not]; omega)
        clear hz
        go_wp2_with fail
        go_ret
        exact ⟨ret_bool (by rw [hnb.out, hno.out hncv.out, Bool.false_and]), rfl⟩
    · have hfin := Lib.hid (show s.data.toList.all upC = true by
        have := HA.out
        rwa [List.take_of_length_le (by rw [HL.out]; omega)] at this)
      by_cases h1 : s.size = 3
      · have d1 : ((s.size : Int) == 3) = true := by rw [beq_iff_eq]; omega
        have hv := Lib.hid (show true = curB s.data.toList by rw [hnb.out, hfin.out, decide_eq_true h1]; rfl)
        clear h1
        go_wp2_with fail
        go_ret
        exact ⟨ret_bool hv.out, rfl⟩
      · have d1 : ((s.size : Int) == 3) = false := beq_eq_false_iff_ne.2 (by omega)
        have hv := Lib.hid (show false = curB s.data.toList by rw [hnb.out, decide_eq_false h1]; simp)
        clear h1
        go_wp2_with fail
        go_ret
        exact ⟨ret_bool hv.out, rfl⟩
end Go.Proofs.YtejaehmoplohdaaGreatDoor

/- Contracts of the reference's Segments and Check of accounts (turned from wip/acc RefS, RefC). -/
namespace Go.Proofs.YtejaehmoplohdaaGreatDoor
open Go.RowKit Num

theorem ba_get (c : List UInt8) (n : Nat) (h : n < c.length) : (⟨c.toArray⟩ : ByteArray)[n]'h = c[n] := rfl
set_option maxRecDepth 100000 in
theorem info9 : (Tryz.prog.info? 9).map (fun i => (i.zero, i.size, i.bytes)) = some (some (.string ⟨#[]⟩), 1, 16) := by kernel_rfl
theorem segs_len : ∀ (l : List UInt8), (segs l).length ≤ l.length + 1
  | [] => by simp [segs]
  | c :: r => by
    have ih := segs_len r
    rw [segs]
    split
    · simp; omega
    · split
      · simp
      · rename_i h t e
        rw [e] at ih
        simp at ih ⊢
        omega
def SVs (l : List (List UInt8)) : List Value := l.map fun x => Value.string ⟨x.toArray⟩
/-- v is a slice of strings of the call's own (from block B on), with the strings l. -/
def OwnS (B : Nat) (w : World) (v : Value) (l : List (List UInt8)) : Prop := w.ownsRow B 9 1 v l.length (SVs l)
theorem OwnS.fresh (w : World) : OwnS w.heap.size (w.alloc (.cells #[] 9)) (.slice (some ⟨w.heap.size, 0, none⟩) 0 0) [] :=
  ⟨by simp [SVs], .inr ⟨w.heap.size, 0, #[], rfl, Nat.le_refl _, heap_alloc_new w _, Nat.le_refl _, by unfold maxLen; omega, rfl, rfl⟩⟩
theorem op_append_strs {o : Oper} {a : Act} {K : Act → World → Prop} {Q : Exit → Act → World → Prop} (s x : Operand)
    (ho : o.op = .call { callee := .builtin .append, args := #[s, x], argTypes := #[135, 135] })
    (B : Nat) (v : Value) (ns : List (List UInt8)) (w : World) (zs : List (List UInt8)) (hs : a.eval s = v) (hown : OwnS B w v ns) (hx : a.eval x = .slice (some ⟨w.heap.size, 0, none⟩) zs.length zs.length)
    (hB : B ≤ w.heap.size) (hn : ns.length + zs.length ≤ 8796093022208)
    (h : ∀ v' w', OwnS B w' v' (ns ++ zs) → Below B w w' → K (a.put o.dst v') w') : o.wp Tryz.prog a (w.alloc (.cells ⟨SVs zs⟩ 9)) K Q := by
  obtain ⟨i0, hi, hz0, hz1, hz2⟩ := info_parts info9
  refine wp_append_own _ s x 135 ho B 9 i0 (.string ⟨#[]⟩) 1 16 Tryz.underlying135 hi hz0 hz1 hz2 rfl (by decide) v ns.length (SVs ns) hs (World.ownsRow.alloc hown _) ⟨w.heap.size, 0, none⟩ zs.length zs.length (SVs zs) hx (by simp [SVs]) ?_ ?_ ?_ ?_ ?_ ?_
  · intro j u hu
    have hadd : (⟨w.heap.size, 0, none⟩ : Addr).add j = ⟨w.heap.size, j, none⟩ := by unfold Addr.add; split <;> simp_all
    rw [hadd, cell_of_row _ _ _ _ _ _ (heap_alloc_new w _)]
    simpa using hu
  · intro u hu
    simp only [SVs, List.mem_map] at hu
    obtain ⟨z, _, rfl⟩ := hu
    rfl
  · simp only [maxLen]; omega
  · omega
  · simp; omega
  · intro v' w' h2 h3 _
    refine h v' w' ?_ ?_
    · unfold OwnS
      rw [List.length_append]
      simpa [SVs] using h2
    · have hlt := World.ownsRow.lt hown
      exact ((Below.refl B w).alloc hB _).grown h3 (by simp; omega) (fun k hk => (hlt k hk).1)
theorem wp_append_strs {ops : Array Oper} {rest : List Oper} {o : Oper} {a : Act} {Q : Exit → Act → World → Prop} (hgd : o.guard = none) (s x : Operand)
    (ho : o.op = .call { callee := .builtin .append, args := #[s, x], argTypes := #[135, 135] })
    (B : Nat) (v : Value) (ns : List (List UInt8)) (w : World) (zs : List (List UInt8)) (hs : a.eval s = v) (hown : OwnS B w v ns) (hx : a.eval x = .slice (some ⟨w.heap.size, 0, none⟩) zs.length zs.length)
    (hB : B ≤ w.heap.size) (hn : ns.length + zs.length ≤ 8796093022208)
    (h : ∀ v' w', OwnS B w' v' (ns ++ zs) → Below B w w' → wpList Tryz.prog ops Q rest (a.put o.dst v') w') : wpList Tryz.prog ops Q (o :: rest) a (w.alloc (.cells ⟨SVs zs⟩ 9)) :=
  wpList_plain hgd fun _ hK => op_append_strs s x ho B v ns w zs hs hown hx hB hn fun v' w' h2 h3 => hK _ _ (h v' w' h2 h3)
theorem OwnS.cells {B : Nat} {w : World} {v : Value} {l : List (List UInt8)} (h : OwnS B w v l) : ∃ A c, v = .slice A l.length c ∧ l.length ≤ c ∧ c ≤ 9223372036854775807 ∧ (0 < l.length → ∃ g, A = some ⟨g, 0, none⟩ ∧ g < w.heap.size ∧ ∀ k, k < l.length → w.cell? ⟨g, k, none⟩ = some (.string ⟨(l.getD k []).toArray⟩)) := by
  rcases h.2 with ⟨rfl, h0⟩ | ⟨g, cap, cur, rfl, _, hg, hc, hm, hsz, htake⟩
  · exact ⟨none, 0, by rw [h0], by omega, by omega, fun hh => by omega⟩
  · refine ⟨_, _, rfl, hc, by unfold maxLen at hm; omega, fun _ => ⟨g, rfl, ?_, fun k hk => ?_⟩⟩
    · rcases Nat.lt_or_ge g w.heap.size with h' | h'
      · exact h'
      · rw [Array.getElem?_eq_none h'] at hg; cases hg
    · rw [cell_of_row _ _ _ _ _ _ hg]
      have h1 : (cur.toList.take (l.length * 1))[k]? = (SVs l)[k]? := by rw [htake]
      rw [List.getElem?_take, if_pos (by omega)] at h1
      rw [← Array.getElem?_toList, h1]
      simp [SVs, hk]
theorem OwnS.below {B : Nat} {w w' : World} {v : Value} {l : List (List UInt8)} (h : OwnS B w v l) (hb : Below w.heap.size w w') : OwnS B w' v l := by
  rcases h.2 with ⟨rfl, h0⟩ | ⟨g, cap, cur, rfl, hB, hg, hr⟩
  · exact ⟨h.1, .inl ⟨rfl, h0⟩⟩
  · refine ⟨h.1, .inr ⟨g, cap, cur, rfl, hB, ?_, hr⟩⟩
    rw [hb.block]
    · exact hg
    · rcases Nat.lt_or_ge g w.heap.size with h' | h'
      · exact h'
      · rw [Array.getElem?_eq_none h'] at hg; cases hg
theorem ba_eta (b : ByteArray) : (⟨b.data.toList.toArray⟩ : ByteArray) = b := rfl
theorem ext_mid (s : List UInt8) (f k : Nat) : ((⟨s.toArray⟩ : ByteArray).extract f k).data.toList = (s.drop f).take (k - f) := by
  rw [ByteArray.data_extract]
  simp [List.extract_eq_take_drop]
def RetL (l : List (List UInt8)) (w : World) (e : Ending) (w' : World) : Prop := ∃ v, e = .returned v ∧ OwnS w.heap.size w' v l ∧ Below w.heap.size w w'
/-- what is cut so far -/
structure Cut (s : List UInt8) (o : List (List UInt8)) (f k : Nat) : Prop where
  le : f ≤ k
  num : o.length ≤ f
  all : segs s = o ++ segs (s.drop f)
  no : 46 ∉ (s.drop f).take (k - f)
theorem Cut.dot {s : List UInt8} {o : List (List UInt8)} {f k : Nat} (h : Cut s o f k) (hk : k < s.length) (hd : s[k] = 46) : Cut s (o ++ [(s.drop f).take (k - f)]) (k + 1) (k + 1) := by
  have hle := h.le
  refine ⟨Nat.le_refl _, by have := h.num; simp; omega, ?_, by simp⟩
  have e : s.drop f = (s.drop f).take (k - f) ++ 46 :: s.drop (k + 1) := by
    conv => lhs; rw [← List.take_append_drop (k - f) (s.drop f)]
    rw [List.drop_drop, show f + (k - f) = k by omega, List.drop_eq_getElem_cons hk, hd]
  rw [h.all]
  conv => lhs; rw [e]
  rw [segs_split h.no]
  simp
theorem Cut.go {s : List UInt8} {o : List (List UInt8)} {f k : Nat} (h : Cut s o f k) (hk : k < s.length) (hd : s[k] ≠ 46) : Cut s o f (k + 1) := by
  have hle := h.le
  refine ⟨by omega, h.num, h.all, ?_⟩
  rw [show k + 1 - f = (k - f) + 1 by omega, List.take_succ_eq_append_getElem (by simp; omega), List.mem_append]
  rintro (h' | h')
  · exact h.no h'
  · rw [List.mem_singleton, List.getElem_drop] at h'
    simp only [show f + (k - f) = k by omega] at h'
    exact hd h'.symm
theorem Cut.fin {s : List UInt8} {o : List (List UInt8)} {f k : Nat} (h : Cut s o f k) (hk : s.length ≤ k) : segs s = o ++ [s.drop f] := by
  have hno := h.no
  rw [List.take_of_length_le (by simp; omega)] at hno
  rw [h.all, segs_none hno]
set_option maxHeartbeats 1000000 in
set_option maxRecDepth 100000 in
theorem rSegs_any (s : List UInt8) (w : World) (hs : s.length ≤ 4294967296) : Calls Tryz.prog 99 #[.string ⟨s.toArray⟩] w (RetL (segs s) w) := by
  go_enter Tryz.func99, Tryz.ntmps99
  go_wp2_with fail
  go_loopw [3, 4, 5] (fun v g i wr => ∃ (k f : Nat) (o : List (List UInt8)), k ≤ s.length ∧ i = .int .i64 (k : Int) ∧ g = .int .i64 (f : Int) ∧ OwnS w.heap.size wr v o ∧ Hid (Cut s o f k) ∧ Below w.heap.size w wr) (fun _ _ i _ => s.length - (intOf i).toNat)
  case atStart => exact ⟨0, 0, [], by omega, rfl, rfl, OwnS.fresh w, ⟨Nat.le_refl _, Nat.le_refl _, rfl, by simp⟩, (Below.refl _ _).alloc (Nat.le_refl _) _⟩
  case round =>
    obtain ⟨k, f, o, hk, rfl, rfl, hown, hcut, hbw⟩ := hrel
    have hfk := hcut.out.le
    have hof := hcut.out.num
    by_cases hlt : k < s.length
    · by_cases hd : s[k] = 46
      · have q : (((⟨s.toArray⟩ : ByteArray)[k]'hlt).toNat == (46 : Int)) = true := by rw [ba_get, hd]; rfl
        have HC := Lib.hid (hcut.out.dot hlt hd)
        clear hd
        obtain ⟨X, hX⟩ : ∃ X : List UInt8, X = ((⟨s.toArray⟩ : ByteArray).extract f k).data.toList := ⟨_, rfl⟩
        have hx : (⟨s.toArray⟩ : ByteArray).extract f k = ⟨X.toArray⟩ := by rw [hX]
        rw [ext_mid] at hX
        rw [← hX] at HC
        clear hX hcut
        have b1 : (f : Int) ≤ (k : Int) := by omega
        have b2 : (k : Int) ≤ (s.length : Int) := by omega
        go_wp2_with (at_builtin; refine wp_append_strs rfl (.tmp 17) (.tmp 22) rfl w.heap.size _ o wr [X] rfl hown rfl hbw.size (by simp; omega) ?_; intro v' w5 hown' hbw'; clear hown hx q b1 b2)
        go_roundw
        case rel =>
          refine ⟨k + 1, k + 1, _, by omega, by go_num, by go_num, hown', ?_, hbw.trans hbw'⟩
          exact HC
        case measure => simp [intOf]; omega
      · have q : (((⟨s.toArray⟩ : ByteArray)[k]'hlt).toNat == (46 : Int)) = false := by
          rw [ba_get]
          exact beq_eq_false_iff_ne.2 (fun e => hd (UInt8.toNat_inj.1 (by rw [show (46 : UInt8).toNat = 46 from rfl]; omega)))
        have HC := Lib.hid (hcut.out.go hlt hd)
        clear hd
        go_wp2_with fail
        go_roundw
        case rel => exact ⟨k + 1, f, o, by omega, by go_num, rfl, hown, HC.out, hbw⟩
        case measure => simp [intOf]; omega
    · have HC := Lib.hid (hcut.out.fin (by omega))
      obtain ⟨X, hX⟩ : ∃ X : List UInt8, X = ((⟨s.toArray⟩ : ByteArray).extract f s.length).data.toList := ⟨_, rfl⟩
      have hx : (⟨s.toArray⟩ : ByteArray).extract f s.length = ⟨X.toArray⟩ := by rw [hX]
      rw [ext_mid, List.take_of_length_le (by simp)] at hX
      rw [← hX] at HC
      have b1 : (f : Int) ≤ (s.length : Int) := by omega
      clear hX hcut
      go_wp2_with (at_builtin; refine wp_append_strs rfl (.tmp 26) (.tmp 30) rfl w.heap.size _ o wr [X] rfl hown rfl hbw.size (by simp; omega) ?_; intro v' w5 hown' hbw'; clear hown hx b1)
      go_ret
      refine ⟨_, rfl, ?_, hbw.trans hbw'⟩
      rw [HC.out]
      exact hown'
theorem segs_mem : ∀ (l x : List UInt8), x ∈ segs l → x.length ≤ l.length
  | [], x, h => by simp [segs] at h; simp [h]
  | c :: r, x, h => by
    rw [segs] at h
    split at h
    · rcases List.mem_cons.1 h with rfl | h
      · simp
      · have := segs_mem r x h; simp; omega
    · split at h
      · simp at h; simp [h]
      · rename_i a t e
        rcases List.mem_cons.1 h with rfl | h
        · have := segs_mem r a (by rw [e]; simp); simp; omega
        · have := segs_mem r x (by rw [e]; simp [h]); simp; omega
theorem all_snoc (l : List (List UInt8)) (k : Nat) (h : k < l.length) : (l.take (k + 1)).all nameB = ((l.take k).all nameB && nameB (l.getD k [])) := by
  rw [List.take_succ_eq_append_getElem h, List.all_append, List.getD_eq_getElem?_getD, List.getElem?_eq_getElem h]
  simp
set_option maxHeartbeats 1000000 in
set_option maxRecDepth 100000 in
theorem rCheck_any (s : List UInt8) (w : World) (hs : s.length ≤ 4294967296) : Calls Tryz.prog 67 #[.string ⟨s.toArray⟩] w fun e w' => e = .returned (.int .i64 (chkA s)) ∧ Below w.heap.size w w' := by
  have hc := Lib.hid (show chkA s = if codeB s then 0 else 3 from rfl)
  have hcb := Lib.hid (show codeB s = (decide ((segs s).length ≤ 6) && (segs s).all nameB) from rfl)
  have HSEG := Lib.hid (fun w => rSegs_any s w hs)
  have HMEM := Lib.hid (segs_mem s)
  have hsl := Lib.hid hs
  have HSL := Lib.hid (segs_len s)
  clear hs
  go_enter Tryz.func67, Tryz.ntmps67
  go_wp2_with fail
  refine (HSEG.out _).mono ?_
  rintro e w1 ⟨v, rfl, hown, hb1⟩
  generalize segs s = l at *
  obtain ⟨A, c, rfl, hlc, hct, hcell⟩ := hown.cells
  obtain ⟨n, hn⟩ : ∃ n, n = l.length := ⟨_, rfl⟩
  rw [← hn] at hlc hcell ⊢
  have HN := Lib.hid hn
  have HCELL := Lib.hid hcell
  clear hn hcell hown
  go_wp2_with fail
  go_loop [4] (fun i => ∃ k : Nat, k ≤ n ∧ i = .int .i64 (k : Int) ∧ Hid ((l.take k).all nameB = true)) (fun i => n - (intOf i).toNat)
  case atStart => exact ⟨0, by omega, rfl, Lib.hid rfl⟩
  case round =>
    obtain ⟨k, hk, rfl, ha⟩ := hrel
    by_cases hlt : k < n
    · have hsn := Lib.hid (all_snoc l k (by rw [← HN.out]; exact hlt))
      obtain ⟨g, rfl, hg, hcell⟩ := HCELL.out (by omega)
      have h1 := hcell k hlt
      clear hcell
      have hmem := Lib.hid (show l.getD k [] ∈ l by rw [List.getD_eq_getElem?_getD, List.getElem?_eq_getElem (by rw [← HN.out]; exact hlt)]; exact List.getElem_mem _)
      generalize l.getD k [] = x at *
      have hnm := Lib.hid (fun w => rname_any ⟨x.toArray⟩ w (by have := HMEM.out x hmem.out; have := hsl.out; unfold maxLen; show x.length ≤ _; omega))
      cases hx : nameB x
      · have hv := Lib.hid (show (3 : Int) = chkA s by
          rw [hc.out, hcb.out, show l.all nameB = false from List.all_eq_false.2 ⟨x, hmem.out, by rw [hx]; decide⟩, Bool.and_false]; rfl)
        have HX := Lib.hid hx
        clear hx
        go_wp2_with fail
        refine (hnm.out _).mono ?_
        rintro e w2 ⟨rfl, rfl⟩
        rw [show nameB (ByteArray.mk x.toArray).data.toList = false from HX.out]
        go_wp2_with fail
        go_ret
        exact ⟨congrArg (fun z => Ending.returned (.int .i64 z)) hv.out, hb1⟩
      · have HX := Lib.hid hx
        clear hx
        go_wp2_with fail
        refine (hnm.out _).mono ?_
        rintro e w2 ⟨rfl, rfl⟩
        rw [show nameB (ByteArray.mk x.toArray).data.toList = true from HX.out]
        go_wp2_with fail
        go_round
        case rel => exact ⟨k + 1, by omega, by go_num, Lib.hid (by rw [hsn.out, ha.out, HX.out]; rfl)⟩
        case measure => simp [intOf]; omega
    · have hfin := Lib.hid (show l.all nameB = true by
        have := ha.out
        rwa [List.take_of_length_le (by rw [← HN.out]; omega)] at this)
      by_cases h6 : 6 < n
      · have hd : decide (6 < (n : Int)) = true := by simp; omega
        have hv := Lib.hid (show (3 : Int) = chkA s by rw [hc.out, hcb.out, ← HN.out, decide_eq_false (by omega)]; rfl)
        go_wp2_with fail
        go_ret
        exact ⟨congrArg (fun z => Ending.returned (.int .i64 z)) hv.out, hb1⟩
      · have hd : decide (6 < (n : Int)) = false := by simp; omega
        have hv := Lib.hid (show (0 : Int) = chkA s by rw [hc.out, hcb.out, ← HN.out, decide_eq_true (by omega), hfin.out]; rfl)
        go_wp2_with fail
        go_ret
        exact ⟨congrArg (fun z => Ending.returned (.int .i64 z)) hv.out, hb1⟩
end Go.Proofs.YtejaehmoplohdaaGreatDoor

/- Contracts of the reference's numbers (01): digits, Canonical, Check, short, Compare, Sign, Neg, Long (printed by gen_refd.py). -/
namespace Go.Proofs.YtejaehmoplohdaaGreatDoor
open Go.RowKit Go.Shelf Num

theorem ba_tail (l : List UInt8) (n : Nat) (h : n = l.length) : (⟨l.toArray⟩ : ByteArray).extract 1 n = ⟨l.tail.toArray⟩ := by
  subst h
  rw [← ba_eta ((⟨l.toArray⟩ : ByteArray).extract 1 l.length), ext_mid, List.take_of_length_le (by simp), List.drop_one]
theorem lead_nil : lead [] = [] := rfl
theorem lead_zero (r : List UInt8) : lead (48 :: r) = lead r := by simp [lead]
theorem lead_stop (c : UInt8) (r : List UInt8) (h : c ≠ 48) : lead (c :: r) = c :: r := by
  have : (c == 48) = false := beq_eq_false_iff_ne.2 h
  simp [lead, this]
theorem digit_zones (z : Nat) : z < 48 ∨ (48 ≤ z ∧ z ≤ 57) ∨ 57 < z := by omega
theorem sgn_first (c : UInt8) (r : List UInt8) : sgn (c :: r) = decide (c = 45) ∧ body (c :: r) = if c = 45 then r else c :: r := by
  by_cases h : c = 45
  · subst h; exact ⟨rfl, rfl⟩
  · have hp := prefix_minus (c :: r)
    have e3 : (45 == c) = false := by simpa using Ne.symm h
    rw [← hp.1, ← hp.2, decide_eq_false h, if_neg h]
    exact ⟨by simp [Lib.hasPrefix, List.isPrefixOf, e3], by simp [Lib.trimPrefix, Lib.hasPrefix, List.isPrefixOf, e3]⟩
def RdgPost (l : List UInt8) (w : World) (e : Ending) (w' : World) : Prop := e = .returned (.tuple #[.string ⟨(dgs l).toArray⟩, .bool (neg l)]) ∧ w = w'
theorem u8_45 (c : UInt8) : (((c.toNat : Nat) : Int) == 45) = decide (c = 45) := by
  rw [Bool.eq_iff_iff]; simp only [beq_iff_eq, decide_eq_true_eq, ← UInt8.toNat_inj, UInt8.reduceToNat]; omega
theorem u8_48 (c : UInt8) : (((c.toNat : Nat) : Int) == 48) = decide (c = 48) := by
  rw [Bool.eq_iff_iff]; simp only [beq_iff_eq, decide_eq_true_eq, ← UInt8.toNat_inj, UInt8.reduceToNat]; omega

set_option maxHeartbeats 4000000 in
set_option maxRecDepth 100000 in
theorem rdig_any (l : List UInt8) (w : World) (hs : l.length ≤ 1000000) : Calls Tryz.prog 102 #[.string ⟨l.toArray⟩] w (RdgPost l w) := by
  have HD := Lib.hid (show dgs l = if (body l).all isDig then lead (body l) else [] from rfl)
  have HN := Lib.hid (show neg l = (sgn l && !(dgs l).isEmpty) from rfl)
  have HNO := Lib.hid (show (body l).all isDig = false → dgs l = [] ∧ neg l = false from fun h => by
    have e : dgs l = [] := by rw [HD.out, h]; rfl
    exact ⟨e, by rw [HN.out, e]; simp⟩)
  have HYES := Lib.hid (show (body l).all isDig = true → dgs l = lead (body l) ∧ neg l = (sgn l && !(lead (body l)).isEmpty) from fun h => by
    have e : dgs l = lead (body l) := by rw [HD.out, h]; rfl
    exact ⟨e, by rw [HN.out, e]⟩)
  have HQ := Lib.hid (show ∀ e, e = .returned (.tuple #[.string ⟨(dgs l).toArray⟩, .bool (neg l)]) → RdgPost l w e w from fun e h => ⟨h, rfl⟩)
  have hbl : (body l).length ≤ 1000000 := by
    have : (body l).length ≤ l.length := by unfold body; split <;> simp
    omega
  generalize RdgPost l w = Post at *
  clear HD HN
  by_cases h0 : 0 < l.length
  case neg =>
    have hl : l = [] := List.eq_nil_of_length_eq_zero (by omega)
    have hsg : sgn l = false := by rw [hl]; rfl
    have hbd : body l = l := by rw [hl]; rfl
    rw [hbd] at HNO hbl
    rw [hsg, hbd] at HYES
    have hz : decide ((0 : Int) < (l.length : Int)) = false := by rw [decide_eq_false_iff_not]; omega
    generalize l = b at *
    clear hl hsg hbd
    go_enter Tryz.func102, Tryz.ntmps102
    go_wp2_with fail
    go_loop [6] (fun i => ∃ k : Nat, k ≤ b.length ∧ i = .int .i64 (k : Int) ∧ Hid ((b.take k).all isDig = true)) (fun i => b.length - (intOf i).toNat)
    case atStart => exact ⟨0, by omega, rfl, rfl⟩
    case round =>
      obtain ⟨k, hk, rfl, HA⟩ := hrel
      by_cases hlt : k < b.length
      · have hal := Lib.hid (allp_take_succ isDig b k hlt)
        have hno := Lib.hid (fun h => notp_all (p := isDig) (l := b) (k := k) hlt h)
        have hg : b.getD k 0 = b[k] := by rw [List.getD_eq_getElem?_getD, List.getElem?_eq_getElem hlt]; rfl
        have hnc := Lib.hid (show isDig (b.getD k 0) = (decide (48 ≤ (b[k]).toNat) && decide ((b[k]).toNat ≤ 57)) by rw [hg]; rfl)
        have hzz := digit_zones b[k].toNat
        have hba := ba_get b k hlt
        generalize isDig (b.getD k 0) = nc at *
        clear hg
        have hki : (k : Int) < (b.length : Int) := by omega
        rcases hzz with hz | hz | hz
        · have t1 : decide ((((⟨b.toArray⟩ : ByteArray)[k]'hlt).toNat : Int) < 48) = true := by rw [hba, decide_eq_true_iff]; omega
          have hncv := Lib.hid (show nc = false by rw [hnc.out, decide_eq_false (by omega)]; rfl)
          have hv := Lib.hid (HNO.out (hno.out hncv.out))
          clear hz hba
          go_wp2_with fail
          exact HQ.out _ (by rw [hv.out.1, hv.out.2])
        · have t1 : decide ((((⟨b.toArray⟩ : ByteArray)[k]'hlt).toNat : Int) < 48) = false := by rw [hba, decide_eq_false_iff_not]; omega
          have t2 : decide (57 < (((⟨b.toArray⟩ : ByteArray)[k]'hlt).toNat : Int)) = false := by rw [hba, decide_eq_false_iff_not]; omega
          have hncv := Lib.hid (show nc = true by rw [hnc.out, decide_eq_true (by omega), decide_eq_true (by omega)]; rfl)
          clear hz hba
          go_wp2_with fail
          go_round
          case rel => exact ⟨k + 1, by omega, by go_num, by show _ = _; rw [hal.out, HA.out, hncv.out]; rfl⟩
          case measure => simp [intOf]; omega
        · have t1 : decide ((((⟨b.toArray⟩ : ByteArray)[k]'hlt).toNat : Int) < 48) = false := by rw [hba, decide_eq_false_iff_not]; omega
          have t2 : decide (57 < (((⟨b.toArray⟩ : ByteArray)[k]'hlt).toNat : Int)) = true := by rw [hba, decide_eq_true_iff]; omega
          have hncv := Lib.hid (show nc = false by rw [hnc.out, decide_eq_false (show ¬ (b[k]).toNat ≤ 57 by omega)]; simp)
          have hv := Lib.hid (HNO.out (hno.out hncv.out))
          clear hz hba
          go_wp2_with fail
          exact HQ.out _ (by rw [hv.out.1, hv.out.2])
      · have hfin := Lib.hid (HYES.out (by
          have := HA.out
          rwa [List.take_of_length_le (by omega)] at this))
        have hki : decide ((k : Int) < (b.length : Int)) = false := by rw [decide_eq_false_iff_not]; omega
        go_wp2_with fail
        go_loop [4] (fun s => ∃ u : List UInt8, s = .string ⟨u.toArray⟩ ∧ Hid (lead u = lead b)) (fun s => match s with | .string t => t.size | _ => 0)
        case atStart => exact ⟨b, rfl, rfl⟩
        case round =>
          obtain ⟨u, rfl, HU⟩ := hrel
          by_cases h0 : 0 < u.length
          · have hb0 := ba_get u 0 h0
            have h8 := u8_48 u[0]
            rw [← hb0] at h8
            obtain ⟨c, r, hu⟩ : ∃ c r, u = c :: r := by
              cases u with
              | nil => simp at h0
              | cons c r => exact ⟨c, r, rfl⟩
            have hu0 : u[0] = c := by simp [hu]
            by_cases hc : c = 48
            · have q : ((((⟨u.toArray⟩ : ByteArray)[0]'h0).toNat : Int) == 48) = true := by rw [h8, hb0, hu0, decide_eq_true hc]
              have hx : (⟨u.toArray⟩ : ByteArray).extract 1 u.length = ⟨u.tail.toArray⟩ := ba_tail u _ rfl
              have HU2 := Lib.hid (show lead u.tail = lead b by rw [← HU.out, hu, hc, lead_zero]; rfl)
              have hl1 : (1 : Int) ≤ (u.length : Int) := by omega
              clear h8 hb0 hu hu0 hc
              go_wp2_with fail
              go_round
              case rel => exact ⟨u.tail, rfl, HU2.out⟩
              case measure => simp [ByteArray.size]; omega
            · have q : ((((⟨u.toArray⟩ : ByteArray)[0]'h0).toNat : Int) == 48) = false := by rw [h8, hb0, hu0, decide_eq_false hc]
              have HU2 := Lib.hid (show lead b = u by rw [← HU.out, hu, lead_stop _ _ hc])
              have hne := Lib.hid (show u.isEmpty = false by rw [hu]; rfl)
              have hd0 : decide ((0 : Int) < (u.length : Int)) = true := by rw [decide_eq_true_iff]; omega
              clear h8 hb0 hu hu0 hc
              go_wp2_with fail
              exact HQ.out _ (by rw [hfin.out.1, hfin.out.2, HU2.out, hne.out]; rfl)
          · have hu : u = [] := List.eq_nil_of_length_eq_zero (by omega)
            subst hu
            have HU2 := Lib.hid (show lead b = [] by rw [← HU.out]; rfl)
            clear h0
            go_wp2_with fail
            exact HQ.out _ (by rw [hfin.out.1, hfin.out.2, HU2.out]; rfl)
  obtain ⟨c, r, hl⟩ : ∃ c r, l = c :: r := by
    cases l with
    | nil => simp at h0
    | cons c r => exact ⟨c, r, rfl⟩
  have hg0 : l[0] = c := by simp [hl]
  have hsg : sgn l = decide (c = 45) := by rw [hl]; exact (sgn_first c r).1
  have hbd : body l = if c = 45 then r else l := by rw [hl]; exact (sgn_first c r).2
  have hx : (⟨l.toArray⟩ : ByteArray).extract 1 l.length = ⟨r.toArray⟩ := by rw [ba_tail l _ rfl, hl]; rfl
  have hl1 : (1 : Int) ≤ (l.length : Int) := by omega
  clear hl
  · skip
    by_cases hc : c = 45
    · rw [decide_eq_true hc] at hsg
      rw [if_pos hc] at hbd
      have q : ((((⟨l.toArray⟩ : ByteArray)[0]'h0).toNat : Int) == 45) = true := by rw [ba_get, hg0, u8_45, decide_eq_true hc]
      rw [hbd] at HNO hbl
      rw [hsg, hbd] at HYES
      generalize r = b at *
      clear hg0
      clear hc hsg hbd
      go_enter Tryz.func102, Tryz.ntmps102
      go_wp2_with fail
      go_loop [6] (fun i => ∃ k : Nat, k ≤ b.length ∧ i = .int .i64 (k : Int) ∧ Hid ((b.take k).all isDig = true)) (fun i => b.length - (intOf i).toNat)
      case atStart => exact ⟨0, by omega, rfl, rfl⟩
      case round =>
        obtain ⟨k, hk, rfl, HA⟩ := hrel
        by_cases hlt : k < b.length
        · have hal := Lib.hid (allp_take_succ isDig b k hlt)
          have hno := Lib.hid (fun h => notp_all (p := isDig) (l := b) (k := k) hlt h)
          have hg : b.getD k 0 = b[k] := by rw [List.getD_eq_getElem?_getD, List.getElem?_eq_getElem hlt]; rfl
          have hnc := Lib.hid (show isDig (b.getD k 0) = (decide (48 ≤ (b[k]).toNat) && decide ((b[k]).toNat ≤ 57)) by rw [hg]; rfl)
          have hzz := digit_zones b[k].toNat
          have hba := ba_get b k hlt
          generalize isDig (b.getD k 0) = nc at *
          clear hg
          have hki : (k : Int) < (b.length : Int) := by omega
          rcases hzz with hz | hz | hz
          · have t1 : decide ((((⟨b.toArray⟩ : ByteArray)[k]'hlt).toNat : Int) < 48) = true := by rw [hba, decide_eq_true_iff]; omega
            have hncv := Lib.hid (show nc = false by rw [hnc.out, decide_eq_false (by omega)]; rfl)
            have hv := Lib.hid (HNO.out (hno.out hncv.out))
            clear hz hba
            go_wp2_with fail
            exact HQ.out _ (by rw [hv.out.1, hv.out.2])
          · have t1 : decide ((((⟨b.toArray⟩ : ByteArray)[k]'hlt).toNat : Int) < 48) = false := by rw [hba, decide_eq_false_iff_not]; omega
            have t2 : decide (57 < (((⟨b.toArray⟩ : ByteArray)[k]'hlt).toNat : Int)) = false := by rw [hba, decide_eq_false_iff_not]; omega
            have hncv := Lib.hid (show nc = true by rw [hnc.out, decide_eq_true (by omega), decide_eq_true (by omega)]; rfl)
            clear hz hba
            go_wp2_with fail
            go_round
            case rel => exact ⟨k + 1, by omega, by go_num, by show _ = _; rw [hal.out, HA.out, hncv.out]; rfl⟩
            case measure => simp [intOf]; omega
          · have t1 : decide ((((⟨b.toArray⟩ : ByteArray)[k]'hlt).toNat : Int) < 48) = false := by rw [hba, decide_eq_false_iff_not]; omega
            have t2 : decide (57 < (((⟨b.toArray⟩ : ByteArray)[k]'hlt).toNat : Int)) = true := by rw [hba, decide_eq_true_iff]; omega
            have hncv := Lib.hid (show nc = false by rw [hnc.out, decide_eq_false (show ¬ (b[k]).toNat ≤ 57 by omega)]; simp)
            have hv := Lib.hid (HNO.out (hno.out hncv.out))
            clear hz hba
            go_wp2_with fail
            exact HQ.out _ (by rw [hv.out.1, hv.out.2])
        · have hfin := Lib.hid (HYES.out (by
            have := HA.out
            rwa [List.take_of_length_le (by omega)] at this))
          have hki : decide ((k : Int) < (b.length : Int)) = false := by rw [decide_eq_false_iff_not]; omega
          go_wp2_with fail
          go_loop [4] (fun s => ∃ u : List UInt8, s = .string ⟨u.toArray⟩ ∧ Hid (lead u = lead b)) (fun s => match s with | .string t => t.size | _ => 0)
          case atStart => exact ⟨b, rfl, rfl⟩
          case round =>
            obtain ⟨u, rfl, HU⟩ := hrel
            by_cases h0 : 0 < u.length
            · have hb0 := ba_get u 0 h0
              have h8 := u8_48 u[0]
              rw [← hb0] at h8
              obtain ⟨c, r, hu⟩ : ∃ c r, u = c :: r := by
                cases u with
                | nil => simp at h0
                | cons c r => exact ⟨c, r, rfl⟩
              have hu0 : u[0] = c := by simp [hu]
              by_cases hc : c = 48
              · have q : ((((⟨u.toArray⟩ : ByteArray)[0]'h0).toNat : Int) == 48) = true := by rw [h8, hb0, hu0, decide_eq_true hc]
                have hx : (⟨u.toArray⟩ : ByteArray).extract 1 u.length = ⟨u.tail.toArray⟩ := ba_tail u _ rfl
                have HU2 := Lib.hid (show lead u.tail = lead b by rw [← HU.out, hu, hc, lead_zero]; rfl)
                have hl1 : (1 : Int) ≤ (u.length : Int) := by omega
                clear h8 hb0 hu hu0 hc
                go_wp2_with fail
                go_round
                case rel => exact ⟨u.tail, rfl, HU2.out⟩
                case measure => simp [ByteArray.size]; omega
              · have q : ((((⟨u.toArray⟩ : ByteArray)[0]'h0).toNat : Int) == 48) = false := by rw [h8, hb0, hu0, decide_eq_false hc]
                have HU2 := Lib.hid (show lead b = u by rw [← HU.out, hu, lead_stop _ _ hc])
                have hne := Lib.hid (show u.isEmpty = false by rw [hu]; rfl)
                have hd0 : decide ((0 : Int) < (u.length : Int)) = true := by rw [decide_eq_true_iff]; omega
                clear h8 hb0 hu hu0 hc
                go_wp2_with fail
                exact HQ.out _ (by rw [hfin.out.1, hfin.out.2, HU2.out, hne.out]; rfl)
            · have hu : u = [] := List.eq_nil_of_length_eq_zero (by omega)
              subst hu
              have HU2 := Lib.hid (show lead b = [] by rw [← HU.out]; rfl)
              clear h0
              go_wp2_with fail
              exact HQ.out _ (by rw [hfin.out.1, hfin.out.2, HU2.out]; rfl)
    · rw [decide_eq_false hc] at hsg
      rw [if_neg hc] at hbd
      have q : ((((⟨l.toArray⟩ : ByteArray)[0]'h0).toNat : Int) == 45) = false := by rw [ba_get, hg0, u8_45, decide_eq_false hc]
      rw [hbd] at HNO hbl
      rw [hsg, hbd] at HYES
      clear hx hl1
      generalize l = b at *
      clear hc hsg hbd hg0
      go_enter Tryz.func102, Tryz.ntmps102
      go_wp2_with fail
      go_loop [6] (fun i => ∃ k : Nat, k ≤ b.length ∧ i = .int .i64 (k : Int) ∧ Hid ((b.take k).all isDig = true)) (fun i => b.length - (intOf i).toNat)
      case atStart => exact ⟨0, by omega, rfl, rfl⟩
      case round =>
        obtain ⟨k, hk, rfl, HA⟩ := hrel
        by_cases hlt : k < b.length
        · have hal := Lib.hid (allp_take_succ isDig b k hlt)
          have hno := Lib.hid (fun h => notp_all (p := isDig) (l := b) (k := k) hlt h)
          have hg : b.getD k 0 = b[k] := by rw [List.getD_eq_getElem?_getD, List.getElem?_eq_getElem hlt]; rfl
          have hnc := Lib.hid (show isDig (b.getD k 0) = (decide (48 ≤ (b[k]).toNat) && decide ((b[k]).toNat ≤ 57)) by rw [hg]; rfl)
          have hzz := digit_zones b[k].toNat
          have hba := ba_get b k hlt
          generalize isDig (b.getD k 0) = nc at *
          clear hg
          have hki : (k : Int) < (b.length : Int) := by omega
          rcases hzz with hz | hz | hz
          · have t1 : decide ((((⟨b.toArray⟩ : ByteArray)[k]'hlt).toNat : Int) < 48) = true := by rw [hba, decide_eq_true_iff]; omega
            have hncv := Lib.hid (show nc = false by rw [hnc.out, decide_eq_false (by omega)]; rfl)
            have hv := Lib.hid (HNO.out (hno.out hncv.out))
            clear hz hba
            go_wp2_with fail
            exact HQ.out _ (by rw [hv.out.1, hv.out.2])
          · have t1 : decide ((((⟨b.toArray⟩ : ByteArray)[k]'hlt).toNat : Int) < 48) = false := by rw [hba, decide_eq_false_iff_not]; omega
            have t2 : decide (57 < (((⟨b.toArray⟩ : ByteArray)[k]'hlt).toNat : Int)) = false := by rw [hba, decide_eq_false_iff_not]; omega
            have hncv := Lib.hid (show nc = true by rw [hnc.out, decide_eq_true (by omega), decide_eq_true (by omega)]; rfl)
            clear hz hba
            go_wp2_with fail
            go_round
            case rel => exact ⟨k + 1, by omega, by go_num, by show _ = _; rw [hal.out, HA.out, hncv.out]; rfl⟩
            case measure => simp [intOf]; omega
          · have t1 : decide ((((⟨b.toArray⟩ : ByteArray)[k]'hlt).toNat : Int) < 48) = false := by rw [hba, decide_eq_false_iff_not]; omega
            have t2 : decide (57 < (((⟨b.toArray⟩ : ByteArray)[k]'hlt).toNat : Int)) = true := by rw [hba, decide_eq_true_iff]; omega
            have hncv := Lib.hid (show nc = false by rw [hnc.out, decide_eq_false (show ¬ (b[k]).toNat ≤ 57 by omega)]; simp)
            have hv := Lib.hid (HNO.out (hno.out hncv.out))
            clear hz hba
            go_wp2_with fail
            exact HQ.out _ (by rw [hv.out.1, hv.out.2])
        · have hfin := Lib.hid (HYES.out (by
            have := HA.out
            rwa [List.take_of_length_le (by omega)] at this))
          have hki : decide ((k : Int) < (b.length : Int)) = false := by rw [decide_eq_false_iff_not]; omega
          go_wp2_with fail
          go_loop [4] (fun s => ∃ u : List UInt8, s = .string ⟨u.toArray⟩ ∧ Hid (lead u = lead b)) (fun s => match s with | .string t => t.size | _ => 0)
          case atStart => exact ⟨b, rfl, rfl⟩
          case round =>
            obtain ⟨u, rfl, HU⟩ := hrel
            by_cases h0 : 0 < u.length
            · have hb0 := ba_get u 0 h0
              have h8 := u8_48 u[0]
              rw [← hb0] at h8
              obtain ⟨c, r, hu⟩ : ∃ c r, u = c :: r := by
                cases u with
                | nil => simp at h0
                | cons c r => exact ⟨c, r, rfl⟩
              have hu0 : u[0] = c := by simp [hu]
              by_cases hc : c = 48
              · have q : ((((⟨u.toArray⟩ : ByteArray)[0]'h0).toNat : Int) == 48) = true := by rw [h8, hb0, hu0, decide_eq_true hc]
                have hx : (⟨u.toArray⟩ : ByteArray).extract 1 u.length = ⟨u.tail.toArray⟩ := ba_tail u _ rfl
                have HU2 := Lib.hid (show lead u.tail = lead b by rw [← HU.out, hu, hc, lead_zero]; rfl)
                have hl1 : (1 : Int) ≤ (u.length : Int) := by omega
                clear h8 hb0 hu hu0 hc
                go_wp2_with fail
                go_round
                case rel => exact ⟨u.tail, rfl, HU2.out⟩
                case measure => simp [ByteArray.size]; omega
              · have q : ((((⟨u.toArray⟩ : ByteArray)[0]'h0).toNat : Int) == 48) = false := by rw [h8, hb0, hu0, decide_eq_false hc]
                have HU2 := Lib.hid (show lead b = u by rw [← HU.out, hu, lead_stop _ _ hc])
                have hne := Lib.hid (show u.isEmpty = false by rw [hu]; rfl)
                have hd0 : decide ((0 : Int) < (u.length : Int)) = true := by rw [decide_eq_true_iff]; omega
                clear h8 hb0 hu hu0 hc
                go_wp2_with fail
                exact HQ.out _ (by rw [hfin.out.1, hfin.out.2, HU2.out, hne.out]; rfl)
            · have hu : u = [] := List.eq_nil_of_length_eq_zero (by omega)
              subst hu
              have HU2 := Lib.hid (show lead b = [] by rw [← HU.out]; rfl)
              clear h0
              go_wp2_with fail
              exact HQ.out _ (by rw [hfin.out.1, hfin.out.2, HU2.out]; rfl)
end Go.Proofs.YtejaehmoplohdaaGreatDoor
