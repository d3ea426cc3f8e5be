/- The walk of AccountFinds. -/
import Derived.Test.YtklmgogppljolaaIdx
import Derived.Test.YtklmgogppljolaaCharts
namespace Go.Proofs.Ytklmgogppljolaa
open Go.RowKit

def atLen (w : World) (v : Value) : Nat := match v with
  | .pointer (some a) => match w.cell? a with
    | some (.string s) => s.size
    | _ => 0
  | _ => 0
theorem atLen_of {w : World} {b : Nat} {s : List UInt8} (h : w.cell? ⟨b, 0, none⟩ = some (.string ⟨s.toArray⟩)) : atLen w (.pointer (some ⟨b, 0, none⟩)) = s.length := by
  simp only [atLen, h]; rfl
def onB (f i : Value) : Bool := match f, i with
  | .bool false, .bool true => true
  | _, _ => false
/-- where the second loop stands -/
structure CW (w : World) (bw ba : Nat) (want : Acc) (at_ : List UInt8) (wr : World) : Prop where
  bel : Below w.heap.size w wr
  wnt : wr.rowIs bw 26 2 (AV want)
  att : wr.rowIs ba 9 1 (fun _ => .string ⟨at_.toArray⟩)
  ne : bw ≠ ba
  b1 : w.heap.size ≤ bw
  b2 : w.heap.size ≤ ba
theorem CW.below {w wr w' : World} {bw ba : Nat} {want : Acc} {at_ : List UInt8} (h : CW w bw ba want at_ wr) (hb : Below wr.heap.size wr w') : CW w bw ba want at_ w' :=
  ⟨h.bel.trans (hb.mono h.bel.size), h.wnt.of_block (hb.block _ h.wnt.lt), h.att.of_block (hb.block _ h.att.lt), h.ne, h.b1, h.b2⟩
theorem CW.put {w wr : World} {bw ba : Nat} {want : Acc} {at_ : List UInt8} (h : CW w bw ba want at_ wr) (a : Acc) : CW w bw ba a at_ ((wr.setCell ⟨bw, 0, none⟩ (.string ⟨a.1.toArray⟩)).setCell ⟨bw, 1, none⟩ (.int .i64 a.2)) :=
  ⟨(h.bel.setCell (p := ⟨bw, 0, none⟩) h.b1 _).setCell (p := ⟨bw, 1, none⟩) h.b1 _, ((h.wnt.set 0 _).set 1 _).congr fun j hj => by
      rcases j with _ | _ | j
      · rfl
      · rfl
      · omega, (h.att.setOther (fun e => h.ne e.symm) _).setOther (fun e => h.ne e.symm) _, h.ne, h.b1, h.b2⟩
theorem CW.next {w wr : World} {bw ba : Nat} {want : Acc} {at_ : List UInt8} (h : CW w bw ba want at_ wr) (s : List UInt8) : CW w bw wr.heap.size want s (wr.alloc (.cells #[.string ⟨s.toArray⟩] 9)) :=
  ⟨h.bel.alloc h.bel.size _, h.wnt.alloc _, World.rowIs_alloc wr #[.string ⟨s.toArray⟩] 9 _ (fun i hi => by
    rcases i with _ | i
    · rfl
    · simp at hi), fun e => by have := h.wnt.lt; omega, h.b1, h.bel.size⟩
theorem CW.at_ {w wr : World} {bw ba : Nat} {want : Acc} {at_ : List UInt8} (h : CW w bw ba want at_ wr) (s : List UInt8) : CW w bw ba want s (wr.setCell ⟨ba, 0, none⟩ (.string ⟨s.toArray⟩)) :=
  ⟨h.bel.setCell (p := ⟨ba, 0, none⟩) h.b2 _, h.wnt.setOther h.ne _, (h.att.set 0 _).congr fun j hj => by
    rcases j with _ | j
    · rfl
    · omega, h.ne, h.b1, h.b2⟩
theorem CW.start {w wr : World} (h : Below w.heap.size w wr) (s : List UInt8) : CW w wr.heap.size (wr.heap.size + 1) ([], 0) s ((wr.alloc (.cells #[.string ⟨#[]⟩, .int .i64 0] 26)).alloc (.cells #[.string ⟨s.toArray⟩] 9)) := by
  have r0 := World.rowIs_alloc wr #[.string ⟨#[]⟩, .int .i64 0] 26 (AV ([], 0)) (fun i hi => by
    rcases i with _ | _ | i
    · rfl
    · rfl
    · simp at hi; omega)
  have r1 := World.rowIs_alloc (wr.alloc (.cells #[.string ⟨#[]⟩, .int .i64 0] 26)) #[.string ⟨s.toArray⟩] 9 (fun _ => .string ⟨s.toArray⟩) (fun i hi => by
    rcases i with _ | i
    · rfl
    · simp at hi)
  rw [World.size_alloc] at r1
  exact ⟨(h.alloc h.size _).alloc (by have := h.size; simp; omega) _, r0.alloc _, r1, by omega, h.size, by have := h.size; omega⟩
set_option maxHeartbeats 8000000 in
set_option maxRecDepth 100000 in
theorem finds_walk (A : Option Addr) (n c : Nat) (l : List Acc) (code : List UInt8) (w : World) (h : Accs w A n c l) (hn : ∀ a ∈ l, a.1.length ≤ 9223372036854775807) (hm : ML w)
    (hg : greatB l = false) (hl : code.length ≤ 120) (hk0 : chkL l = 0) : Calls Try.prog 5 #[.slice A n c, .string ⟨code.toArray⟩] w (Yes w) := by
  have HG := Lib.hid (Great_any A n c l w h hn)
  have HM := Lib.hid hm
  have HA := Lib.hid h
  have hcap := h.cap
  have htop := h.top
  have hlen := Lib.hid h.len
  have HS := Lib.hid (great_small hg)
  have HCH := Lib.hid (chart_of hk0)
  rw [hg] at HG
  clear hn hm h hg
  have hd : decide (120 < (code.length : Int)) = false := by simp; omega
  obtain ⟨⟨⟨r1, r2⟩, r3⟩, hr⟩ : ∃ r, findL l code = r := ⟨_, rfl⟩
  have HF := Lib.hid (fun W (hW : Accs W A n c l) => Find_any A n c l code W hW (fun a ha => by have := HS.out a ha; omega))
  have HFO := Lib.hid (fun W (hW : Accs W A n c l) s => Find_any A n c l s W hW (fun a ha => by have := HS.out a ha; omega))
  rw [hr] at HF
  have HR := Lib.hid hr
  clear hr
  have HC := Lib.hid (fun W (hW : Accs W A n c l) (hM : ML W) => CheckAll_any A n c l W hW (fun a ha => by have := HS.out a ha; omega) hM)
  rw [hk0] at HC
  clear hk0
  have HCK := Lib.hid (fun W (hM : ML W) => Check_any ⟨code.toArray⟩ W (by show code.length < _; omega) hM)
  go_enter Try.func5, Try.ntmps5
  go_wp2_with fail
  refine HG.out.mono ?_
  rintro e w1 ⟨rfl, rfl⟩
  go_wp2_with fail
  refine (HC.out _ HA.out HM.out).mono ?_
  rintro e w2 ⟨rfl, hb2⟩
  have HB2 := Lib.hid hb2
  clear hb2
  go_wp2_with fail
  go_loopw [33] (fun i wr => ∃ k : Nat, k ≤ n ∧ i = .int .i64 (k : Int) ∧ Hid (Below w.heap.size w wr)) (fun i _ => n - (intOf i).toNat)
  case atStart => exact ⟨0, by omega, rfl, HB2⟩
  case round =>
    obtain ⟨k, hk, rfl, hbw⟩ := hrel
    by_cases hlt : k < n
    · obtain ⟨b, o, rfl, hbl, hcs⟩ := HA.out.at_ (by omega)
      obtain ⟨c1, c2⟩ := (HA.out).cells hbw.out hlt
      clear hcs
      have hself := find_self HCH.out (k := k) (by rw [hlen.out]; exact hlt)
      have hkind := Lib.hid (find_kind HCH.out (code := code) (k := k) (by rw [hlen.out]; exact hlt))
      rw [HR.out] at hkind
      generalize accAt l k = x at *
      obtain ⟨x1, x2⟩ := x
      have HF1 := Lib.hid (fun W hW => HFO.out W hW x1)
      rw [show findL l x1 = ((x1, x2), true) from hself] at HF1
      clear hself
      have HU := Lib.hid (Under_any code x1)
      have hb3 : Below w.heap.size w (wr.alloc (.cells #[.string ⟨x1.toArray⟩, .int .i64 x2] 26)) := hbw.out.alloc hbw.out.size _
      have HB3 := Lib.hid hb3
      clear hb3
      go_wp2_with fail
      refine (HF1.out _ (HA.out.below HB3.out)).mono ?_
      rintro e w4 ⟨rfl, hb4⟩
      have s4 : wr.heap.size < w4.heap.size := by have := hb4.size; simp at this; omega
      have p0 : w4.cell? ⟨wr.heap.size, 0, none⟩ = some (.string ⟨x1.toArray⟩) := (hb4.cell (p := ⟨wr.heap.size, 0, none⟩) (by simp)).trans (by go_simp)
      have p1 : w4.cell? ⟨wr.heap.size, 1, none⟩ = some (.int .i64 x2) := (hb4.cell (p := ⟨wr.heap.size, 1, none⟩) (by simp)).trans (by go_simp)
      have HB4 := Lib.hid (HB3.out.trans (hb4.mono HB3.out.size))
      have HB5 := Lib.hid (HB4.out.alloc HB4.out.size (.cells #[.string ⟨x1.toArray⟩, .int .i64 x2] 26))
      clear hb4
      go_wp2_with fail
      refine (HF.out _ (HA.out.below HB5.out)).mono ?_
      rintro e w6 ⟨rfl, hb6⟩
      have s6 : w4.heap.size < w6.heap.size := by have := hb6.size; simp at this; omega
      have q0 : w6.cell? ⟨wr.heap.size, 0, none⟩ = some (.string ⟨x1.toArray⟩) := (hb6.cell (p := ⟨wr.heap.size, 0, none⟩) (by simp; omega)).trans ((((Below.refl w4.heap.size w4).alloc (Nat.le_refl _) _).cell (p := ⟨wr.heap.size, 0, none⟩) s4).trans p0)
      have q1 : w6.cell? ⟨wr.heap.size, 1, none⟩ = some (.int .i64 x2) := (hb6.cell (p := ⟨wr.heap.size, 1, none⟩) (by simp; omega)).trans ((((Below.refl w4.heap.size w4).alloc (Nat.le_refl _) _).cell (p := ⟨wr.heap.size, 1, none⟩) s4).trans p1)
      have hne6 : ¬ (wr.heap.size = w6.heap.size) := by omega
      have t6 : wr.heap.size < w6.heap.size := by omega
      have HB6 := Lib.hid (HB5.out.trans (hb6.mono HB5.out.size))
      have HB7 := Lib.hid (HB6.out.alloc HB6.out.size (.cells #[.string ⟨r1.toArray⟩, .int .i64 r2] 26))
      clear hb6 p0 p1
      cases hub : undB code x1
      · rw [hub] at HU
        clear hub hkind
        go_wp2_with fail
        refine (HU.out _).mono ?_
        rintro e w8 ⟨rfl, rfl⟩
        go_wp2_with fail
        go_roundw
        case rel => exact ⟨k + 1, by omega, by go_num, HB7⟩
        case measure => simp [intOf]; omega
      · rw [hub] at HU
        obtain ⟨hr3, hr2⟩ := hkind.out hub
        have hr3' : r3 = true := hr3
        have hr2' : r2 = x2 := hr2
        subst hr3' hr2'
        clear hub hkind hr2 hr3
        go_wp2_with fail
        refine (HU.out _).mono ?_
        rintro e w8 ⟨rfl, rfl⟩
        go_wp2_with fail
        go_roundw
        case rel => exact ⟨k + 1, by omega, by go_num, HB7⟩
        case measure => simp [intOf]; omega
    · cases hcb : codeB code
      · rw [show chk (ByteArray.mk code.toArray).data.toList = 3 by show chk code = 3; rw [chk, hcb]; rfl] at HCK
        clear hcb
        go_wp2_with fail
        refine (HCK.out _ (HM.out.below hbw.out)).mono ?_
        rintro e w3 ⟨rfl, hb3⟩
        have HB3 := Lib.hid (hbw.out.trans (hb3.mono hbw.out.size))
        clear hb3
        go_wp2_with fail
        refine (awake_any _ (HM.out.below HB3.out)).mono ?_
        rintro e w4 ⟨rfl, hb4⟩
        go_wp2_with fail
        go_ret
        exact ⟨rfl, HB3.out.trans (hb4.mono HB3.out.size)⟩
      · rw [show chk (ByteArray.mk code.toArray).data.toList = 0 by show chk code = 0; rw [chk, hcb]; rfl] at HCK
        have HCB := Lib.hid hcb
        clear hcb
        go_wp2_with fail
        refine (HCK.out _ (HM.out.below hbw.out)).mono ?_
        rintro e w3 ⟨rfl, hb3⟩
        have HB3 := Lib.hid (hbw.out.trans (hb3.mono hbw.out.size))
        clear hb3
        have HST := Lib.hid (CW.start HB3.out code)
        go_wp2_with fail
        go_loopw [12, 13, 14] (fun f p i wq => ∃ (ba : Nat) (at_ : List UInt8) (is_ found : Bool) (want : Acc), f = .bool found ∧ p = .pointer (some ⟨ba, 0, none⟩) ∧ i = .bool is_ ∧ CW w w3.heap.size ba want at_ wq ∧ Hid (Climb l code at_ is_ found want)) (fun f p i wq => if onB f i then atLen wq p + 1 else 0)
        case atStart => exact ⟨w3.heap.size + 1, code, true, false, ([], 0), rfl, rfl, rfl, HST.out, Lib.hid (Climb.start HCB.out hl)⟩
        case round =>
          obtain ⟨ba, at_, is_, found, want, rfl, rfl, rfl, hcw, hcl⟩ := hrel
          have hal := atLen_of (hcw.att.cell (i := 0) (by omega))
          cases found <;> cases is_
          · have e := (hcl.out.fin rfl).symm.trans HR.out
            cases e
            have HX := Lib.hid hcw
            clear hcw hcl hal
            have k0 : wr.cell? ⟨w3.heap.size, 0, none⟩ = some (.string ⟨r1.toArray⟩) := HX.out.wnt.cell (i := 0) (by omega)
            have k1 : wr.cell? ⟨w3.heap.size, 1, none⟩ = some (.int .i64 r2) := HX.out.wnt.cell (i := 1) (by omega)
            have hlw := HX.out.wnt.lt
            go_wp2_with fail
            refine (HF.out _ (HA.out.below HX.out.bel)).mono ?_
            rintro e w6 ⟨rfl, hb6⟩
            have m0 : w6.cell? ⟨w3.heap.size, 0, none⟩ = some (.string ⟨r1.toArray⟩) := (hb6.cell (p := ⟨w3.heap.size, 0, none⟩) hlw).trans k0
            have m1 : w6.cell? ⟨w3.heap.size, 1, none⟩ = some (.int .i64 r2) := (hb6.cell (p := ⟨w3.heap.size, 1, none⟩) hlw).trans k1
            have s6 : w3.heap.size < w6.heap.size := Nat.lt_of_lt_of_le hlw hb6.size
            have hne : ¬ (w3.heap.size = w6.heap.size) := by omega
            have HB6 := Lib.hid (HX.out.bel.trans (hb6.mono HX.out.bel.size))
            have HB7 := Lib.hid (HB6.out.alloc HB6.out.size (.cells #[.string ⟨r1.toArray⟩, .int .i64 r2] 26))
            clear hb6 k0 k1
            go_wp2_with fail
            refine (awake_any _ (HM.out.below HB7.out)).mono ?_
            rintro e w8 ⟨rfl, hb8⟩
            go_wp2_with fail
            go_ret
            exact ⟨rfl, HB7.out.trans (hb8.mono HB7.out.size)⟩
          · have HIX := Lib.hid (index_any A n c l at_ ba wr (HA.out.below hcw.bel) (hcw.att.cell (i := 0) (by omega)) hcw.att.lt)
            have HP := Lib.hid (fun W hM => Parent_any at_ W (by have := hcl.out.small; omega) hM)
            have HAL := Lib.hid hal
            have HCW := Lib.hid hcw
            clear hcw hal
            go_wp2_with fail
            refine HIX.out.mono ?_
            rintro e w6 ⟨i, rfl, hidx, hb6⟩
            have HCW6 := Lib.hid (HCW.out.below hb6)
            clear hb6
            have a0 : w6.cell? ⟨ba, 0, none⟩ = some (.string ⟨at_.toArray⟩) := HCW6.out.att.cell (i := 0) (by omega)
            have la := HCW6.out.att.lt
            have hnea : ¬ (ba = w6.heap.size) := by omega
            rcases hidx with ⟨rfl, hno⟩ | ⟨k2, rfl, hk2, hat⟩
            · have HGO := Lib.hid (hcl.out.go hno)
              clear hno
              have HN := Lib.hid (HCW6.out.next at_)
              go_wp2_with fail
              refine (HP.out _ (HM.out.below HN.out.bel)).mono ?_
              rintro e w8 ⟨rfl, hb8⟩
              have HN8 := Lib.hid (HN.out.below hb8)
              clear hb8
              have n0 := HN8.out.att.cell (i := 0) (by omega)
              have nf := HN8.out.att.frozen 0
              have nl := HN8.out.att.lt
              have HFN := Lib.hid (HN8.out.at_ (parS at_))
              have HAF := Lib.hid (atLen_of (HFN.out.att.cell (i := 0) (by omega)))
              generalize parS at_ = ps at *
              generalize parB at_ = pb at *
              go_wp2_with fail
              go_roundw
              case rel => exact ⟨w6.heap.size, ps, pb, false, want, rfl, rfl, rfl, HFN.out, Lib.hid HGO.out.1⟩
              case measure =>
                show (if onB (.bool false) (.bool pb) = true then atLen (w8.setCell ⟨w6.heap.size, 0, none⟩ (.string ⟨ps.toArray⟩)) (.pointer (some ⟨w6.heap.size, 0, none⟩)) + 1 else 0) < (if onB (.bool false) (.bool true) = true then atLen wr (.pointer (some ⟨ba, 0, none⟩)) + 1 else 0)
                rw [HAF.out, HAL.out]
                have := HGO.out.2
                cases pb
                · simp [onB]
                · have := this rfl
                  simp [onB]; omega
            · have hk2n : k2 < n := by rw [← hlen.out]; exact hk2
              have hd0 : decide (0 ≤ (k2 : Int)) = true := by simp
              obtain ⟨b, o, rfl, hbl, hcs⟩ := HA.out.at_ (by omega)
              obtain ⟨c1, c2⟩ := (HA.out).cells HCW6.out.bel hk2n
              clear hcs
              have hble : b < w.heap.size := hbl
              have HHIT := Lib.hid (hcl.out.hit HCH.out hk2 hat)
              generalize accAt l k2 = x at *
              obtain ⟨x1, x2⟩ := x
              have HPT := Lib.hid (HCW6.out.put (x1, x2))
              have v0 := HCW6.out.wnt.cell (i := 0) (by omega)
              have v1 := HCW6.out.wnt.cell (i := 1) (by omega)
              have vf0 := HCW6.out.wnt.frozen 0
              have vf1 := HCW6.out.wnt.frozen 1
              have vl := HCW6.out.wnt.lt
              have hneb : ¬ (ba = w3.heap.size) := fun e => HCW6.out.ne e.symm
              have a1 : ((w6.setCell ⟨w3.heap.size, 0, none⟩ (.string ⟨x1.toArray⟩)).setCell ⟨w3.heap.size, 1, none⟩ (.int .i64 x2)).cell? ⟨ba, 0, none⟩ = some (.string ⟨at_.toArray⟩) := HPT.out.att.cell (i := 0) (by omega)
              have hwz : ((w6.setCell ⟨w3.heap.size, 0, none⟩ (.string ⟨x1.toArray⟩)).setCell ⟨w3.heap.size, 1, none⟩ (.int .i64 x2)).heap.size = w6.heap.size := by simp
              have HN := Lib.hid (HPT.out.next at_)
              rw [hwz] at HN
              clear hat
              go_wp2_with fail
              refine (HP.out _ (HM.out.below HN.out.bel)).mono ?_
              rintro e w8 ⟨rfl, hb8⟩
              have HN8 := Lib.hid (HN.out.below hb8)
              clear hb8
              have n0 := HN8.out.att.cell (i := 0) (by omega)
              have nf := HN8.out.att.frozen 0
              have nl := HN8.out.att.lt
              have HFN := Lib.hid (HN8.out.at_ (parS at_))
              have hps := par_short at_ hcl.out.small
              generalize parS at_ = ps at *
              generalize parB at_ = pb at *
              go_wp2_with fail
              go_roundw
              case rel => exact ⟨w6.heap.size, ps, pb, true, (x1, x2), rfl, rfl, rfl, HFN.out, Lib.hid (HHIT.out ps pb hps)⟩
              case measure =>
                show (0 : Nat) < (if onB (.bool false) (.bool true) = true then atLen wr (.pointer (some ⟨ba, 0, none⟩)) + 1 else 0)
                simp [onB]
          · have e := (hcl.out.fin rfl).symm.trans HR.out
            cases e
            have HX := Lib.hid hcw
            clear hcw hcl hal
            have k0 : wr.cell? ⟨w3.heap.size, 0, none⟩ = some (.string ⟨r1.toArray⟩) := HX.out.wnt.cell (i := 0) (by omega)
            have k1 : wr.cell? ⟨w3.heap.size, 1, none⟩ = some (.int .i64 r2) := HX.out.wnt.cell (i := 1) (by omega)
            have hlw := HX.out.wnt.lt
            go_wp2_with fail
            refine (HF.out _ (HA.out.below HX.out.bel)).mono ?_
            rintro e w6 ⟨rfl, hb6⟩
            have m0 : w6.cell? ⟨w3.heap.size, 0, none⟩ = some (.string ⟨r1.toArray⟩) := (hb6.cell (p := ⟨w3.heap.size, 0, none⟩) hlw).trans k0
            have m1 : w6.cell? ⟨w3.heap.size, 1, none⟩ = some (.int .i64 r2) := (hb6.cell (p := ⟨w3.heap.size, 1, none⟩) hlw).trans k1
            have s6 : w3.heap.size < w6.heap.size := Nat.lt_of_lt_of_le hlw hb6.size
            have hne : ¬ (w3.heap.size = w6.heap.size) := by omega
            have HB6 := Lib.hid (HX.out.bel.trans (hb6.mono HX.out.bel.size))
            have HB7 := Lib.hid (HB6.out.alloc HB6.out.size (.cells #[.string ⟨r1.toArray⟩, .int .i64 r2] 26))
            clear hb6 k0 k1
            go_wp2_with fail
            refine (awake_any _ (HM.out.below HB7.out)).mono ?_
            rintro e w8 ⟨rfl, hb8⟩
            go_wp2_with fail
            go_ret
            exact ⟨rfl, HB7.out.trans (hb8.mono HB7.out.size)⟩
          · have e := (hcl.out.fin rfl).symm.trans HR.out
            cases e
            have HX := Lib.hid hcw
            clear hcw hcl hal
            have k0 : wr.cell? ⟨w3.heap.size, 0, none⟩ = some (.string ⟨r1.toArray⟩) := HX.out.wnt.cell (i := 0) (by omega)
            have k1 : wr.cell? ⟨w3.heap.size, 1, none⟩ = some (.int .i64 r2) := HX.out.wnt.cell (i := 1) (by omega)
            have hlw := HX.out.wnt.lt
            go_wp2_with fail
            refine (HF.out _ (HA.out.below HX.out.bel)).mono ?_
            rintro e w6 ⟨rfl, hb6⟩
            have m0 : w6.cell? ⟨w3.heap.size, 0, none⟩ = some (.string ⟨r1.toArray⟩) := (hb6.cell (p := ⟨w3.heap.size, 0, none⟩) hlw).trans k0
            have m1 : w6.cell? ⟨w3.heap.size, 1, none⟩ = some (.int .i64 r2) := (hb6.cell (p := ⟨w3.heap.size, 1, none⟩) hlw).trans k1
            have s6 : w3.heap.size < w6.heap.size := Nat.lt_of_lt_of_le hlw hb6.size
            have hne : ¬ (w3.heap.size = w6.heap.size) := by omega
            have HB6 := Lib.hid (HX.out.bel.trans (hb6.mono HX.out.bel.size))
            have HB7 := Lib.hid (HB6.out.alloc HB6.out.size (.cells #[.string ⟨r1.toArray⟩, .int .i64 r2] 26))
            clear hb6 k0 k1
            go_wp2_with fail
            refine (awake_any _ (HM.out.below HB7.out)).mono ?_
            rintro e w8 ⟨rfl, hb8⟩
            go_wp2_with fail
            go_ret
            exact ⟨rfl, HB7.out.trans (hb8.mono HB7.out.size)⟩
set_option maxHeartbeats 4000000 in
set_option maxRecDepth 100000 in
theorem finds_row (A : Option Addr) (n c : Nat) (l : List Acc) (cd : ByteArray) (w : World) (hm : ML w) (h : Accs w A n c l) (hn : ∀ a ∈ l, a.1.length ≤ 9223372036854775807) (_ : cd.size ≤ maxLen) :
    Calls Try.prog 5 #[.slice A n c, .string cd] w (Yes w) := by
  suffices H : ∀ code : List UInt8, Calls Try.prog 5 #[.slice A n c, .string ⟨code.toArray⟩] w (Yes w) from H cd.data.toList
  intro code
  cases hg : greatB l
  · by_cases hl : code.length ≤ 120
    · by_cases hk : chkL l = 0
      · exact finds_walk A n c l code w h hn hm hg hl hk
      · have HG := Lib.hid (Great_any A n c l w h hn)
        have HS := great_small hg
        have HC := Lib.hid (CheckAll_any A n c l w h (fun a ha => by have := HS a ha; omega) hm)
        have HM := Lib.hid hm
        rw [hg] at HG
        have hd : decide (120 < (code.length : Int)) = false := by simp; omega
        have hk' : (chkL l == 0) = false := by rw [beq_eq_false_iff_ne]; exact hk
        generalize chkL l = ck at *
        clear hg HS hk hm h hn
        go_enter Try.func5, Try.ntmps5
        go_wp2_with fail
        refine HG.out.mono ?_
        rintro e w1 ⟨rfl, rfl⟩
        go_wp2_with fail
        refine HC.out.mono ?_
        rintro e w2 ⟨rfl, hb2⟩
        go_wp2_with fail
        refine (awake_any _ (HM.out.below hb2)).mono ?_
        rintro e w3 ⟨rfl, hb3⟩
        go_wp2_with fail
        go_ret
        exact ⟨rfl, hb2.trans (hb3.mono hb2.size)⟩
    · have HG := Lib.hid (Great_any A n c l w h hn)
      have HM := Lib.hid hm
      rw [hg] at HG
      have hd : decide (120 < (code.length : Int)) = true := by simp; omega
      clear hg hm h hn
      go_enter Try.func5, Try.ntmps5
      go_wp2_with fail
      refine HG.out.mono ?_
      rintro e w1 ⟨rfl, rfl⟩
      go_wp2_with fail
      refine (awake_any _ HM.out).mono ?_
      rintro e w2 ⟨rfl, hb2⟩
      go_wp2_with fail
      go_ret
      exact ⟨rfl, hb2⟩
  · have HG := Lib.hid (Great_any A n c l w h hn)
    have HM := Lib.hid hm
    rw [hg] at HG
    clear hg hm h hn
    go_enter Try.func5, Try.ntmps5
    go_wp2_with fail
    refine HG.out.mono ?_
    rintro e w1 ⟨rfl, rfl⟩
    go_wp2_with fail
    refine (awake_any _ HM.out).mono ?_
    rintro e w2 ⟨rfl, hb2⟩
    go_wp2_with fail
    go_ret
    exact ⟨rfl, hb2⟩
end Go.Proofs.Ytklmgogppljolaa
