/- Rows of strings; chains of digests: contracts of both Chains. -/
import Derived.Test.YtjcbohbpkodkoaaGreatDoorQ9
import Derived.Test.YtjcbohbpkodkoaaGreatDoorQ11
import Derived.Test.YtjcbohbpkodkoaaGreatDoorQ12
import Derived.Test.YtjcbohbpkodkoaaGreatDoorQ8
import Derived.Test.YtjcbohbpkodkoaaGreatDoorQ6
import Derived.Test.YtjcbohbpkodkoaaGreatDoorQ5
import Derived.WalkLawsBesides
namespace Go.Proofs.YtjcbohbpkodkoaaGreatDoor
open Go.RowKit Go.Maps Num

/-- the last digest of a chain -/
def chS (s : List UInt8) (l : List (List UInt8)) : List UInt8 := l.foldl (fun q x => sha (q ++ x)) s
/-- the digests of a chain -/
def chL : List UInt8 → List (List UInt8) → List (List UInt8)
  | _, [] => []
  | s, x :: r => sha (s ++ x) :: chL (sha (s ++ x)) r
theorem chS_snoc (s : List UInt8) (l : List (List UInt8)) (x : List UInt8) : chS s (l ++ [x]) = sha (chS s l ++ x) := by simp [chS]
theorem chL_snoc (s : List UInt8) (l : List (List UInt8)) (x : List UInt8) : chL s (l ++ [x]) = chL s l ++ [sha (chS s l ++ x)] := by
  induction l generalizing s with
  | nil => rfl
  | cons y r ih => rw [List.cons_append, chL, chL, ih, List.cons_append]; rfl
theorem chL_len (s : List UInt8) (l : List (List UInt8)) : (chL s l).length = l.length := by
  induction l generalizing s with
  | nil => rfl
  | cons y r ih => rw [chL, List.length_cons, List.length_cons, ih]
theorem chL_take (s : List UInt8) (l : List (List UInt8)) (k : Nat) : chL s (l.take k) = (chL s l).take k := by
  induction l generalizing s k with
  | nil => simp [chL]
  | cons y r ih =>
    cases k with
    | zero => simp [chL]
    | succ k => rw [List.take_succ_cons, chL, chL, List.take_succ_cons, ih]
theorem chS_len (s : List UInt8) (l : List (List UInt8)) (h : s.length ≤ 100) : (chS s l).length ≤ 100 := by
  induction l generalizing s with
  | nil => exact h
  | cons y r ih => exact ih _ (by rw [sha_len]; omega)
/-- strings and a code are returned -/
def StrsC (l : List (List UInt8)) (i : Int) (w : World) (e : Ending) (w' : World) : Prop := ∃ v, e = .returned (.tuple #[v, .int .i64 i]) ∧ rowS.Own w.heap.size w' v l ∧ Below w.heap.size w w'
set_option maxRecDepth 100000 in
set_option maxHeartbeats 4000000 in
theorem chain_any (s : List UInt8) (A : Option Addr) (n c : Nat) (l : List (List UInt8)) (w : World) (h : rowS.Rds w A n c l) (hs : s.length ≤ 100) (hl : ∀ x ∈ l, x.length ≤ 100000) (hn : n ≤ 10000) :
    Calls Tryz.prog 25 #[.string ⟨s.toArray⟩, .slice A n c] w (StrsC (chL s l) 0 w) := by
  have ll := Lib.hid h.len
  have L1 := Lib.hid h
  have HL := Lib.hid hl
  have HS0 := Lib.hid hs
  have HP := Lib.hid (fun W v (h1 : rowS.Own w.heap.size W v (chL s l)) (h2 : Below w.heap.size w W) => (show StrsC (chL s l) 0 w (.returned (.tuple #[v, .int .i64 0])) W from ⟨v, rfl, h1, h2⟩))
  have hd : decide (10000 < (n : Int)) = false := by simp; omega
  have hN := Lib.hid hn
  clear h hl hs
  generalize StrsC (chL s l) 0 w = Post at *
  go_enter Tryz.func25, Tryz.ntmps25
  go_wp2_with fail
  go_loopw [0, 6, 14] (fun t v i wr => ∃ (k : Nat) (q : List UInt8), k ≤ n ∧ i = .int .i64 (k : Int) ∧ t = .string ⟨q.toArray⟩ ∧ Hid (chS s (l.take k) = q) ∧ Hid (rowS.Own w.heap.size wr v (chL s (l.take k))) ∧ Hid (Below w.heap.size w wr)) (fun _ _ i _ => n - (intOf i).toNat)
  case atStart => exact ⟨0, s, by omega, rfl, rfl, Lib.hid rfl, Lib.hid (Row.Own.nil _ _), Lib.hid (Below.refl _ _)⟩
  case round =>
    obtain ⟨k, q, hk, rfl, rfl, HQ, HO, HB⟩ := hrel
    by_cases hlt : k < n
    · have hkl : k < l.length := by rw [ll.out]; exact hlt
      obtain ⟨b, o, rfl, _⟩ := L1.out.at_ (by omega)
      have hc := rdsS (L1.out.below HB.out) k hlt
      have hki : (k : Int) < (n : Int) := by omega
      have hdk : decide ((k : Int) < (n : Int)) = true := by simp; omega
      have hsz := HL.out _ (str_mem l k hkl)
      have hql : q.length ≤ 100 := by rw [← HQ.out]; exact chS_len _ _ HS0.out
      have HTK := Lib.hid (take_str l k hkl)
      have HOL := Lib.hid (show (chL s (l.take k)).length + 1 ≤ 1000000 by rw [chL_len, List.length_take]; have := hN.out; omega)
      generalize l.getD k [] = x at *
      obtain ⟨t, ht⟩ : ∃ t, q ++ x = t := ⟨_, rfl⟩
      have k1 := fun W => cat_run q x t (by omega) ht W
      have htl : t.length ≤ 200000 := by rw [← ht]; simp; omega
      have HS := Lib.hid (fun W => Sha.sum_any ⟨t.toArray⟩ W (by show t.toArray.size ≤ _; rw [List.size_toArray]; omega))
      rw [show (⟨t.toArray⟩ : ByteArray).data.toList = t from rfl] at HS
      have HT := Lib.hid ht
      clear ht htl hql hsz hkl
      obtain ⟨D, hD⟩ : ∃ D, Sha.sha t = D := ⟨_, rfl⟩
      rw [hD] at HS
      have HD := Lib.hid hD
      clear hD
      go_wp2_with fail
      refine (HS.out _).mono ?_
      rintro e w1 ⟨rfl, hb1⟩
      have hown1 := HO.out.below hb1
      have hbw1 : Below w.heap.size w w1 := HB.out.trans (hb1.mono HB.out.size)
      clear HO hb1
      go_wp2_with (at_builtin; go_must (refine Row.wp_append1 rowS_ok rfl (.tmp 22) (.tmp 24) rfl w.heap.size _ (chL s (l.take k)) w1 D _ _ rfl rfl rfl hown1 rfl hbw1.size HOL.out ?_); intro v' w5 hown' hg hv')
      have e1 : chS s (l.take (k + 1)) = D := by rw [HTK.out, chS_snoc, HQ.out, HT.out]; exact HD.out
      have e2 : chL s (l.take (k + 1)) = chL s (l.take k) ++ [D] := by rw [HTK.out, chL_snoc, HQ.out, HT.out, show sha t = D from HD.out]
      have HO2 := Lib.hid (show rowS.Own w.heap.size w5 v' (chL s (l.take (k + 1))) by rw [e2]; exact hown')
      have HB2 := Lib.hid (below_own hbw1 (Nat.le_refl _) hg (fun g e => (hown1.own g e).1))
      have HQ2 := Lib.hid e1
      clear e1 e2 hown' hg hv' hown1 hbw1
      go_roundw
      case rel => exact ⟨k + 1, D, by omega, by go_num, rfl, HQ2, HO2, HB2⟩
      case measure => simp [intOf]; omega
    · have hkn : k = n := by omega
      subst hkn
      have e := HO.out
      rw [List.take_of_length_le (by rw [ll.out]; exact Nat.le_refl _)] at e
      have HO2 := Lib.hid e
      clear e HO
      have hki : ¬ (k : Int) < (k : Int) := by omega
      go_wp2_with fail
      exact HP.out _ _ HO2.out HB.out
set_option maxRecDepth 100000 in
set_option maxHeartbeats 4000000 in
theorem refChain_any (s : List UInt8) (A : Option Addr) (n c : Nat) (l : List (List UInt8)) (w : World) (h : rowS.Rds w A n c l) (hs : s.length ≤ 100) (hl : ∀ x ∈ l, x.length ≤ 100000) (hn : n ≤ 10000) :
    Calls Tryz.prog 27 #[.string ⟨s.toArray⟩, .slice A n c] w (StrsC (chL s l) 0 w) := by
  have ll := Lib.hid h.len
  have L1 := Lib.hid h
  have HL := Lib.hid hl
  have HS0 := Lib.hid hs
  have HP := Lib.hid (fun W v (h1 : rowS.Own w.heap.size W v (chL s l)) (h2 : Below w.heap.size w W) => (show StrsC (chL s l) 0 w (.returned (.tuple #[v, .int .i64 0])) W from ⟨v, rfl, h1, h2⟩))
  have hd : decide (10000 < (n : Int)) = false := by simp; omega
  have hN := Lib.hid hn
  clear h hl hs
  generalize StrsC (chL s l) 0 w = Post at *
  go_enter Tryz.func27, Tryz.ntmps27
  go_wp2_with fail
  go_loopw [0, 6, 7] (fun t v i wr => ∃ (k : Nat) (q : List UInt8), k ≤ n ∧ i = .int .i64 (k : Int) ∧ t = .string ⟨q.toArray⟩ ∧ Hid (chS s (l.take k) = q) ∧ Hid (rowS.Own w.heap.size wr v (chL s (l.take k))) ∧ Hid (Below w.heap.size w wr)) (fun _ _ i _ => n - (intOf i).toNat)
  case atStart => exact ⟨0, s, by omega, rfl, rfl, Lib.hid rfl, Lib.hid (Row.Own.nil _ _), Lib.hid (Below.refl _ _)⟩
  case round =>
    obtain ⟨k, q, hk, rfl, rfl, HQ, HO, HB⟩ := hrel
    by_cases hlt : k < n
    · have hkl : k < l.length := by rw [ll.out]; exact hlt
      obtain ⟨b, o, rfl, _⟩ := L1.out.at_ (by omega)
      have hc := rdsS (L1.out.below HB.out) k hlt
      have hki : (k : Int) < (n : Int) := by omega
      have hdk : decide ((k : Int) < (n : Int)) = true := by simp; omega
      have hsz := HL.out _ (str_mem l k hkl)
      have hql : q.length ≤ 100 := by rw [← HQ.out]; exact chS_len _ _ HS0.out
      have HTK := Lib.hid (take_str l k hkl)
      have HOL := Lib.hid (show (chL s (l.take k)).length + 1 ≤ 1000000 by rw [chL_len, List.length_take]; have := hN.out; omega)
      generalize l.getD k [] = x at *
      obtain ⟨t, ht⟩ : ∃ t, q ++ x = t := ⟨_, rfl⟩
      have k1 := fun W => cat_run q x t (by omega) ht W
      have htl : t.length ≤ 200000 := by rw [← ht]; simp; omega
      have HS := Lib.hid (fun W => Sha.refSum_any ⟨t.toArray⟩ W (by show t.toArray.size ≤ _; rw [List.size_toArray]; omega))
      rw [show (⟨t.toArray⟩ : ByteArray).data.toList = t from rfl] at HS
      have HT := Lib.hid ht
      clear ht htl hql hsz hkl
      obtain ⟨D, hD⟩ : ∃ D, Sha.sha t = D := ⟨_, rfl⟩
      rw [hD] at HS
      have HD := Lib.hid hD
      clear hD
      go_wp2_with fail
      refine (HS.out _).mono ?_
      rintro e w1 ⟨rfl, hb1⟩
      have hown1 := HO.out.below hb1
      have hbw1 : Below w.heap.size w w1 := HB.out.trans (hb1.mono HB.out.size)
      clear HO hb1
      go_wp2_with (at_builtin; go_must (refine Row.wp_append1 rowS_ok rfl (.tmp 24) (.tmp 26) rfl w.heap.size _ (chL s (l.take k)) w1 D _ _ rfl rfl rfl hown1 rfl hbw1.size HOL.out ?_); intro v' w5 hown' hg hv')
      have e1 : chS s (l.take (k + 1)) = D := by rw [HTK.out, chS_snoc, HQ.out, HT.out]; exact HD.out
      have e2 : chL s (l.take (k + 1)) = chL s (l.take k) ++ [D] := by rw [HTK.out, chL_snoc, HQ.out, HT.out, show sha t = D from HD.out]
      have HO2 := Lib.hid (show rowS.Own w.heap.size w5 v' (chL s (l.take (k + 1))) by rw [e2]; exact hown')
      have HB2 := Lib.hid (below_own hbw1 (Nat.le_refl _) hg (fun g e => (hown1.own g e).1))
      have HQ2 := Lib.hid e1
      clear e1 e2 hown' hg hv' hown1 hbw1
      go_roundw
      case rel => exact ⟨k + 1, D, by omega, by go_num, rfl, HQ2, HO2, HB2⟩
      case measure => simp [intOf]; omega
    · have hkn : k = n := by omega
      subst hkn
      have e := HO.out
      rw [List.take_of_length_le (by rw [ll.out]; exact Nat.le_refl _)] at e
      have HO2 := Lib.hid e
      clear e HO
      have hki : ¬ (k : Int) < (k : Int) := by omega
      go_wp2_with fail
      exact HP.out _ _ HO2.out HB.out
end Go.Proofs.YtjcbohbpkodkoaaGreatDoor

/- Audit: contracts of both Trails. -/
namespace Go.Proofs.YtjcbohbpkodkoaaGreatDoor
open Go.RowKit Go.Maps Num

/-- the texts of posted entries, and their chain -/
noncomputable def poTs (ps : List PE) : List (List UInt8) := ps.map fun p => poT (poOf p)
noncomputable def traL (ps : List PE) : List (List UInt8) := if posL none (ps.map poOf) = true then chL [] (poTs ps) else []
def traI (ps : List PE) : Int := if posL none (ps.map poOf) = true then 0 else 1
/-- posted entries within the sizes of the statements -/
structure FitP (w : World) (p : PE) : Prop where
  rd : RdE w p.2
  by_ : p.1.2.2.length ≤ 60
  fit : Fit p.2.2.2.1 p.2.2.2.2
  k0 : -9223372036854775808 ≤ p.1.2.1
  k1 : p.1.2.1 ≤ 9223372036854775807
theorem FitP.below {w w' : World} {p : PE} (h : FitP w p) (hb : Below w.heap.size w w') : FitP w' p := ⟨h.rd.below hb, h.by_, h.fit, h.k0, h.k1⟩
theorem poT_len (p : PE) {w : World} (h : FitP w p) : (poT (poOf p)).length ≤ 20000 := by
  have h1 := hdT_len p.1.1 p.1.2.1 p.1.2.2 p.2.2.1 p.2.2.2.1 h.by_ h.fit.cause h.k0 h.k1
  have h2 := lnsT_len p.2.2.2.2 h.fit.ln
  have h3 := h.fit.len
  unfold poT
  rw [List.length_append]
  show (hdT p.1.1 p.1.2.1 p.1.2.2 p.2.2.1 p.2.2.2.1).length + (p.2.2.2.2.flatMap lnT).length ≤ _
  omega
theorem take_poT (ps : List PE) (k : Nat) (h : k < ps.length) : poTs (ps.take (k + 1)) = poTs (ps.take k) ++ [poT (poOf (ps.getD k pe0))] := by
  unfold poTs
  rw [take_pe ps k h, List.map_append]; rfl
set_option maxRecDepth 100000 in
set_option maxHeartbeats 8000000 in
theorem trail_any (A : Option Addr) (n c : Nat) (ps : List PE) (w : World) (h : rowPo.Rds w A n c ps) (hf : ∀ p ∈ ps, FitP w p) (hn : n ≤ 16) (ht : Tab w) (hm : ML w) :
    Calls Tryz.prog 9 #[.slice A n c] w (StrsC (traL ps) (traI ps) w) := by
  have ll := Lib.hid h.len
  have L1 := Lib.hid h
  have HF := Lib.hid hf
  have HT := Lib.hid ht
  have TR := Lib.hid (pTrial_any A n c ps w h (fun p hp => (hf p hp).rd) (fun p hp => by have h1 := hf p hp; have := h1.by_; have := h1.fit.cause; omega) hn ht hm)
  have HN := Lib.hid hn
  have HP0 := Lib.hid (fun W v (e : posL none (ps.map poOf) = false) (h1 : rowS.Own w.heap.size W v []) (h2 : Below w.heap.size w W) => (show StrsC (traL ps) (traI ps) w (.returned (.tuple #[v, .int .i64 1])) W from by
    have e1 : traL ps = [] := by unfold traL; rw [e]; rfl
    have e2 : traI ps = 1 := by unfold traI; rw [e]; rfl
    rw [e1, e2]; exact ⟨v, rfl, h1, h2⟩))
  have HP1 := Lib.hid (fun W v (e : posL none (ps.map poOf) = true) (h1 : rowS.Own w.heap.size W v (chL [] (poTs ps))) (h2 : Below w.heap.size w W) => (show StrsC (traL ps) (traI ps) w (.returned (.tuple #[v, .int .i64 0])) W from by
    have e1 : traL ps = chL [] (poTs ps) := by unfold traL; rw [e]; rfl
    have e2 : traI ps = 0 := by unfold traI; rw [e]; rfl
    rw [e1, e2]; exact ⟨v, rfl, h1, h2⟩))
  have HTL := Lib.hid (show ∀ x ∈ poTs ps, x.length ≤ 100000 from fun x hx => by
    obtain ⟨p, hp, rfl⟩ := List.mem_map.1 hx
    have := poT_len p (hf p hp)
    omega)
  unfold CodeC at TR
  generalize StrsC (traL ps) (traI ps) w = Post at *
  clear h hf ht hm
  cases hpo : posL none (ps.map poOf)
  · rw [hpo] at TR
    have TR1 := Lib.hid (show Calls Tryz.prog 23 #[.slice A n c, .int .i64 84005] w (fun e w' => ∃ v, e = .returned (.tuple #[v, .int .i64 1]) ∧ Below w.heap.size w w') from TR.out)
    have HP2 := Lib.hid (fun W v => HP0.out W v hpo)
    clear TR HP0 HP1 hpo
    go_enter Tryz.func9, Tryz.ntmps9
    go_wp2_with fail
    refine TR1.out.mono ?_
    rintro e w2 ⟨v, rfl, hb⟩
    have B2 := Lib.hid hb
    clear hb
    go_wp2_with fail
    exact HP2.out _ _ (Row.Own.nil _ _) B2.out
  rw [hpo] at TR
  have TR1 := Lib.hid (show Calls Tryz.prog 23 #[.slice A n c, .int .i64 84005] w (fun e w' => ∃ v, e = .returned (.tuple #[v, .int .i64 0]) ∧ Below w.heap.size w w') from TR.out)
  have HP2 := Lib.hid (fun W v => HP1.out W v hpo)
  clear TR HP0 HP1 hpo
  go_enter Tryz.func9, Tryz.ntmps9
  go_wp2_with fail
  refine TR1.out.mono ?_
  rintro e w2 ⟨v, rfl, hb⟩
  have B2 := Lib.hid hb
  clear hb TR1
  go_wp2_with fail
  go_loopw [6, 18] (fun v i wr => ∃ k : Nat, k ≤ n ∧ i = .int .i64 (k : Int) ∧ Hid (rowS.Own w.heap.size wr v (poTs (ps.take k))) ∧ Hid (Below w.heap.size w wr)) (fun _ i _ => n - (intOf i).toNat)
  case atStart => exact ⟨0, by omega, rfl, Lib.hid (Row.Own.nil _ _), B2⟩
  case round =>
    obtain ⟨k, hk, rfl, HO, HB⟩ := hrel
    by_cases hlt : k < n
    · have hkl : k < ps.length := by rw [ll.out]; exact hlt
      obtain ⟨b1, o1, rfl, hb1, _⟩ := L1.out.at_ (by omega)
      obtain ⟨q0, q1, q2, q3, q4, q5⟩ := rdsP_cells (L1.out.below HB.out) k hlt
      have hfp := HF.out _ (pe_mem ps k hkl)
      have htk := take_poT ps k hkl
      have HLN := Lib.hid (show (poTs (ps.take k)).length + 1 ≤ 1000000 by unfold poTs; rw [List.length_map, List.length_take]; omega)
      have hki : (k : Int) < (n : Int) := by omega
      generalize ps.getD k pe0 = p at *
      obtain ⟨⟨d, kn, bz⟩, ⟨d1, y1, A1, n1, m1⟩, ⟨d2, y2, l2⟩⟩ := p
      obtain ⟨⟨e1, e2, e3⟩, f1, f2, f3, f4⟩ := hfp
      simp only [rawA, rawN, rawC] at q0 q1 q2 q3 q4 q5 e1 e2 e3 f1 f2 f3 f4
      subst e1 e2
      have B1 := Lib.hid (HB.out.alloc HB.out.size (.cells #[.int .i64 d, .int .i64 kn, .string ⟨bz.toArray⟩, .int .i64 d1, .string ⟨y1.toArray⟩, .slice A1 n1 m1] 42))
      have X0 := Lib.hid (heap_alloc_new wr (.cells #[.int .i64 d, .int .i64 kn, .string ⟨bz.toArray⟩, .int .i64 d1, .string ⟨y1.toArray⟩, .slice A1 n1 m1] 42))
      have O1 := Lib.hid (HO.out.alloc (.cells #[.int .i64 d, .int .i64 kn, .string ⟨bz.toArray⟩, .int .i64 d1, .string ⟨y1.toArray⟩, .slice A1 n1 m1] 42))
      have TX := Lib.hid (fun W (hb : Below w.heap.size w W) => ptext_any d kn bz d1 y1 A1 n1 m1 l2 W (e3.below hb) f1 f2.cause (by rw [← e3.len]; exact f2.len) f2.ln f3 f4 (HT.out.below hb))
      unfold StrPost poC at TX
      have htk2 : poTs (ps.take (k + 1)) = poTs (ps.take k) ++ [poT ((d, kn, bz), (d1, y1, l2))] := htk
      generalize poT ((d, kn, bz), (d1, y1, l2)) = PT at *
      have HTK := Lib.hid htk2
      clear HO htk htk2 e3 f1 f2 f3 f4
      go_upto_region 8 with fail
      generalize wr.alloc (.cells #[.int .i64 d, .int .i64 kn, .string ⟨bz.toArray⟩, .int .i64 d1, .string ⟨y1.toArray⟩, .slice A1 n1 m1] 42) = w1 at *
      clear q0 q1 q2 q3 q4 q5
      obtain ⟨c0, c1, c2, c3, c4, c5⟩ := cellsP X0.out
      go_wp2_with fail
      refine (TX.out _ B1.out).mono ?_
      rintro e w4 ⟨rfl, hb⟩
      have B4 := Lib.hid (below_next B1.out hb ⟨rfl, rfl, rfl, rfl⟩)
      have O4 := Lib.hid (O1.out.below hb)
      have hB4 := B4.out.size
      clear hb TX c0 c1 c2 c3 c4 c5
      go_wp2_with (at_builtin; go_must (refine Row.wp_append1 rowS_ok rfl (.tmp 22) (.tmp 25) rfl w.heap.size _ (poTs (ps.take k)) w4 PT _ _ rfl rfl rfl O4.out rfl hB4 HLN.out ?_); intro v' w5 hown' hg hv')
      have HO2 := Lib.hid (show rowS.Own w.heap.size w5 v' (poTs (ps.take (k + 1))) by rw [HTK.out]; exact hown')
      have HB2 := Lib.hid (below_own B4.out (Nat.le_refl _) hg (fun g e => (O4.out.own g e).1))
      clear hown' hg hv' hB4
      go_roundw
      case rel => exact ⟨k + 1, by omega, by go_num, HO2, HB2⟩
      case measure => simp [intOf]; omega
    · have hkn : k = n := by omega
      subst hkn
      have hki : ¬ (k : Int) < (k : Int) := by omega
      have ho := HO.out
      rw [List.take_of_length_le (by rw [ll.out]; exact Nat.le_refl _)] at ho
      obtain ⟨A', c', rfl, hrd⟩ := ho.rds
      have hlen : (poTs ps).length = k := by unfold poTs; rw [List.length_map, ll.out]
      rw [hlen] at hrd ⊢
      have CH := Lib.hid (chain_any [] A' k c' (poTs ps) wr hrd (by simp) HTL.out (by omega))
      unfold StrsC at CH
      clear hrd ho HO hlen
      go_wp2_with fail
      refine CH.out.mono ?_
      rintro e w6 ⟨v, rfl, ho6, hb⟩
      have B6 := Lib.hid (below_next HB.out hb ⟨rfl, rfl, rfl, rfl⟩)
      have O6 := Lib.hid (ho6.mono HB.out.size)
      clear hb ho6 CH
      go_wp2_with fail
      exact HP2.out _ _ O6.out B6.out
end Go.Proofs.YtjcbohbpkodkoaaGreatDoor

/- Audit: contract of the reference's Trail. -/
namespace Go.Proofs.YtjcbohbpkodkoaaGreatDoor
open Go.RowKit Go.Maps Num

theorem rowS_fresh (w : World) : rowS.Own w.heap.size (w.alloc (.cells #[] 9)) (.slice (some ⟨w.heap.size, 0, none⟩) 0 0) [] :=
  ⟨by simp [Row.vs], .inr ⟨w.heap.size, 0, #[], rfl, Nat.le_refl _, heap_alloc_new w _, Nat.le_refl _, by unfold maxLen; omega, rfl, by simp [Row.vs]⟩⟩
set_option maxRecDepth 100000 in
set_option maxHeartbeats 8000000 in
theorem rtrail_any (A : Option Addr) (n c : Nat) (ps : List PE) (w : World) (h : rowPo.Rds w A n c ps) (hf : ∀ p ∈ ps, FitP w p) (hn : n ≤ 16) :
    Calls Tryz.prog 10 #[.slice A n c] w (StrsC (traL ps) (traI ps) w) := by
  have ll := Lib.hid h.len
  have L1 := Lib.hid h
  have HF := Lib.hid hf
  have TR := Lib.hid (rcheckP_any A n c ps w h (fun p hp => ⟨(hf p hp).rd, fun x hx => ((hf p hp).fit.ln x hx).2.2⟩) (fun p hp => by have h1 := hf p hp; have := h1.by_; have := h1.fit.cause; unfold maxLen; omega) (by omega))
  have HN := Lib.hid hn
  have HP0 := Lib.hid (fun W v (e : posL none (ps.map poOf) = false) (h1 : rowS.Own w.heap.size W v []) (h2 : Below w.heap.size w W) => (show StrsC (traL ps) (traI ps) w (.returned (.tuple #[v, .int .i64 1])) W from by
    have e1 : traL ps = [] := by unfold traL; rw [e]; rfl
    have e2 : traI ps = 1 := by unfold traI; rw [e]; rfl
    rw [e1, e2]; exact ⟨v, rfl, h1, h2⟩))
  have HP1 := Lib.hid (fun W v (e : posL none (ps.map poOf) = true) (h1 : rowS.Own w.heap.size W v (chL [] (poTs ps))) (h2 : Below w.heap.size w W) => (show StrsC (traL ps) (traI ps) w (.returned (.tuple #[v, .int .i64 0])) W from by
    have e1 : traL ps = chL [] (poTs ps) := by unfold traL; rw [e]; rfl
    have e2 : traI ps = 0 := by unfold traI; rw [e]; rfl
    rw [e1, e2]; exact ⟨v, rfl, h1, h2⟩))
  have HTL := Lib.hid (show ∀ x ∈ poTs ps, x.length ≤ 100000 from fun x hx => by
    obtain ⟨p, hp, rfl⟩ := List.mem_map.1 hx
    have := poT_len p (hf p hp)
    omega)
  unfold IntPost at TR
  generalize StrsC (traL ps) (traI ps) w = Post at *
  clear h hf
  cases hpo : posL none (ps.map poOf)
  · rw [hpo] at TR
    have TR1 := Lib.hid (show Calls Tryz.prog 14 #[.slice A n c] w (fun e w' => e = .returned (.int .i64 1) ∧ Below w.heap.size w w') from TR.out)
    have HP2 := Lib.hid (fun W v => HP0.out W v hpo)
    clear TR HP0 HP1 hpo
    go_enter Tryz.func10, Tryz.ntmps10
    go_wp2_with fail
    refine TR1.out.mono ?_
    rintro e w2 ⟨rfl, hb⟩
    have B2 := Lib.hid hb
    clear hb
    go_wp2_with fail
    exact HP2.out _ _ ((rowS_fresh w2).mono B2.out.size) (B2.out.alloc B2.out.size _)
  rw [hpo] at TR
  have TR1 := Lib.hid (show Calls Tryz.prog 14 #[.slice A n c] w (fun e w' => e = .returned (.int .i64 0) ∧ Below w.heap.size w w') from TR.out)
  have HP2 := Lib.hid (fun W v => HP1.out W v hpo)
  clear TR HP0 HP1 hpo
  go_enter Tryz.func10, Tryz.ntmps10
  go_wp2_with fail
  refine TR1.out.mono ?_
  rintro e w2 ⟨rfl, hb⟩
  have B2 := Lib.hid hb
  clear hb TR1
  go_wp2_with fail
  go_loopw [4, 5] (fun v i wr => ∃ k : Nat, k ≤ n ∧ i = .int .i64 (k : Int) ∧ Hid (rowS.Own w.heap.size wr v (poTs (ps.take k))) ∧ Hid (Below w.heap.size w wr)) (fun _ i _ => n - (intOf i).toNat)
  case atStart => exact ⟨0, by omega, rfl, Lib.hid ((rowS_fresh w2).mono B2.out.size), Lib.hid (B2.out.alloc B2.out.size _)⟩
  case round =>
    obtain ⟨k, hk, rfl, HO, HB⟩ := hrel
    by_cases hlt : k < n
    · have hkl : k < ps.length := by rw [ll.out]; exact hlt
      obtain ⟨b1, o1, rfl, hb1, _⟩ := L1.out.at_ (by omega)
      obtain ⟨q0, q1, q2, q3, q4, q5⟩ := rdsP_cells (L1.out.below HB.out) k hlt
      have hfp := HF.out _ (pe_mem ps k hkl)
      have htk := take_poT ps k hkl
      have HLN := Lib.hid (show (poTs (ps.take k)).length + 1 ≤ 1000000 by unfold poTs; rw [List.length_map, List.length_take]; omega)
      have hki : (k : Int) < (n : Int) := by omega
      generalize ps.getD k pe0 = p at *
      obtain ⟨⟨d, kn, bz⟩, ⟨d1, y1, A1, n1, m1⟩, ⟨d2, y2, l2⟩⟩ := p
      obtain ⟨⟨e1, e2, e3⟩, f1, f2, f3, f4⟩ := hfp
      simp only [rawA, rawN, rawC] at q0 q1 q2 q3 q4 q5 e1 e2 e3 f1 f2 f3 f4
      subst e1 e2
      have TX := Lib.hid (fun W (hb : Below w.heap.size w W) => rtext_any d kn bz d1 y1 A1 n1 m1 l2 W (e3.below hb) f1 f2.cause (by rw [← e3.len]; exact f2.len) f2.ln f3 f4)
      unfold StrPost poC at TX
      have htk2 : poTs (ps.take (k + 1)) = poTs (ps.take k) ++ [poT ((d, kn, bz), (d1, y1, l2))] := htk
      generalize poT ((d, kn, bz), (d1, y1, l2)) = PT at *
      have HTK := Lib.hid htk2
      clear htk htk2 e3 f1 f2 f3 f4
      go_wp2_with fail
      refine (TX.out _ HB.out).mono ?_
      rintro e w4 ⟨rfl, hb⟩
      have B4 := Lib.hid (below_next HB.out hb ⟨rfl, rfl, rfl, rfl⟩)
      have O4 := Lib.hid (HO.out.below hb)
      have hB4 := B4.out.size
      clear hb TX q0 q1 q2 q3 q4 q5 HO
      go_wp2_with (at_builtin; go_must (refine Row.wp_append1 rowS_ok rfl (.tmp 17) (.tmp 23) rfl w.heap.size _ (poTs (ps.take k)) w4 PT _ _ rfl rfl rfl O4.out rfl hB4 HLN.out ?_); intro v' w5 hown' hg hv')
      have HO2 := Lib.hid (show rowS.Own w.heap.size w5 v' (poTs (ps.take (k + 1))) by rw [HTK.out]; exact hown')
      have HB2 := Lib.hid (below_own B4.out (Nat.le_refl _) hg (fun g e => (O4.out.own g e).1))
      clear hown' hg hv' hB4
      go_roundw
      case rel => exact ⟨k + 1, by omega, by go_num, HO2, HB2⟩
      case measure => simp [intOf]; omega
    · have hkn : k = n := by omega
      subst hkn
      have hki : ¬ (k : Int) < (k : Int) := by omega
      have ho := HO.out
      rw [List.take_of_length_le (by rw [ll.out]; exact Nat.le_refl _)] at ho
      obtain ⟨A', c', rfl, hrd⟩ := ho.rds
      have hlen : (poTs ps).length = k := by unfold poTs; rw [List.length_map, ll.out]
      rw [hlen] at hrd ⊢
      have CH := Lib.hid (refChain_any [] A' k c' (poTs ps) wr hrd (by simp) HTL.out (by omega))
      unfold StrsC at CH
      clear hrd ho HO hlen
      go_wp2_with fail
      refine CH.out.mono ?_
      rintro e w6 ⟨v, rfl, ho6, hb⟩
      have B6 := Lib.hid (below_next HB.out hb ⟨rfl, rfl, rfl, rfl⟩)
      have O6 := Lib.hid (ho6.mono HB.out.size)
      clear hb ho6 CH
      go_wp2_with fail
      exact HP2.out _ _ O6.out B6.out
end Go.Proofs.YtjcbohbpkodkoaaGreatDoor

/- Contracts of both Changed, of slices.Equal at strings, of slices.ContainsFunc at the law's closure. -/
namespace Go.Proofs.YtjcbohbpkodkoaaGreatDoor
open Go.RowKit Go.Maps Num

/-- the first place at which lists differ -/
def chg : List (List UInt8) → List (List UInt8) → Nat → Option Nat
  | [], [], _ => none
  | [], _ :: _, k => some k
  | _ :: _, [], k => some k
  | x :: r, y :: t, k => if x = y then chg r t (k + 1) else some k
def ChgP (o : Option Nat) (w : World) (e : Ending) (w' : World) : Prop := e = .returned (.tuple #[.int .i64 ((o.getD 0 : Nat) : Int), .bool o.isSome]) ∧ Below w.heap.size w w'
theorem drop_str (l : List (List UInt8)) (k : Nat) (h : k < l.length) : l.drop k = l.getD k [] :: l.drop (k + 1) := by
  rw [List.drop_eq_getElem_cons h, List.getD_eq_getElem?_getD, List.getElem?_eq_getElem h]; rfl
set_option maxRecDepth 100000 in
set_option maxHeartbeats 8000000 in
theorem changed_any (A B : Option Addr) (n c m d : Nat) (a b : List (List UInt8)) (w : World) (h : rowS.Rds w A n c a) (h2 : rowS.Rds w B m d b) (hn : n ≤ 1000000) (hm : m ≤ 1000000) :
    Calls Tryz.prog 11 #[.slice A n c, .slice B m d] w (ChgP (chg a b 0) w) := by
  have la := Lib.hid h.len
  have lb := Lib.hid h2.len
  have L1 := Lib.hid h
  have L2 := Lib.hid h2
  have HPn := Lib.hid (fun W (e : chg a b 0 = none) (h : Below w.heap.size w W) => (show ChgP (chg a b 0) w (.returned (.tuple #[.int .i64 0, .bool false])) W from ⟨by rw [e]; rfl, h⟩))
  have HPs := Lib.hid (fun W k (e : chg a b 0 = some k) (h : Below w.heap.size w W) => (show ChgP (chg a b 0) w (.returned (.tuple #[.int .i64 (k : Int), .bool true])) W from ⟨by rw [e]; rfl, h⟩))
  have R0 := Lib.hid (show chg a b 0 = chg (a.drop 0) (b.drop 0) 0 by rw [List.drop_zero, List.drop_zero])
  generalize ChgP (chg a b 0) w = Post at *
  generalize chg a b 0 = r at *
  clear h h2
  obtain ⟨M, hM⟩ : ∃ M, max n m = M := ⟨_, rfl⟩
  have hmi : max (n : Int) (m : Int) = (M : Int) := by omega
  have hM1 : n ≤ M := by omega
  have hM2 : m ≤ M := by omega
  have hM3 : M ≤ 1000000 := by omega
  have hM4 := Lib.hid hM
  clear hM
  go_enter Tryz.func11, Tryz.ntmps11
  go_wp2_with fail
  go_loopw [12] (fun i wr => ∃ k : Nat, k ≤ M ∧ i = .int .i64 (k : Int) ∧ Hid (r = chg (a.drop k) (b.drop k) k) ∧ Hid (Below w.heap.size w wr)) (fun i _ => M - (intOf i).toNat)
  case atStart => exact ⟨0, by omega, rfl, R0, Lib.hid (Below.refl _ _)⟩
  case round =>
    clear R0
    obtain ⟨k, hk, rfl, HR, HB⟩ := hrel
    by_cases hlt : k < M
    · have hki : (k : Int) < (M : Int) := by omega
      by_cases h1 : k < n
      · obtain ⟨b1, o1, rfl, hb1, _⟩ := L1.out.at_ (by omega)
        have q1 := rdsS (L1.out.below HB.out) k h1
        have e1 := drop_str a k (by rw [la.out]; exact h1)
        have hr := HR.out
        have t1 : decide ((n : Int) ≤ (k : Int)) = false := decide_eq_false (by omega)
        have t1' : (k : Int) < (n : Int) := by omega
        by_cases h3 : k < m
        · obtain ⟨b2, o2, rfl, hb2, _⟩ := L2.out.at_ (by omega)
          have q2 := rdsS (L2.out.below HB.out) k h3
          have e2 := drop_str b k (by rw [lb.out]; exact h3)
          have t2 : decide ((m : Int) ≤ (k : Int)) = false := decide_eq_false (by omega)
          have t2' : (k : Int) < (m : Int) := by omega
          rw [e1, e2] at hr
          clear e1 e2
          generalize a.getD k [] = x at *
          generalize b.getD k [] = y at *
          by_cases hxy : x = y
          · subst hxy
            have HR2 := Lib.hid (show r = chg (a.drop (k + 1)) (b.drop (k + 1)) (k + 1) by rw [hr, chg, if_pos rfl])
            clear hr HR
            go_upto_region 4 with fail
            go_quiet (fail)
            have HB2 := Lib.hid (below_dr HB.out nq)
            go_wp2_with fail
            go_roundw
            case rel => exact ⟨k + 1, by omega, by go_num, HR2, HB2⟩
            case measure => simp [intOf]; omega
          · have hv := Lib.hid (show r = some k by rw [hr, chg, if_neg hxy])
            have t3 : (x == y) = false := beq_eq_false_iff_ne.2 hxy
            clear hr HR hxy
            go_upto_region 4 with fail
            go_quiet (fail)
            have HB2 := Lib.hid (below_dr HB.out nq)
            go_wp2_with fail
            exact HPs.out _ _ hv.out HB2.out
        · have t2 : decide ((m : Int) ≤ (k : Int)) = true := decide_eq_true (by omega)
          have hv := Lib.hid (show r = some k by rw [hr, e1, List.drop_of_length_le (show b.length ≤ k by rw [lb.out]; omega)]; rfl)
          clear hr HR e1
          go_upto_region 4 with fail
          go_quiet (fail)
          have HB2 := Lib.hid (below_dr HB.out nq)
          go_wp2_with fail
          exact HPs.out _ _ hv.out HB2.out
      · have h3 : k < m := by have := hM4.out; omega
        have hr := HR.out
        have e2 := drop_str b k (by rw [lb.out]; exact h3)
        have t1 : decide ((n : Int) ≤ (k : Int)) = true := decide_eq_true (by omega)
        have hv := Lib.hid (show r = some k by rw [hr, e2, List.drop_of_length_le (show a.length ≤ k by rw [la.out]; omega)]; rfl)
        have t1' : decide (n ≤ k) = true := decide_eq_true (by omega)
        clear hr HR e2
        go_upto_region 4 with fail
        refine wp_region_quiet_bel (by kernel_rfl) (by kernel_rfl) ?_
        repeat (go_big_quiet_step (fail))
        refine wpQuiet_nil ?_
        intro wq' hw'
        obtain ⟨⟨wq, hq⟩, hw2⟩ := hw'
        have hw3 : wq' = wq := hw2
        subst hw3
        have HB2 := Lib.hid (below_next HB.out hq ⟨rfl, rfl, rfl, rfl⟩)
        go_wp2_with fail
        exact HPs.out _ _ hv.out HB2.out
    · have hkM : k = M := by omega
      have hki : ¬ (k : Int) < (M : Int) := by omega
      have hv := Lib.hid (show r = none by rw [HR.out, List.drop_of_length_le (show a.length ≤ k by rw [la.out]; omega), List.drop_of_length_le (show b.length ≤ k by rw [lb.out]; omega)]; rfl)
      subst hkM
      clear HR
      go_wp2_with fail
      exact HPn.out _ hv.out HB.out
end Go.Proofs.YtjcbohbpkodkoaaGreatDoor

/- Contracts of the reference's Changed, of slices.Equal at strings, of slices.ContainsFunc at the law's closure. -/
namespace Go.Proofs.YtjcbohbpkodkoaaGreatDoor
open Go.RowKit Go.Maps Num

set_option maxRecDepth 100000 in
set_option maxHeartbeats 8000000 in
theorem rchanged_any (A B : Option Addr) (n c m d : Nat) (a b : List (List UInt8)) (w : World) (h : rowS.Rds w A n c a) (h2 : rowS.Rds w B m d b) (hn : n ≤ 1000000) (hm : m ≤ 1000000) :
    Calls Tryz.prog 12 #[.slice A n c, .slice B m d] w (ChgP (chg a b 0) w) := by
  have la := Lib.hid h.len
  have lb := Lib.hid h2.len
  have L1 := Lib.hid h
  have L2 := Lib.hid h2
  have HPn := Lib.hid (fun W (e : chg a b 0 = none) (h : Below w.heap.size w W) => (show ChgP (chg a b 0) w (.returned (.tuple #[.int .i64 0, .bool false])) W from ⟨by rw [e]; rfl, h⟩))
  have HPs := Lib.hid (fun W k (e : chg a b 0 = some k) (h : Below w.heap.size w W) => (show ChgP (chg a b 0) w (.returned (.tuple #[.int .i64 (k : Int), .bool true])) W from ⟨by rw [e]; rfl, h⟩))
  have R0 := Lib.hid (show chg a b 0 = chg (a.drop 0) (b.drop 0) 0 by rw [List.drop_zero, List.drop_zero])
  generalize ChgP (chg a b 0) w = Post at *
  generalize chg a b 0 = r at *
  clear h h2
  obtain ⟨M, hM⟩ : ∃ M, max n m = M := ⟨_, rfl⟩
  have hmi : max (n : Int) (m : Int) = (M : Int) := by omega
  have hM1 : n ≤ M := by omega
  have hM2 : m ≤ M := by omega
  have hM3 : M ≤ 1000000 := by omega
  have hM4 := Lib.hid hM
  clear hM
  go_enter Tryz.func12, Tryz.ntmps12
  go_wp2_with fail
  go_loopw [6] (fun i wr => ∃ k : Nat, k ≤ M ∧ i = .int .i64 (k : Int) ∧ Hid (r = chg (a.drop k) (b.drop k) k) ∧ Hid (Below w.heap.size w wr)) (fun i _ => M - (intOf i).toNat)
  case atStart => exact ⟨0, by omega, rfl, R0, Lib.hid (Below.refl _ _)⟩
  case round =>
    clear R0
    obtain ⟨k, hk, rfl, HR, HB⟩ := hrel
    by_cases hlt : k < M
    · have hki : (k : Int) < (M : Int) := by omega
      by_cases h1 : k < n
      · obtain ⟨b1, o1, rfl, hb1, _⟩ := L1.out.at_ (by omega)
        have q1 := rdsS (L1.out.below HB.out) k h1
        have e1 := drop_str a k (by rw [la.out]; exact h1)
        have hr := HR.out
        have t1 : decide ((n : Int) ≤ (k : Int)) = false := decide_eq_false (by omega)
        have t1' : (k : Int) < (n : Int) := by omega
        have u1 : decide ((k : Int) < (n : Int)) = true := decide_eq_true (by omega)
        have u1' : decide (k < n) = true := decide_eq_true (by omega)
        by_cases h3 : k < m
        · obtain ⟨b2, o2, rfl, hb2, _⟩ := L2.out.at_ (by omega)
          have q2 := rdsS (L2.out.below HB.out) k h3
          have e2 := drop_str b k (by rw [lb.out]; exact h3)
          have t2 : decide ((m : Int) ≤ (k : Int)) = false := decide_eq_false (by omega)
          have t2' : (k : Int) < (m : Int) := by omega
          rw [e1, e2] at hr
          clear e1 e2
          generalize a.getD k [] = x at *
          generalize b.getD k [] = y at *
          by_cases hxy : x = y
          · subst hxy
            have HR2 := Lib.hid (show r = chg (a.drop (k + 1)) (b.drop (k + 1)) (k + 1) by rw [hr, chg, if_pos rfl])
            clear hr HR
            go_upto_region 4 with fail
            go_quiet (fail)
            have HB2 := Lib.hid (below_dr HB.out nq)
            go_wp2_with fail
            go_roundw
            case rel => exact ⟨k + 1, by omega, by go_num, HR2, HB2⟩
            case measure => simp [intOf]; omega
          · have hv := Lib.hid (show r = some k by rw [hr, chg, if_neg hxy])
            have t3 : (x == y) = false := beq_eq_false_iff_ne.2 hxy
            clear hr HR hxy
            go_upto_region 4 with fail
            go_quiet (fail)
            have HB2 := Lib.hid (below_dr HB.out nq)
            go_wp2_with fail
            exact HPs.out _ _ hv.out HB2.out
        · have t2 : decide ((m : Int) ≤ (k : Int)) = true := decide_eq_true (by omega)
          have hv := Lib.hid (show r = some k by rw [hr, e1, List.drop_of_length_le (show b.length ≤ k by rw [lb.out]; omega)]; rfl)
          clear hr HR e1
          go_upto_region 4 with fail
          go_quiet (fail)
          have HB2 := Lib.hid (below_dr HB.out nq)
          go_wp2_with fail
          exact HPs.out _ _ hv.out HB2.out
      · have h3 : k < m := by have := hM4.out; omega
        have hr := HR.out
        have e2 := drop_str b k (by rw [lb.out]; exact h3)
        have t1 : decide ((n : Int) ≤ (k : Int)) = true := decide_eq_true (by omega)
        have hv := Lib.hid (show r = some k by rw [hr, e2, List.drop_of_length_le (show a.length ≤ k by rw [la.out]; omega)]; rfl)
        have t1' : decide (n ≤ k) = true := decide_eq_true (by omega)
        have u1 : decide ((k : Int) < (n : Int)) = false := decide_eq_false (by omega)
        have u1' : decide (k < n) = false := decide_eq_false (by omega)
        have u2 : decide ((k : Int) < (m : Int)) = true := decide_eq_true (by omega)
        have u2' : decide (k < m) = true := decide_eq_true (by omega)
        clear hr HR e2
        go_upto_region 4 with fail
        refine wp_region_quiet_bel (by kernel_rfl) (by kernel_rfl) ?_
        repeat (go_big_quiet_step (fail))
        refine wpQuiet_nil ?_
        intro wq' hw'
        obtain ⟨⟨wq, hq⟩, hw2⟩ := hw'
        have hw3 : wq' = wq := hw2
        subst hw3
        have HB2 := Lib.hid (below_next HB.out hq ⟨rfl, rfl, rfl, rfl⟩)
        go_wp2_with fail
        exact HPs.out _ _ hv.out HB2.out
    · have hkM : k = M := by omega
      have u1 : decide ((k : Int) < (n : Int)) = false := decide_eq_false (by omega)
      have u1' : decide (k < n) = false := decide_eq_false (by omega)
      have u2 : decide ((k : Int) < (m : Int)) = false := decide_eq_false (by omega)
      have u2' : decide (k < m) = false := decide_eq_false (by omega)
      have hv := Lib.hid (show r = none by rw [HR.out, List.drop_of_length_le (show a.length ≤ k by rw [la.out]; omega), List.drop_of_length_le (show b.length ≤ k by rw [lb.out]; omega)]; rfl)
      subst hkM
      clear HR
      go_wp2_with fail
      exact HPn.out _ hv.out HB.out
set_option maxRecDepth 100000 in
set_option maxHeartbeats 4000000 in
theorem equalS_any (A B : Option Addr) (n c m d : Nat) (a b : List (List UInt8)) (w : World) (h : rowS.Rds w A n c a) (h2 : rowS.Rds w B m d b) (hn : n ≤ 1000000) (hm : m ≤ 1000000) :
    Calls Tryz.prog 13 #[.slice A n c, .slice B m d] w (BoolPost (decide (a = b)) w) := by
  have la := Lib.hid h.len
  have lb := Lib.hid h2.len
  have L1 := Lib.hid h
  have L2 := Lib.hid h2
  have HP := Lib.hid (fun W r (e : (a = b) ↔ r = true) (h : Below w.heap.size w W) => (show BoolPost (decide (a = b)) w (.returned (.bool r)) W from ⟨by
    rw [show decide (a = b) = r from by
      cases r
      · exact decide_eq_false fun e2 => absurd (e.1 e2) (by decide)
      · exact decide_eq_true (e.2 rfl)], h⟩))
  generalize BoolPost (decide (a = b)) w = Post at *
  clear h h2
  by_cases hnm : n = m
  case neg =>
    have t1 : ((n : Int) == (m : Int)) = false := beq_eq_false_iff_ne.2 (by omega)
    have t2 : (n == m) = false := beq_eq_false_iff_ne.2 hnm
    have t3 : ((n : Int) != (m : Int)) = true := by rw [bne_iff_ne]; omega
    have hv := Lib.hid (show (a = b) ↔ false = true from ⟨fun e => absurd (by rw [← la.out, ← lb.out, e]) hnm, fun e => by cases e⟩)
    clear hnm
    go_enter Tryz.func13, Tryz.ntmps13
    go_wp2_with fail
    exact HP.out _ _ hv.out (Below.refl _ _)
  subst hnm
  go_enter Tryz.func13, Tryz.ntmps13
  go_wp2_with fail
  go_loopw [13] (fun i wr => ∃ k : Nat, k ≤ n ∧ i = .int .i64 (k : Int) ∧ Hid (a.take k = b.take k) ∧ Hid (Below w.heap.size w wr)) (fun i _ => n - (intOf i).toNat)
  case atStart => exact ⟨0, by omega, rfl, Lib.hid (by simp), Lib.hid (Below.refl _ _)⟩
  case round =>
    obtain ⟨k, hk, rfl, HR, HB⟩ := hrel
    by_cases hlt : k < n
    · have hki : (k : Int) < (n : Int) := by omega
      obtain ⟨b1, o1, rfl, hb1, _⟩ := L1.out.at_ (by omega)
      obtain ⟨b2, o2, rfl, hb2, _⟩ := L2.out.at_ (by omega)
      have q1 := rdsS (L1.out.below HB.out) k hlt
      have q2 := rdsS (L2.out.below HB.out) k hlt
      have e1 := take_str a k (by rw [la.out]; exact hlt)
      have e2 := take_str b k (by rw [lb.out]; exact hlt)
      have HD := Lib.hid (show a.getD k [] ≠ b.getD k [] → a ≠ b from fun h e => h (by rw [e]))
      generalize a.getD k [] = x at *
      generalize b.getD k [] = y at *
      by_cases hxy : x = y
      · subst hxy
        have HR2 := Lib.hid (show a.take (k + 1) = b.take (k + 1) by rw [e1, e2, HR.out])
        clear e1 e2 HR HD
        go_upto_region 6 with fail
        go_quiet (fail)
        have HB2 := Lib.hid (below_dr HB.out nq)
        go_wp2_with fail
        go_roundw
        case rel => exact ⟨k + 1, by omega, by go_num, HR2, HB2⟩
        case measure => simp [intOf]; omega
      · have hv := Lib.hid (show (a = b) ↔ false = true from ⟨fun e => absurd e (HD.out hxy), fun e => by cases e⟩)
        have t3 : (x == y) = false := beq_eq_false_iff_ne.2 hxy
        clear e1 e2 HR HD hxy
        go_upto_region 6 with fail
        go_quiet (fail)
        have HB2 := Lib.hid (below_dr HB.out nq)
        go_wp2_with fail
        exact HP.out _ _ hv.out HB2.out
    · have hkn : k = n := by omega
      subst hkn
      have hki : ¬ (k : Int) < (k : Int) := by omega
      have e := HR.out
      rw [List.take_of_length_le (by rw [la.out]; exact Nat.le_refl _), List.take_of_length_le (by rw [lb.out]; exact Nat.le_refl _)] at e
      have hv := Lib.hid (show a = b from e)
      clear e HR
      go_wp2_with fail
      exact HP.out _ true ⟨fun _ => rfl, fun _ => hv.out⟩ HB.out
/-- longer than the statements examine -/
def lgB (s : List UInt8) : Bool := decide (60 < s.length)
set_option maxRecDepth 100000 in
theorem long_any (s : List UInt8) (w : World) : Calls Tryz.prog 5 #[.string ⟨s.toArray⟩] w (RetP (.bool (lgB s)) w) := by
  have h : lgB s = decide ((60 : Int) < (s.length : Int)) := by
    unfold lgB
    rw [Bool.eq_iff_iff, decide_eq_true_iff, decide_eq_true_iff]; omega
  rw [h]
  go_enter Tryz.func5, Tryz.ntmps5
  go_wp2_with fail
  go_ret
  exact ⟨rfl, rfl⟩
set_option maxRecDepth 100000 in
set_option maxHeartbeats 4000000 in
theorem idxLg_any (A : Option Addr) (n c : Nat) (l : List (List UInt8)) (w : World) (h : rowS.Rds w A n c l) (hn : n ≤ 1000000) :
    Calls Tryz.prog 17 #[.slice A n c, .func (.func 5) #[] #[]] w fun e w' => ∃ i : Int, e = .returned (.int .i64 i) ∧ decide (0 ≤ i) = l.any lgB ∧ Below w.heap.size w w' := by
  have ll := Lib.hid h.len
  have L1 := Lib.hid h
  have HP := Lib.hid (fun W (i : Int) (e : decide (0 ≤ i) = l.any lgB) (h : Below w.heap.size w W) => (show ∃ j : Int, Ending.returned (.int .i64 i) = .returned (.int .i64 j) ∧ decide (0 ≤ j) = l.any lgB ∧ Below w.heap.size w W from ⟨i, rfl, e, h⟩))
  have HL := Lib.hid (fun s W => long_any s W)
  unfold RetP at HL
  clear h
  generalize hPost : (fun (e : Ending) (w' : World) => ∃ i : Int, e = .returned (.int .i64 i) ∧ decide (0 ≤ i) = l.any lgB ∧ Below w.heap.size w w') = Post
  have HQ := Lib.hid (fun W (i : Int) (e : decide (0 ≤ i) = l.any lgB) (h : Below w.heap.size w W) => (show Post (.returned (.int .i64 i)) W by rw [← hPost]; exact HP.out W i e h))
  clear HP hPost
  go_enter Tryz.func17, Tryz.ntmps17
  go_wp2_with fail
  go_loopw [8] (fun i wr => ∃ k : Nat, k ≤ n ∧ i = .int .i64 (k : Int) ∧ Hid ((l.take k).any lgB = false) ∧ Hid (Below w.heap.size w wr)) (fun i _ => n - (intOf i).toNat)
  case atStart => exact ⟨0, by omega, rfl, Lib.hid (by simp), Lib.hid (Below.refl _ _)⟩
  case round =>
    obtain ⟨k, hk, rfl, HR, HB⟩ := hrel
    by_cases hlt : k < n
    · have hkl : k < l.length := by rw [ll.out]; exact hlt
      have hki : (k : Int) < (n : Int) := by omega
      obtain ⟨b1, o1, rfl, hb1, _⟩ := L1.out.at_ (by omega)
      have q1 := rdsS (L1.out.below HB.out) k hlt
      have e1 := take_str l k hkl
      have hm := str_mem l k hkl
      generalize l.getD k [] = x at *
      have HL1 := Lib.hid (HL.out x wr)
      cases hx : lgB x
      · rw [hx] at HL1
        have HR2 := Lib.hid (show (l.take (k + 1)).any lgB = false by rw [e1, List.any_append, HR.out]; simp [hx])
        clear e1 hm hx HR HL
        go_wp2_with fail
        refine HL1.out.mono ?_
        rintro e w2 ⟨rfl, rfl⟩
        go_wp2_with fail
        go_roundw
        case rel => exact ⟨k + 1, by omega, by go_num, HR2, HB⟩
        case measure => simp [intOf]; omega
      · rw [hx] at HL1
        have hv := Lib.hid (show decide (0 ≤ (k : Int)) = l.any lgB by rw [List.any_eq_true.2 ⟨x, hm, hx⟩, decide_eq_true_iff]; omega)
        clear e1 hm hx HR HL
        go_wp2_with fail
        refine HL1.out.mono ?_
        rintro e w2 ⟨rfl, rfl⟩
        go_wp2_with fail
        exact HQ.out _ _ hv.out HB.out
    · have hkn : k = n := by omega
      subst hkn
      have hki : ¬ (k : Int) < (k : Int) := by omega
      have e := HR.out
      rw [List.take_of_length_le (by rw [ll.out]; exact Nat.le_refl _)] at e
      have hv := Lib.hid (show decide (0 ≤ (-1 : Int)) = l.any lgB by rw [e]; decide)
      clear e HR
      go_wp2_with fail
      exact HQ.out _ _ hv.out HB.out
set_option maxRecDepth 100000 in
theorem conLg_any (A : Option Addr) (n c : Nat) (l : List (List UInt8)) (w : World) (h : rowS.Rds w A n c l) (hn : n ≤ 1000000) :
    Calls Tryz.prog 7 #[.slice A n c, .func (.func 5) #[] #[]] w (BoolPost (l.any lgB) w) := by
  have HI := Lib.hid (idxLg_any A n c l w h hn)
  clear h
  go_enter Tryz.func7, Tryz.ntmps7
  go_wp2_with fail
  refine HI.out.mono ?_
  rintro e w1 ⟨i, rfl, hi, hb⟩
  have HI2 := Lib.hid hi
  have HB := Lib.hid hb
  clear hi hb HI
  go_wp2_with fail
  go_ret
  exact ⟨by rw [← HI2.out]; rfl, HB.out⟩
end Go.Proofs.YtjcbohbpkodkoaaGreatDoor

/- Contract of the reference's Great at posted entries. -/
namespace Go.Proofs.YtjcbohbpkodkoaaGreatDoor
open Go.RowKit Go.Maps Num

set_option maxRecDepth 100000 in
set_option maxHeartbeats 4000000 in
theorem rgreatP_any (A : Option Addr) (n c : Nat) (ps : List PE) (w : World) (hl : rowPo.Rds w A n c ps) (hr : ∀ p ∈ ps, RdG w p.2) : Calls Tryz.prog 6 #[.slice A n c] w (BoolPost (greatP ps) w) := by
  have ll := Lib.hid hl.len
  have HP := Lib.hid (fun W b (h : greatP ps = b) (hb : Below w.heap.size w W) => (show BoolPost (greatP ps) w (.returned (.bool b)) W from ⟨by rw [h], hb⟩))
  have HG := Lib.hid (show greatP ps = (ps.any grP || decide (16 < n)) by rw [← hl.len]; rfl)
  have htop : n ≤ maxLen := Nat.le_trans hl.cap hl.top
  unfold maxLen at htop
  generalize BoolPost (greatP ps) w = Post at *
  generalize greatP ps = r at *
  have L1 := Lib.hid hl
  have HR := Lib.hid hr
  clear hl hr
  go_enter Tryz.func6, Tryz.ntmps6
  go_wp2_with fail
  go_loopw [3] (fun i wr => ∃ k : Nat, k ≤ n ∧ i = .int .i64 (k : Int) ∧ Hid (∀ x ∈ ps.take k, grP x = false) ∧ Hid (Below w.heap.size w wr)) (fun i _ => n - (intOf i).toNat)
  case atStart => exact ⟨0, by omega, rfl, Lib.hid (by simp), Lib.hid (Below.refl _ _)⟩
  case round =>
    obtain ⟨k, hk, rfl, HE, HB⟩ := hrel
    by_cases hlt : k < n
    · have hkl : k < ps.length := by rw [ll.out]; exact hlt
      obtain ⟨b1, o1, rfl, hb1, _⟩ := L1.out.at_ (by omega)
      obtain ⟨p0, p1, p2, p3, p4, p5⟩ := rdsP_cells (L1.out.below HB.out) k hlt
      obtain ⟨_, _, s2, _, _, _⟩ := rdsP_cells L1.out k hlt
      have hki : (k : Int) < (n : Int) := by omega
      have hm := pe_mem ps k hkl
      obtain ⟨e1, e2, e3⟩ := HR.out _ hm
      have HT := Lib.hid (show grP (ps.getD k pe0) = true → r = true from fun h => HG.out.trans (by rw [List.any_eq_true.2 ⟨_, hm, h⟩]; rfl))
      have HTK := Lib.hid (take_pe ps k hkl)
      clear hkl hm
      generalize ps.getD k pe0 = y at *
      obtain ⟨⟨d, kn, bz⟩, ⟨d1, z1, A1, n1, m1⟩, ⟨d2, z2, k2⟩⟩ := y
      simp only [rawA, rawN, rawC] at p0 p1 p2 p3 p4 p5 s2 e1 e2 e3
      subst e1 e2
      have LC := Lib.hid (rgreat1_any d1 z1 A1 n1 m1 k2 wr (e3.below HB.out))
      unfold enV at LC
      obtain ⟨gy, hgy⟩ : ∃ gy, g1B z1 k2 = gy := ⟨_, rfl⟩
      rw [hgy] at LC
      have HYG := Lib.hid (show grP ((d, kn, bz), (d1, z1, A1, n1, m1), (d1, z1, k2)) = (gy || decide (60 < bz.length)) by rw [← hgy]; rfl)
      have HX := Lib.hid s2
      clear hgy e3 s2
      go_wp2_with fail
      refine LC.out.mono ?_
      rintro e w' ⟨rfl, hb⟩
      have HB2 := Lib.hid (below_next HB.out hb ⟨rfl, rfl, rfl, rfl⟩)
      have q2 := (HB2.out.cell (p := ⟨b1, o1 + k * 6 + 2, none⟩) hb1).trans HX.out
      clear hb LC p0 p1 p2 p3 p4 p5
      cases gy
      · by_cases h6 : 60 < bz.length
        · have t1 : decide (60 < (bz.length : Int)) = true := by rw [decide_eq_true_iff]; omega
          have hv := Lib.hid (HT.out (by rw [HYG.out, decide_eq_true h6]; rfl))
          clear h6
          go_wp2_with fail
          exact HP.out _ _ hv.out HB2.out
        · have t1 : decide (60 < (bz.length : Int)) = false := by rw [decide_eq_false_iff_not]; omega
          have hy0 := HYG.out
          rw [decide_eq_false h6, Bool.or_false] at hy0
          have HE2 := Lib.hid (show ∀ x ∈ ps.take (k + 1), grP x = false from fun x hx => by
            rw [HTK.out] at hx
            rcases List.mem_append.1 hx with h | h
            · exact HE.out x h
            · rw [List.mem_singleton.1 h]; exact hy0)
          clear h6 hy0
          go_wp2_with fail
          go_roundw
          case rel => exact ⟨k + 1, by omega, by go_num, HE2, HB2⟩
          case measure => simp [intOf]; omega
      · have hv := Lib.hid (HT.out (by rw [HYG.out]; rfl))
        go_wp2_with fail
        exact HP.out _ _ hv.out HB2.out
    · have hkn : k = n := by omega
      subst hkn
      have hki : ¬ (k : Int) < (k : Int) := by omega
      have e := HE.out
      rw [List.take_of_length_le (by rw [ll.out]; exact Nat.le_refl _)] at e
      have hv := HG.out
      rw [show ps.any grP = false by rw [List.any_eq_false]; exact fun x hx => by rw [e x hx]; decide] at hv
      rw [Bool.false_or] at hv
      by_cases h16 : 16 < k
      · rw [decide_eq_true h16] at hv
        have t1 : decide (16 < (k : Int)) = true := by rw [decide_eq_true_iff]; omega
        have HV := Lib.hid hv
        clear e HE h16 hv
        go_wp2_with fail
        exact HP.out _ _ HV.out HB.out
      · rw [decide_eq_false h16] at hv
        have t1 : decide (16 < (k : Int)) = false := by rw [decide_eq_false_iff_not]; omega
        have HV := Lib.hid hv
        clear e HE h16 hv
        go_wp2_with fail
        exact HP.out _ _ HV.out HB.out
end Go.Proofs.YtjcbohbpkodkoaaGreatDoor

/- Contract of the reference's SameOne. -/
namespace Go.Proofs.YtjcbohbpkodkoaaGreatDoor
open Go.RowKit Go.Maps Num

set_option maxRecDepth 100000 in
set_option maxHeartbeats 4000000 in
theorem rsame1_any (d1 d2 : Int) (c1 c2 : List UInt8) (A B : Option Addr) (n c p d : Nat) (l m : List Ln) (w : World) (hl : Lns w A n c l) (hm : Lns w B p d m) :
    Calls Tryz.prog 29 #[.agg (enV d1 c1 A n c), .agg (enV d2 c2 B p d)] w (BoolPost (decide ((d1, c1, l) = (d2, c2, m))) w) := by
  have hn := hl.small
  have hp := hm.small
  have ll := Lib.hid hl.len
  have lm := Lib.hid hm.len
  have HP := Lib.hid (fun W b (h : decide ((d1, c1, l) = (d2, c2, m)) = b) (hb : Below w.heap.size w W) => (show BoolPost (decide ((d1, c1, l) = (d2, c2, m))) w (.returned (.bool b)) W from ⟨by rw [h], hb⟩))
  have hB0 : Below w.heap.size w ((w.alloc (.cells #[.int .i64 d1, .string ⟨c1.toArray⟩, .slice A n c] 40)).alloc (.cells #[.int .i64 d2, .string ⟨c2.toArray⟩, .slice B p d] 40)) := ((Below.refl _ w).alloc (Nat.le_refl _) _).alloc (by simp) _
  have y0 : ((w.alloc (.cells #[.int .i64 d1, .string ⟨c1.toArray⟩, .slice A n c] 40)).alloc (.cells #[.int .i64 d2, .string ⟨c2.toArray⟩, .slice B p d] 40)).heap[w.heap.size]? = some (.cells #[.int .i64 d1, .string ⟨c1.toArray⟩, .slice A n c] 40) := by
    rw [heap_alloc_old _ _ (by simp)]; exact heap_alloc_new w _
  have y1 : ((w.alloc (.cells #[.int .i64 d1, .string ⟨c1.toArray⟩, .slice A n c] 40)).alloc (.cells #[.int .i64 d2, .string ⟨c2.toArray⟩, .slice B p d] 40)).heap[w.heap.size + 1]? = some (.cells #[.int .i64 d2, .string ⟨c2.toArray⟩, .slice B p d] 40) := by
    have := heap_alloc_new (w.alloc (.cells #[.int .i64 d1, .string ⟨c1.toArray⟩, .slice A n c] 40)) (.cells #[.int .i64 d2, .string ⟨c2.toArray⟩, .slice B p d] 40)
    rwa [show (w.alloc (.cells #[.int .i64 d1, .string ⟨c1.toArray⟩, .slice A n c] 40)).heap.size = w.heap.size + 1 by simp] at this
  have L1 := Lib.hid hl
  have L2 := Lib.hid hm
  have B0 := Lib.hid hB0
  have HR := Lib.hid (show ∀ b, (d1 = d2 ∧ c1 = c2 ∧ l = m ↔ b = true) → decide ((d1, c1, l) = (d2, c2, m)) = b from fun b h => by
    cases b
    · refine decide_eq_false fun e => ?_
      injection e with e1 e2
      injection e2 with e2 e3
      exact absurd (h.1 ⟨e1, e2, e3⟩) (by decide)
    · obtain ⟨e1, e2, e3⟩ := h.2 rfl
      exact decide_eq_true (by rw [e1, e2, e3]))
  clear hl hm hB0
  generalize decide ((d1, c1, l) = (d2, c2, m)) = r at *
  generalize BoolPost r w = Post at *
  unfold enV
  go_enter Tryz.func29, Tryz.ntmps29
  obtain ⟨⟨c00, c01, c02⟩, _⟩ := cells3 y0
  obtain ⟨⟨c10, c11, c12⟩, _⟩ := cells3 y1
  clear y0 y1
  by_cases h1 : d1 = d2
  case neg =>
    have t1 : (d1 == d2) = false := beq_eq_false_iff_ne.2 h1
    have hv := Lib.hid (HR.out false ⟨fun h => absurd h.1 h1, fun h => by cases h⟩)
    clear c00 c01 c02 c10 c11 c12
    go_wp2_with fail
    exact HP.out _ _ hv.out B0.out
  by_cases h2 : c1 = c2
  case neg =>
    have t1 : (c1 == c2) = false := beq_eq_false_iff_ne.2 h2
    have hv := Lib.hid (HR.out false ⟨fun h => absurd h.2.1 h2, fun h => by cases h⟩)
    subst h1
    clear c00 c01 c02 c10 c11 c12
    go_wp2_with fail
    exact HP.out _ _ hv.out B0.out
  by_cases hnp : n = p
  case neg =>
    have t1 : ((n : Int) == (p : Int)) = false := beq_eq_false_iff_ne.2 (by omega)
    have t2 : (n == p) = false := beq_eq_false_iff_ne.2 hnp
    have hv := Lib.hid (HR.out false ⟨fun h => absurd (by rw [← ll.out, ← lm.out, h.2.2]) hnp, fun h => by cases h⟩)
    subst h1 h2
    clear c00 c01 c02 c10 c11 c12
    go_wp2_with fail
    exact HP.out _ _ hv.out B0.out
  subst h1 h2 hnp
  have HR2 := Lib.hid (show ∀ b, (l = m ↔ b = true) → r = b from fun b h => HR.out b ⟨fun e => h.1 e.2.2, fun e => ⟨rfl, rfl, h.2 e⟩⟩)
  clear HR
  go_wp2_with fail
  generalize (w.alloc (.cells #[.int .i64 d1, .string ⟨c1.toArray⟩, .slice A n c] 40)).alloc (.cells #[.int .i64 d1, .string ⟨c1.toArray⟩, .slice B n d] 40) = w1 at *
  have X0 := Lib.hid c02
  have X1 := Lib.hid c12
  have lb0 : w.heap.size < w1.heap.size := block_lt_of_cell c02
  have lb1 : w.heap.size + 1 < w1.heap.size := block_lt_of_cell c12
  clear c00 c01 c02 c10 c11 c12
  go_loopw [5] (fun i wr => ∃ k : Nat, k ≤ n ∧ i = .int .i64 (k : Int) ∧ Hid (l.take k = m.take k) ∧ Hid (Below w1.heap.size w1 wr)) (fun i _ => n - (intOf i).toNat)
  case atStart => exact ⟨0, by omega, rfl, Lib.hid (by simp), Lib.hid (Below.refl _ _)⟩
  case round =>
    obtain ⟨k, hk, rfl, HE, HC⟩ := hrel
    have HB := Lib.hid (below_next B0.out HC.out ⟨rfl, rfl, rfl, rfl⟩)
    have a02 := (HC.out.cell (p := ⟨w.heap.size, 2, none⟩) lb0).trans X0.out
    have a12 := (HC.out.cell (p := ⟨w.heap.size + 1, 2, none⟩) lb1).trans X1.out
    by_cases hlt : k < n
    · obtain ⟨b1, o1, rfl, hb1, hc1⟩ := L1.out.at_ (by omega)
      obtain ⟨b2, o2, rfl, hb2, hc2⟩ := L2.out.at_ (by omega)
      obtain ⟨q0, q1, q2⟩ := hc1 k hlt
      obtain ⟨v0, v1, v2⟩ := hc2 k hlt
      have r0 := (HB.out.cell (p := ⟨b1, o1 + k * 3, none⟩) hb1).trans q0
      have r1 := (HB.out.cell (p := ⟨b1, o1 + k * 3 + 1, none⟩) hb1).trans q1
      have r2 := (HB.out.cell (p := ⟨b1, o1 + k * 3 + 2, none⟩) hb1).trans q2
      have s0 := (HB.out.cell (p := ⟨b2, o2 + k * 3, none⟩) hb2).trans v0
      have s1 := (HB.out.cell (p := ⟨b2, o2 + k * 3 + 1, none⟩) hb2).trans v1
      have s2 := (HB.out.cell (p := ⟨b2, o2 + k * 3 + 2, none⟩) hb2).trans v2
      have hki : (k : Int) < (n : Int) := by omega
      have hk0 : (0 : Int) ≤ (k : Int) := by omega
      have t1 := Lib.hid (take_ln l k (by rw [ll.out]; exact hlt))
      have t2 := Lib.hid (take_ln m k (by rw [lm.out]; exact hlt))
      have HD := Lib.hid (show l.getD k ln0 ≠ m.getD k ln0 → l ≠ m from fun h e => h (by rw [e]))
      clear q0 q1 q2 v0 v1 v2 hc1 hc2
      generalize l.getD k ln0 = x at *
      generalize m.getD k ln0 = y at *
      obtain ⟨a, cu, u⟩ := x
      obtain ⟨a', cu', u'⟩ := y
      simp only at r0 r1 r2 s0 s1 s2
      by_cases hxy : (a, cu, u) = (a', cu', u')
      · injection hxy with h1 h2
        injection h2 with h2 h3
        subst h1 h2 h3
        have HE2 := Lib.hid (show l.take (k + 1) = m.take (k + 1) by rw [t1.out, t2.out, HE.out])
        clear t1 t2 HD
        go_wp2_with fail
        go_quiet (fail)
        have HC2 := Lib.hid (below_dr HC.out nq)
        go_wp2_with fail
        go_roundw
        case rel => exact ⟨k + 1, by omega, by go_num, HE2, HC2⟩
        case measure => simp [intOf]; omega
      · have hv := Lib.hid (HR2.out false ⟨fun e => absurd e (HD.out hxy), fun h => by cases h⟩)
        clear t1 t2 HD
        by_cases h1 : a = a'
        · subst h1
          by_cases h2 : cu = cu'
          · subst h2
            have h3 : u ≠ u' := fun e => hxy (by rw [e])
            have e3 : (u == u') = false := beq_eq_false_iff_ne.2 h3
            clear hxy
            go_wp2_with fail
            go_quiet (fail)
            have HB2 := Lib.hid (below_dr HB.out nq)
            go_wp2_with fail
            exact HP.out _ _ hv.out HB2.out
          · have e2 : (cu == cu') = false := beq_eq_false_iff_ne.2 h2
            clear hxy
            go_wp2_with fail
            go_quiet (fail)
            have HB2 := Lib.hid (below_dr HB.out nq)
            go_wp2_with fail
            exact HP.out _ _ hv.out HB2.out
        · have e1 : (a == a') = false := beq_eq_false_iff_ne.2 h1
          clear hxy
          go_wp2_with fail
          go_quiet (fail)
          have HB2 := Lib.hid (below_dr HB.out nq)
          go_wp2_with fail
          exact HP.out _ _ hv.out HB2.out
    · have hkn : k = n := by omega
      subst hkn
      have hki : ¬ (k : Int) < (k : Int) := by omega
      have e := HE.out
      rw [List.take_of_length_le (by rw [ll.out]; exact Nat.le_refl _), List.take_of_length_le (by rw [lm.out]; exact Nat.le_refl _)] at e
      have hv := Lib.hid (HR2.out true ⟨fun _ => rfl, fun _ => e⟩)
      clear e HE
      go_wp2_with fail
      exact HP.out _ _ hv.out HB.out
end Go.Proofs.YtjcbohbpkodkoaaGreatDoor

/- Contract of the reference's SameOne at posted entries. -/
namespace Go.Proofs.YtjcbohbpkodkoaaGreatDoor
open Go.RowKit Go.Maps Num

set_option maxRecDepth 100000 in
set_option maxHeartbeats 8000000 in
theorem rsameP_any (d kn : Int) (bz : List UInt8) (d1 : Int) (cz : List UInt8) (A : Option Addr) (n c : Nat) (l : List Ln) (d' kn' : Int) (bz' : List UInt8) (d1' : Int) (cz' : List UInt8) (A' : Option Addr) (n' c' : Nat) (l' : List Ln) (w : World) (hl : Lns w A n c l) (hl' : Lns w A' n' c' l') :
    Calls Tryz.prog 15 #[.agg (poC d kn bz d1 cz A n c), .agg (poC d' kn' bz' d1' cz' A' n' c')] w (BoolPost (decide ((((d, kn, bz), (d1, cz, l)) : Po) = ((d', kn', bz'), (d1', cz', l')))) w) := by
  have hBA : Below w.heap.size w ((w.alloc (.cells (poC d kn bz d1 cz A n c) 42)).alloc (.cells (poC d' kn' bz' d1' cz' A' n' c') 42)) := ((Below.refl _ w).alloc (Nat.le_refl _) _).alloc (by simp) _
  have y0 : ((w.alloc (.cells (poC d kn bz d1 cz A n c) 42)).alloc (.cells (poC d' kn' bz' d1' cz' A' n' c') 42)).heap[w.heap.size]? = some (.cells (poC d kn bz d1 cz A n c) 42) := by
    rw [heap_alloc_old _ _ (by simp)]; exact heap_alloc_new w _
  have y1 : ((w.alloc (.cells (poC d kn bz d1 cz A n c) 42)).alloc (.cells (poC d' kn' bz' d1' cz' A' n' c') 42)).heap[w.heap.size + 1]? = some (.cells (poC d' kn' bz' d1' cz' A' n' c') 42) := by
    have := heap_alloc_new (w.alloc (.cells (poC d kn bz d1 cz A n c) 42)) (.cells (poC d' kn' bz' d1' cz' A' n' c') 42)
    rwa [show (w.alloc (.cells (poC d kn bz d1 cz A n c) 42)).heap.size = w.heap.size + 1 by simp] at this
  unfold poC at hBA y0 y1
  obtain ⟨c0, c1, c2, c3, c4, c5⟩ := cellsP y0
  obtain ⟨b0, b1, b2, b3, b4, b5⟩ := cellsP y1
  have B0 := Lib.hid hBA
  have HP := Lib.hid (fun W r (h : decide ((((d, kn, bz), (d1, cz, l)) : Po) = ((d', kn', bz'), (d1', cz', l'))) = r) (hb : Below w.heap.size w W) => (show BoolPost (decide ((((d, kn, bz), (d1, cz, l)) : Po) = ((d', kn', bz'), (d1', cz', l')))) w (.returned (.bool r)) W from ⟨by rw [h], hb⟩))
  have HV := Lib.hid (show decide ((((d, kn, bz), (d1, cz, l)) : Po) = ((d', kn', bz'), (d1', cz', l'))) = (decide (d = d') && (decide (kn = kn') && (decide (bz = bz') && decide ((d1, cz, l) = (d1', cz', l'))))) by
    rw [Bool.eq_iff_iff]
    simp only [Bool.and_eq_true, decide_eq_true_eq, Prod.mk.injEq]
    constructor
    · rintro ⟨⟨h1, h2, h3⟩, h4⟩; exact ⟨h1, h2, h3, h4⟩
    · rintro ⟨h1, h2, h3, h4⟩; exact ⟨⟨h1, h2, h3⟩, h4⟩)
  have HS := Lib.hid (fun W (h : Below w.heap.size w W) => rsame1_any d1 d1' cz cz' A A' n c n' c' l l' W (hl.below h) (hl'.below h))
  unfold BoolPost enV at HS
  generalize BoolPost (decide ((((d, kn, bz), (d1, cz, l)) : Po) = ((d', kn', bz'), (d1', cz', l')))) w = Post at *
  generalize decide ((((d, kn, bz), (d1, cz, l)) : Po) = ((d', kn', bz'), (d1', cz', l'))) = r at *
  generalize decide ((d1, cz, l) = (d1', cz', l')) = en at *
  unfold poC
  clear hBA y0 y1 hl hl'
  by_cases h1 : d = d'
  case neg =>
    have t1 : (d == d') = false := beq_eq_false_iff_ne.2 h1
    have hv := Lib.hid (show r = false by rw [HV.out, decide_eq_false h1]; rfl)
    clear HV h1 HS
    go_enter Tryz.func15, Tryz.ntmps15
    go_wp2_with fail
    exact HP.out _ _ hv.out B0.out
  by_cases h2 : kn = kn'
  case neg =>
    have t2 : (kn == kn') = false := beq_eq_false_iff_ne.2 h2
    have hv := Lib.hid (show r = false by rw [HV.out, decide_eq_false h2, Bool.false_and, Bool.and_false])
    subst h1
    clear HV h2 HS
    go_enter Tryz.func15, Tryz.ntmps15
    go_wp2_with fail
    exact HP.out _ _ hv.out B0.out
  by_cases h3 : bz = bz'
  case neg =>
    have t3 : (bz == bz') = false := beq_eq_false_iff_ne.2 h3
    have hv := Lib.hid (show r = false by rw [HV.out, decide_eq_false h3, Bool.false_and, Bool.and_false, Bool.and_false])
    subst h1 h2
    clear HV h3 HS
    go_enter Tryz.func15, Tryz.ntmps15
    go_wp2_with fail
    exact HP.out _ _ hv.out B0.out
  have hv := Lib.hid (show r = en by rw [HV.out, decide_eq_true h1, decide_eq_true h2, decide_eq_true h3]; rfl)
  subst h1 h2 h3
  clear HV
  go_enter Tryz.func15, Tryz.ntmps15
  go_wp2_with fail
  refine (HS.out _ B0.out).mono ?_
  rintro e w2 ⟨rfl, hb⟩
  have B2 := Lib.hid (below_next B0.out hb ⟨rfl, rfl, rfl, rfl⟩)
  clear hb HS
  go_wp2_with fail
  exact HP.out _ _ hv.out B2.out
end Go.Proofs.YtjcbohbpkodkoaaGreatDoor
