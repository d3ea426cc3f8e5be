/- Audit: one string of a node is written. -/
import Derived.Test.YtejaehmoplohdaaGreatDoorQ20
import Derived.Test.YtejaehmoplohdaaGreatDoorQ14
import Derived.Test.YtejaehmoplohdaaGreatDoorQ17
import Derived.BigQuiet
import Derived.Deep.CutBlock
namespace Go.Proofs.YtejaehmoplohdaaGreatDoor
open Go.RowKit Go.Maps Num

theorem vsNd_fst (l : List Nd) (i : Nat) (a : List UInt8) (hi : i < l.length) : (rowNd.vs l).set (i * 2) (.string ⟨a.toArray⟩) = rowNd.vs (l.set i (a, (l.getD i nd0).2)) := by
  induction l generalizing i with
  | nil => cases hi
  | cons y r ih =>
    cases i with
    | zero => rfl
    | succ i =>
      rw [List.set_cons_succ, Row.vs_cons, Row.vs_cons, show (y :: r).getD (i + 1) nd0 = r.getD i nd0 from rfl, ← ih i (by simpa using hi), show (i + 1) * 2 = i * 2 + 2 by omega]
      rfl
theorem vsNd_snd (l : List Nd) (i : Nat) (a : List UInt8) (hi : i < l.length) : (rowNd.vs l).set (i * 2 + 1) (.string ⟨a.toArray⟩) = rowNd.vs (l.set i ((l.getD i nd0).1, a)) := by
  induction l generalizing i with
  | nil => cases hi
  | cons y r ih =>
    cases i with
    | zero => rfl
    | succ i =>
      rw [List.set_cons_succ, Row.vs_cons, Row.vs_cons, show (y :: r).getD (i + 1) nd0 = r.getD i nd0 from rfl, ← ih i (by simpa using hi), show (i + 1) * 2 + 1 = i * 2 + 1 + 2 by omega]
      rfl
theorem own_nd {B : Nat} {w : World} {g n cap : Nat} {l l' : List Nd} (h : rowNd.Own B w (.slice (some ⟨g, 0, none⟩) n cap) l) (j : Nat) (u : Value) (hv : (rowNd.vs l).set j u = rowNd.vs l') (hl : l'.length = l.length) :
    rowNd.Own B (w.setCell ⟨g, j, none⟩ u) (.slice (some ⟨g, 0, none⟩) n cap) l' ∧ w.grownBy (w.setCell ⟨g, j, none⟩ u) (some g) := by
  have hn : n = l.length := by
    rcases h.2 with ⟨e, _⟩ | ⟨g', cap', cur, e, _⟩
    · cases e
    · injection e
  subst hn
  have h' : w.ownsRow B rowNd.E rowNd.k (.slice (some ⟨g, 0, none⟩) l.length cap) l.length (rowNd.vs l) := h
  obtain ⟨s1, t1⟩ := h'.stored j u
  rw [hv] at s1
  refine ⟨?_, t1⟩
  unfold Row.Own
  rw [hl]
  exact s1
/-- the sum of a node of a slice of the call's own is written -/
theorem own_fst {B : Nat} {w : World} {g n cap : Nat} {l : List Nd} (h : rowNd.Own B w (.slice (some ⟨g, 0, none⟩) n cap) l) (i : Nat) (a : List UInt8) (hi : i < l.length) :
    rowNd.Own B (w.setCell ⟨g, i * 2, none⟩ (.string ⟨a.toArray⟩)) (.slice (some ⟨g, 0, none⟩) n cap) (l.set i (a, (l.getD i nd0).2)) ∧ w.grownBy (w.setCell ⟨g, i * 2, none⟩ (.string ⟨a.toArray⟩)) (some g) :=
  own_nd h _ _ (vsNd_fst l i a hi) (List.length_set ..)
/-- the digest of a node of a slice of the call's own is written -/
theorem own_snd {B : Nat} {w : World} {g n cap : Nat} {l : List Nd} (h : rowNd.Own B w (.slice (some ⟨g, 0, none⟩) n cap) l) (i : Nat) (a : List UInt8) (hi : i < l.length) :
    rowNd.Own B (w.setCell ⟨g, i * 2 + 1, none⟩ (.string ⟨a.toArray⟩)) (.slice (some ⟨g, 0, none⟩) n cap) (l.set i ((l.getD i nd0).1, a)) ∧ w.grownBy (w.setCell ⟨g, i * 2 + 1, none⟩ (.string ⟨a.toArray⟩)) (some g) :=
  own_nd h _ _ (vsNd_snd l i a hi) (List.length_set ..)
theorem own_rds {B : Nat} {W : World} {A : Option Addr} {n c : Nat} {l : List Nd} (h : rowNd.Own B W (.slice A n c) l) : rowNd.Rds W A n c l := by
  obtain ⟨A', c', e, h'⟩ := h.rds
  injection e with e1 e2 e3
  subst e1 e2 e3
  exact h'
theorem clone2 {w1 W : World} (h : Below w1.heap.size w1 W) {A : Option Addr} {n c : Nat} {ns : List Nd} (hr : rowNd.Rds W A n c ns) (hn : n ≤ 1000) :
    Calls Tryz.prog 29 #[.slice A n c] W fun e w' => ∃ v, e = .returned v ∧ rowNd.Own w1.heap.size w' v ns ∧ Below W.heap.size W w' ∧ Below w1.heap.size w1 w' :=
  (cloneN_any A n c ns W hr hn).mono fun _ _ ⟨v, h1, h2, h3⟩ => ⟨v, h1, h2.mono h.size, h3, below_next h h3 ⟨rfl, rfl, rfl, rfl⟩⟩
theorem rds1 {w W : World} {a b : List UInt8} (h : Below (w.alloc (.cells #[.string ⟨a.toArray⟩, .string ⟨b.toArray⟩] 27)).heap.size (w.alloc (.cells #[.string ⟨a.toArray⟩, .string ⟨b.toArray⟩] 27)) W) : rowNd.Rds W (some ⟨w.heap.size, 0, none⟩) 1 1 [(a, b)] :=
  (Row.rds_one rowNd_ok w (a, b) 27).below h
theorem rds1d {w W : World} {a b : List UInt8} (h : Below (w.alloc (.cells #[.string ⟨a.toArray⟩, .string ⟨b.toArray⟩] 27)).drew.heap.size (w.alloc (.cells #[.string ⟨a.toArray⟩, .string ⟨b.toArray⟩] 27)).drew W) : rowNd.Rds W (some ⟨w.heap.size, 0, none⟩) 1 1 [(a, b)] :=
  rds1 ⟨h.os, h.tape, h.output, h.size, h.block⟩
theorem set1m {W : World} {b : Nat} {x y z : Value} {t : TypeId} (h : W.heap[b]? = some (.cells #[x, y, z] t)) (p : Value) : (W.setCell ⟨b, 1, none⟩ p).heap[b]? = some (.cells #[x, p, z] t) := by
  unfold World.setCell
  simp [Array.getElem?_modify, h]
theorem bump_bytes2 {B : Nat} {W W' : World} {g cap : Nat} {L : List UInt8} (h : Sha.OwnXAt B W g cap (L.map fun b => (b.toNat : Int))) (q : Nat) (hq : q < L.length) (y : Int) (hb : Below (W.setCell ⟨g, q, none⟩ (.int .u8 y)).heap.size (W.setCell ⟨g, q, none⟩ (.int .u8 y)) W') :
    (convert 50 9 (.slice (some ⟨g, 0, none⟩) L.length cap)).run Tryz.prog W' = .ok (.string ⟨(L.set q (UInt8.ofNat y.toNat)).toArray⟩) W' := by
  have := run_convert_bytes_arg (P := Tryz.prog) W' 50 5 Tryz.underlying50 Tryz.underlying5 g 0 L.length cap ((L.map fun b => (b.toNat : Int)).set q y) (by simp) (fun j hj => by
    rw [Nat.zero_add]
    have h1 := setX_cells h q hq y j hj
    exact (hb.cell (p := ⟨g, j, none⟩) (block_lt_of_cell h1)).trans h1) 9 Tryz.underlying9
  have he : strOfNums ((L.map fun b => (b.toNat : Int)).set q y) = ⟨(L.set q (UInt8.ofNat y.toNat)).toArray⟩ := by
    unfold strOfNums
    rw [List.map_set, List.map_map, show ((fun n : Int => UInt8.ofNat n.toNat) ∘ fun b : UInt8 => (b.toNat : Int)) = id from by funext b; simp, List.map_id]
  rw [this, he]
theorem txt_bump70 (a : List UInt8) (h : a.length ≤ 65) : (txt (val a + 1)).length ≤ 70 := by
  have h1 : (val a).natAbs < 10 ^ 65 := Nat.lt_of_lt_of_le (val_bd a) (Nat.pow_le_pow_right (by omega) h)
  have h2 : (10 : Nat) ^ 66 = 10 * 10 ^ 65 := by rw [Nat.pow_succ, Nat.mul_comm]
  have h3 : (val a + 1).natAbs < 10 ^ 66 := by omega
  have := txt_bd h3
  omega
theorem getD_nd (ns : List Nd) (m : Nat) (h : m < ns.length) : ns[m] = ns.getD m nd0 := by
  rw [List.getD_eq_getElem?_getD, List.getElem?_eq_getElem h]; rfl
theorem snoc_all {P : Nd → Prop} {ns : List Nd} {x : Nd} (h : ∀ y ∈ ns, P y) (hx : P x) : ∀ y ∈ ns ++ [x], P y := fun y hy => by
  rcases List.mem_append.1 hy with h1 | h1
  · exact h y h1
  · rw [List.mem_singleton.1 h1]; exact hx
theorem set_all {P : Nd → Prop} {ns : List Nd} {x : Nd} (m : Nat) (h : ∀ y ∈ ns, P y) (hx : P x) : ∀ y ∈ ns.set m x, P y := fun y hy => by
  rcases List.mem_or_eq_of_mem_set hy with h1 | h1
  · exact h y h1
  · rw [h1]; exact hx
theorem drop_all {P : Nd → Prop} {ns : List Nd} (k : Nat) (h : ∀ y ∈ ns, P y) : ∀ y ∈ ns.drop k, P y := fun y hy => h y (List.mem_of_mem_drop hy)
theorem rds_set {W : World} {g b o n c : Nat} {l : List Nd} (h : rowNd.Rds W (some ⟨g, 0, none⟩) n c l) (ne : b ≠ g) (x : Value) : rowNd.Rds (W.setCell ⟨b, o, none⟩ x) (some ⟨g, 0, none⟩) n c l :=
  ⟨h.len, h.cap, h.top, fun h0 => by
    obtain ⟨b', o', e, h2, h3⟩ := h.at_ h0
    cases e
    refine ⟨g, 0, rfl, by rw [World.size_setCell]; exact h2, fun j u hu => ?_⟩
    rw [World.cell?_setCell_other _ _ _ _ (fun e => ne (congrArg Addr.block e))]
    exact h3 j u hu⟩
theorem set_snd_ne {ns : List Nd} {m : Nat} (h : m < ns.length) {s1 s2 e2 : List UInt8} (hn : ns.getD m nd0 = (s1, s2)) (hne : s2 ≠ e2) : ns.set m (s1, e2) ≠ ns := fun e => by
  have h1 : (ns.set m (s1, e2))[m]? = ns[m]? := by rw [e]
  rw [List.getElem?_set_self h, List.getElem?_eq_getElem h, getD_nd ns m h, hn] at h1
  exact hne (congrArg Prod.snd (Option.some.inj h1)).symm
end Go.Proofs.YtejaehmoplohdaaGreatDoor

/- AuditForged: the walk. -/
namespace Go.Proofs.YtejaehmoplohdaaGreatDoor
open Go.RowKit Go.Maps Num

set_option maxRecDepth 100000 in
/-- refused where another proof is told for the same root -/
theorem RefG {l : List Ln} (hf : fineB l = true) {n : Nat} (hn : l.length = n) {r1 r2 : List UInt8} (hrt : rootN sha l = (r1, r2)) {k : Nat} (hk : k < n) {a cu m a' cu' m' : List UInt8} (he : l.getD k ln0 = (a, cu, m)) (hb : okB (a', cu', m')) (hs : SmB (a', cu', m')) {i' n' : Nat} {ns : List Nd} (hv : ∀ x ∈ ns, validN x = true) (hv2 : ∀ x ∈ ns, x.1.length ≤ 70) (hn' : n' ≤ 1024) (hi' : i' < n') (hp : ns.length ≤ 10000)
    (hd : (a', cu', m') ≠ l.getD k ln0 ∨ wayN i' n' ≠ wayN k l.length ∨ ns ≠ nodesN sha l k) (hss : ns = nodesN sha l k ∨ wayN i' n' = wayN k l.length) {A A' : Option Addr} {c c' : Nat} {W : World} (hr : rowNd.Rds W A (nodesN sha l k).length c (nodesN sha l k)) (hr' : rowNd.Rds W A' ns.length c' ns) (ht : Tab W) (hM : ML W) :
    Calls Tryz.prog 24 #[.agg #[.string ⟨r1.toArray⟩, .string ⟨r2.toArray⟩], .agg #[.string ⟨a.toArray⟩, .string ⟨cu.toArray⟩, .string ⟨m.toArray⟩], .agg #[.int .i64 (k : Int), .int .i64 (n : Int), .slice A (nodesN sha l k).length c], .agg #[.string ⟨a'.toArray⟩, .string ⟨cu'.toArray⟩, .string ⟨m'.toArray⟩], .agg #[.int .i64 (i' : Int), .int .i64 (n' : Int), .slice A' ns.length c']] W (BoolPost true W) := by
  obtain ⟨f1, f2, f3, f4⟩ := fineB_parts hf
  have hrl := (root_len l (fun x hx => (f2 x hx).2.2) (by omega)).1
  have hrv := root_valid sha_len l
  have hso := f2 _ (lnAt_mem l k (by omega))
  have hok := okB_at f4 (show k < l.length by omega)
  have hsm := nodes_small f2 (by omega) k
  have hnl := nodes_len sha l k
  have hw := way_len k l.length
  have hrf := ref_true (D := sha) sha_len f4 (by omega) (k := k) (by omega) (b := (a', cu', m')) hb (i := i') (n := n') (ns := ns) hv hn' hi' hd hss
  have hvc := ver_checked (D := sha) (root := rootN sha l) (b := (a', cu', m')) (i := i') (n := n') (ns := ns) hb hrv hv hn' hi'
  rw [hrt] at hrl hrf hvc
  rw [he, hn] at hrf
  simp only at hrl
  have hlen : verI sha (r1, r2) (a', cu', m') i' n' ns = 0 → (wayN i' n').length = ns.length := fun h0 => by
    rw [hvc] at h0
    by_cases e : (wayN i' n').length = ns.length
    · exact e
    · rw [if_pos e] at h0
      exact absurd h0 (by decide)
  have := refused_any r1 r2 a cu m a' cu' m' k n i' n' A A' (nodesN sha l k).length c ns.length c' (nodesN sha l k) ns W (by omega) (by rw [← he]; exact hok) (by rw [← he]; exact hso) hr (by rw [hnl, hn]) (fun x hx => ⟨by have := (hsm x hx).1; omega, (hsm x hx).2⟩) (by omega) (by omega)
    hs hr' hv2 hp (by omega) (by omega) (fun h0 => ⟨hb, hlen h0, fun x hx => (validN_iff.1 (hv x hx)).2.2, hn', by omega⟩) ht hM
  rw [hrf] at this
  exact this
theorem set3a {W : World} {b : Nat} {x y z : Value} {t : TypeId} (h : W.heap[b]? = some (.cells #[x, y, z] t)) (p : Value) : (W.setCell ⟨b, 0, none⟩ p).heap[b]? = some (.cells #[p, y, z] t) := by
  unfold World.setCell
  simp [Array.getElem?_modify, h]
set_option maxRecDepth 100000 in
set_option maxHeartbeats 40000000 in
theorem forged_row (A : Option Addr) (n c : Nat) (l : List Ln) (d d2 d3 : UInt8) (w : World) (hl : rowB.Rds w A n c l) (ht : Tab w) (hM : ML w) : Calls Tryz.prog 8 #[.slice A n c, .int .u8 (d.toNat : Int), .int .u8 (d2.toNat : Int), .int .u8 (d3.toNat : Int)] w (BoolPost true w) := by
  have HP := Lib.hid (fun W (h : Below w.heap.size w W) => (show BoolPost true w (.returned (.bool true)) W from ⟨rfl, h⟩))
  have HW := Lib.hid (fun W (h : Below w.heap.size w W) => awake_any W (ht.below h) (hM.below h))
  have HF := Lib.hid (fine_any A n c l w hl)
  unfold BoolPost at HW HF
  generalize BoolPost true w = Post at *
  have hln := hl.len
  cases hf : fineB l
  case false =>
    -- part<
    rw [hf] at HF
    clear hl ht hM hf
    go_enter Tryz.func8, Tryz.ntmps8
    go_wp2_with fail
    refine HF.out.mono ?_
    rintro e w1 ⟨rfl, hb1⟩
    have B1 := Lib.hid hb1
    clear hb1
    go_wp2_with fail
    refine (HW.out _ B1.out).mono ?_
    rintro e w2 ⟨rfl, hb2⟩
    have B2 := Lib.hid (below_next B1.out hb2 ⟨rfl, rfl, rfl, rfl⟩)
    clear hb2
    go_wp2_with fail
    exact HP.out _ B2.out
    -- part>
  rw [hf] at HF
  by_cases hn0 : n = 0
  · -- part<
    subst hn0
    clear hl ht hM hf
    go_enter Tryz.func8, Tryz.ntmps8
    go_wp2_with fail
    refine HF.out.mono ?_
    rintro e w1 ⟨rfl, hb1⟩
    have B1 := Lib.hid hb1
    clear hb1
    go_wp2_with fail
    refine (HW.out _ B1.out).mono ?_
    rintro e w2 ⟨rfl, hb2⟩
    have B2 := Lib.hid (below_next B1.out hb2 ⟨rfl, rfl, rfl, rfl⟩)
    clear hb2
    go_wp2_with fail
    exact HP.out _ B2.out
    -- part>
  have hd0 : ((n : Int) == 0) = false := beq_eq_false_iff_ne.2 (by omega)
  obtain ⟨f1, f2, f3, f4⟩ := fineB_parts hf
  have hn : n ≤ 16 := by omega
  have HR := Lib.hid (fun W (h : Below w.heap.size w W) => RootF hf (hl.below h) (ht.below h) (hM.below h))
  have hrl := root_len l (fun x hx => (f2 x hx).2.2) (by omega)
  rcases hrt : rootN sha l with ⟨r1, r2⟩
  rw [hrt] at hrl HR
  have hrl1 : r1.length ≤ 65 := hrl.1
  obtain ⟨i, hi⟩ : ∃ i, d.toNat % n = i := ⟨_, rfl⟩
  have hlt2 : i < n := by rw [← hi]; exact Nat.mod_lt _ (by omega)
  have hdb : d.toNat < 256 := d.toNat_lt
  have hm2 : (d.toNat : Int) % (n : Int) = (i : Int) := by rw [← hi]; simp
  have PK := Lib.hid (fun W (h : Below w.heap.size w W) => ProveF hf (hl.below h) (ht.below h) (hM.below h) hlt2)
  rcases hx : l.getD i ln0 with ⟨xa, xc, xm⟩
  have hsx := f2 _ (lnAt_mem l i (by omega))
  have hox := okB_at f4 (show i < l.length by omega)
  rw [hx] at hsx hox
  have HVg := Lib.hid (fun (i' n' : Nat) (ns' : List Nd) (hi' : i' ≤ 100000) (hn' : n' ≤ 100000) (h70 : ∀ x ∈ ns', x.1.length ≤ 70) (hl' : ns'.length ≤ 100000) (z : Int) (hz : verI sha (r1, r2) (xa, xc, xm) i' n' ns' = z) A c W (hr : rowNd.Rds W A ns'.length c ns') (h : Below w.heap.size w W) =>
    (show Calls Tryz.prog 20 #[.agg #[.string ⟨r1.toArray⟩, .string ⟨r2.toArray⟩], .agg #[.string ⟨xa.toArray⟩, .string ⟨xc.toArray⟩, .string ⟨xm.toArray⟩], .agg #[.int .i64 (i' : Int), .int .i64 (n' : Int), .slice A ns'.length c]] W (IntPost z W) from by
      rw [← hz]
      exact Verify_any r1 r2 xa xc xm (i' : Int) (n' : Int) A ns'.length c ns' W (by omega) hsx hr h70 hl' (by omega) (by omega) (by omega) (by omega) (ht.below h) (hM.below h)))
  have HRg := Lib.hid (fun (i' n' : Nat) (ns' : List Nd) (hv : ∀ x ∈ ns', validN x = true) (hv2 : ∀ x ∈ ns', x.1.length ≤ 70) (hn' : n' ≤ 1024) (hi' : i' < n') (hp : ns'.length ≤ 10000) (hd : wayN i' n' ≠ wayN i l.length ∨ ns' ≠ nodesN sha l i) (hss : ns' = nodesN sha l i ∨ wayN i' n' = wayN i l.length) A A' c c' W (hr : rowNd.Rds W A (nodesN sha l i).length c (nodesN sha l i)) (hr' : rowNd.Rds W A' ns'.length c' ns') (h : Below w.heap.size w W) =>
    RefG hf hln hrt hlt2 hx hox hsx hv hv2 hn' hi' hp (.inr hd) hss hr hr' (ht.below h) (hM.below h))
  have HWy := Lib.hid (fun (k : Nat) (hk : k ≤ 100000) W => way_any i k W hk (by omega))
  have HAd := Lib.hid (fun (x : List UInt8) (hx : x.length ≤ 100) W (h : Below w.heap.size w W) => (show Calls Tryz.prog 27 #[.string ⟨x.toArray⟩, .string ⟨([49] : List UInt8).toArray⟩] W (StrPost (txt (val x + val [49])) W) from
    Add_any ⟨x.toArray⟩ ⟨([49] : List UInt8).toArray⟩ W (by show x.toArray.size ≤ 120; rw [List.size_toArray]; omega) (by decide) (ht.below h)))
  have L1 := Lib.hid hl
  unfold StrPost at HAd
  unfold NdC ndV at HR
  unfold IntPost at HVg
  unfold BoolPost at HRg
  simp only at HR
  have hnl : (nodesN sha l i).length = (wayN i n).length := by rw [nodes_len, hln]
  have NL := Lib.hid (show (wayN i n).reverse.length = (nodesN sha l i).length by rw [List.length_reverse]; exact hnl.symm)
  have NS := Lib.hid (nodes_small f2 (by omega) i)
  have NV := Lib.hid (nodes_valid sha_len l i)
  have hrv := root_valid sha_len l
  rw [hrt] at hrv
  have V9 := Lib.hid (show ∀ ns' : List Nd, (∀ x ∈ ns', validN x = true) → ns'.length ≠ (nodesN sha l i).length → verI sha (r1, r2) (xa, xc, xm) i n ns' = 9 from fun ns' h1 h2 => by
    have := ver_len (D := sha) sha_len f4 (by omega) (k := i) (by omega) h1 h2
    rw [hrt, hx, hln] at this
    exact this)
  have V20 := Lib.hid (show ∀ m (hm : m < (nodesN sha l i).length), verI sha (r1, r2) (xa, xc, xm) i n ((nodesN sha l i).set m (bumpN (nodesN sha l i)[m])) = 20 from fun m hm => by
    have := ver_bump (D := sha) sha_len f4 (by omega) (k := i) (by omega) hm
    rw [hrt, hx, hln] at this
    exact this)
  have V0 := Lib.hid (show ∀ n' : Nat, n' ≤ 1024 → i < n' → wayN i n' = wayN i n → verI sha (r1, r2) (xa, xc, xm) i n' (nodesN sha l i) = 0 from fun n' h1 h2 h3 => by
    have := ver_leaves (D := sha) sha_len f4 (k := i) (by omega) h1 h2 (by rw [hln]; exact h3)
    rw [hrt, hx] at this
    exact this)
  have V22 := Lib.hid (show ∀ n' : Nat, n' ≤ 1024 → n' ≤ i → verI sha (r1, r2) (xa, xc, xm) i n' (nodesN sha l i) = 2 from fun n' h1 h2 => ver_range (D := sha) hox hrv (nodes_valid sha_len l i) h1 h2)
  have HX := Lib.hid hx
  have LN := Lib.hid hln
  have RV := Lib.hid hrv
  clear hl ht hM hf f1 f2 f3 f4 hrt hrl hrv hln hx hsx hox hi hnl
  generalize nodesN sha l i = ns at *
  go_enter Tryz.func8, Tryz.ntmps8
  go_wp2_with fail
  refine HF.out.mono ?_
  rintro e w1 ⟨rfl, hb1⟩
  have B1 := Lib.hid hb1
  clear hb1 HF
  go_wp2_with fail
  refine (HR.out _ B1.out).mono ?_
  rintro e w3 ⟨rfl, hb3⟩
  have R0 := Lib.hid (show RtS w w3.heap.size r1 r2 (w3.alloc (.cells #[.string ⟨r1.toArray⟩, .string ⟨r2.toArray⟩] 27)) from ⟨(below_next B1.out hb3 ⟨rfl, rfl, rfl, rfl⟩).alloc (below_next B1.out hb3 ⟨rfl, rfl, rfl, rfl⟩).size _, heap_alloc_new w3 _⟩)
  clear hb3 B1 HR
  go_upto_region 5 with fail
  generalize w3.alloc (.cells #[.string ⟨r1.toArray⟩, .string ⟨r2.toArray⟩] 27) = w4 at *
  generalize w3.heap.size = rb at *
  go_wp2_with fail
  refine (PK.out _ R0.out.bel).mono ?_
  rintro e w5 ⟨v5, rfl, hov, hb⟩
  obtain ⟨Av, cv, rfl, hrd⟩ := hov.rds
  obtain ⟨nn, hnn⟩ : ∃ nn, ns.length = nn := ⟨_, rfl⟩
  simp only [hnn] at hrd HRg NL ⊢
  have NN := Lib.hid hnn
  have R2 := Lib.hid ((R0.out.below hb).alloc (.cells #[.int .i64 (i : Int), .int .i64 (n : Int), .slice Av nn cv] 33))
  have P2 := Lib.hid (heap_alloc_new w5 (.cells #[.int .i64 (i : Int), .int .i64 (n : Int), .slice Av nn cv] 33))
  have V2 := Lib.hid (hrd.below ((Below.refl _ w5).alloc (Nat.le_refl _) (.cells #[.int .i64 (i : Int), .int .i64 (n : Int), .slice Av nn cv] 33)))
  clear hb hov hrd R0 PK hnn hm2
  go_upto_region 6 with fail
  generalize w5.alloc (.cells #[.int .i64 (i : Int), .int .i64 (n : Int), .slice Av nn cv] 33) = w6 at *
  generalize w5.heap.size = pb at *
  obtain ⟨⟨p0, p1, p2⟩, _⟩ := cells3 P2.out
  have HD := Lib.hid (Below.refl w6.heap.size w6)
  have WY := Lib.hid (HWy.out n (by omega))
  unfold BlP at WY
  go_cut [63] from 47 to 63 (fun t wx => Hid (t = .bool false ∧ Below w6.heap.size w6 wx))
  case first =>
    -- part<
    clear HVg HRg HP HW L1 HWy
    go_region_held3 (fun w' => w'.cell? ⟨pb, 2, none⟩ = some (.slice Av nn cv))
      (first | exact g2 | exact p2 | go_keep)
      (first
        | (go_at_call 28; with_reducible refine (WY.out _).mono ?_
           rintro e w' ⟨vW, rfl, ho, hb⟩; have HD := Lib.hid (below_next HD.out hb ⟨rfl, rfl, rfl, rfl⟩); have g2 := (cells3 (bkeep P2.out HD.out)).1.2.2; obtain ⟨Aw, cw, e2, _⟩ := ho.rds; rw [NL.out] at e2; subst e2; clear hb ho))
    all_goals
      go_wp2_with fail
      go_meet
      first | exact Lib.hid ⟨rfl, HD.out⟩ | exact Lib.hid ⟨rfl, Below.drew HD.out⟩
    -- part>
  case rest =>
  obtain ⟨rfl, hb6⟩ := hcut.out
  have X6 := Lib.hid hb6
  obtain ⟨i2, hi2⟩ : ∃ j, d2.toNat % n = j := ⟨_, rfl⟩
  have hi2n : i2 < n := by rw [← hi2]; exact Nat.mod_lt _ (by omega)
  have hd2b : d2.toNat < 256 := d2.toNat_lt
  have hm3 : (d2.toNat : Int) % (n : Int) = (i2 : Int) := by rw [← hi2]; simp
  clear hcut hb6 hi2 p0 p1 p2 HD WY
  obtain ⟨⟨p0, p1, p2⟩, _⟩ := cells3 (bkeep P2.out X6.out)
  have Q1 := Lib.hid (heap_alloc_new wc (.cells #[.int .i64 (i : Int), .int .i64 (n : Int), .slice Av nn cv] 33))
  have X7 := Lib.hid (X6.out.alloc X6.out.size (.cells #[.int .i64 (i : Int), .int .i64 (n : Int), .slice Av nn cv] 33))
  have Z6 := Lib.hid X6.out.size
  go_upto_region 9 with fail
  generalize wc.alloc (.cells #[.int .i64 (i : Int), .int .i64 (n : Int), .slice Av nn cv] 33) = w7 at *
  generalize wc.heap.size = qb1 at *
  obtain ⟨_, f0, f1, f2⟩ := cells3 Q1.out
  obtain ⟨⟨c0, c1, c2⟩, _⟩ := cells3 Q1.out
  clear p0 p1 p2 X6
  go_upto_region 10 with fail
  have X8 := Lib.hid (X7.out.setCell (p := ⟨qb1, 0, none⟩) Z6.out (.int .i64 (i2 : Int)))
  have Q2 := Lib.hid (set3a Q1.out (.int .i64 (i2 : Int)))
  clear X7 Q1 c0 c1 c2 f0 f1 f2 hm3
  generalize w7.setCell ⟨qb1, 0, none⟩ (.int .i64 (i2 : Int)) = w8 at *
  obtain ⟨b1, o1, hA1, hb1, _⟩ := L1.out.at_ (by omega)
  subst hA1
  have hii : (i : Int) < (n : Int) := by omega
  have hi0 : (0 : Int) ≤ (i : Int) := by omega
  have BB := Lib.hid (fun W (h : Below w6.heap.size w6 W) => (show Below w.heap.size w W ∧ rowNd.Rds W Av nn cv ns ∧ W.heap[pb]? = some (.cells #[.int .i64 (i : Int), .int .i64 (n : Int), .slice Av nn cv] 33) ∧ W.heap[rb]? = some (.cells #[.string ⟨r1.toArray⟩, .string ⟨r2.toArray⟩] 27) from
    ⟨(R2.out.below h).bel, V2.out.below h, bkeep P2.out h, (R2.out.below h).rt⟩))
  have QQ := Lib.hid (fun W (h : Below w6.heap.size w6 W) => (show W.cell? ⟨b1, o1 + i * 3, none⟩ = some (.string ⟨xa.toArray⟩) ∧ W.cell? ⟨b1, o1 + i * 3 + 1, none⟩ = some (.string ⟨xc.toArray⟩) ∧ W.cell? ⟨b1, o1 + i * 3 + 2, none⟩ = some (.string ⟨xm.toArray⟩) from by
    have q0 := (L1.out.below (BB.out W h).1).cell rowB_ok ln0 i 0 _ hlt2 rfl
    have q1 := (L1.out.below (BB.out W h).1).cell rowB_ok ln0 i 1 _ hlt2 rfl
    have q2 := (L1.out.below (BB.out W h).1).cell rowB_ok ln0 i 2 _ hlt2 rfl
    rw [HX.out] at q0 q1 q2
    exact ⟨q0, q1, q2⟩))
  go_cut [89] from 71 to 89 (fun t wx => Hid (t = .bool false ∧ Below w8.heap.size w8 wx))
  case first =>
    have BP := Lib.hid (fun p : Bel w8 => BB.out p.W (below_next X8.out p.h ⟨rfl, rfl, rfl, rfl⟩))
    have QP := Lib.hid (fun p : Bel w8 => QQ.out p.W (below_next X8.out p.h ⟨rfl, rfl, rfl, rfl⟩))
    have hk0 := fun p : Bel w8 => (cells3 (bkeep Q2.out p.h)).1.1
    have hk1 := fun p : Bel w8 => (cells3 (bkeep Q2.out p.h)).1.2.1
    have hk2 := fun p : Bel w8 => (cells3 (bkeep Q2.out p.h)).1.2.2
    have hr0 := fun p : Bel w8 => (cells2n (BP.out p).2.2.2).1.1
    have hr1 := fun p : Bel w8 => (cells2n (BP.out p).2.2.2).1.2
    have hp0 := fun p : Bel w8 => (cells3 (BP.out p).2.2.1).1.1
    have hp1 := fun p : Bel w8 => (cells3 (BP.out p).2.2.1).1.2.1
    have hp2 := fun p : Bel w8 => (cells3 (BP.out p).2.2.1).1.2.2
    have hq0 := fun p : Bel w8 => (QP.out p).1
    have hq1 := fun p : Bel w8 => (QP.out p).2.1
    have hq2 := fun p : Bel w8 => (QP.out p).2.2
    by_cases e : i2 = i
    · subst e
      -- part<
      clear HVg HRg HP HW HWy V9 V20 V0 V22
      have k0 := hk0 ⟨w8, Below.refl _ _⟩
      simp only at k0
      clear hk0 hk1 hk2 hr0 hr1 hp0 hp1 hp2 hq0 hq1 hq2 BP QP
      go_quiet (fail)
      go_wp2_with fail
      go_meet
      exact Lib.hid ⟨rfl, below_dr (Below.refl _ w8) nq⟩
      -- part>
    · -- part<
      have h1 : ((i2 : Int) == (i : Int)) = false := beq_eq_false_iff_ne.2 (by omega)
      have h2 : ((i2 : Int) != (i : Int)) = true := by rw [bne_iff_ne]; omega
      have R5 := Lib.hid (fun p : Bel w8 => HRg.out i2 n ns NV.out (fun x hx => by have := (NS.out x hx).1; omega) (by omega) hi2n (by have := NL.out; rw [List.length_reverse] at this; have := way_len i n; have := NN.out; omega) (.inl fun h => e (way_inj n i2 i hi2n hlt2 (by rw [LN.out] at h; exact h))) (.inl rfl) _ _ cv cv p.W (BP.out p).2.1 (by rw [NN.out]; exact (BP.out p).2.1) (BP.out p).1)
      rw [NN.out] at R5
      clear HVg HRg HP HW HWy V9 V20 V0 V22
      refine wp_region_quiet_bel (by kernel_rfl) (by kernel_rfl) ?_
      repeat (go_big_quiet_step (first
        | (go_at_call 24; with_reducible refine Calls.bel_of (R5.out _))))
      refine wpQuiet_nil ?_
      intro wq' hw'
      obtain ⟨⟨wq, hq9⟩, hw2⟩ := hw'
      have hw3 : wq' = wq := hw2
      subst hw3
      clear hk0 hk1 hk2 hr0 hr1 hp0 hp1 hp2 hq0 hq1 hq2 hw2
      go_wp2_with fail
      go_meet
      exact Lib.hid ⟨rfl, hq9⟩
      -- part>
  case rest =>
  obtain ⟨rfl, hb8⟩ := hcut.out
  have X9 := Lib.hid (below_next X8.out hb8 ⟨rfl, rfl, rfl, rfl⟩)
  clear hcut hb8 X8 Q2 Z6
  have hnn : nn ≤ 16 := by have := NL.out; rw [List.length_reverse] at this; have := way_len i n; omega
  obtain ⟨⟨p0, p1, p2⟩, _⟩ := cells3 (BB.out _ X9.out).2.2.1
  have Q3 := Lib.hid (heap_alloc_new wc (.cells #[.int .i64 (i : Int), .int .i64 (n : Int), .slice Av nn cv] 33))
  have X10 := Lib.hid (X9.out.alloc X9.out.size (.cells #[.int .i64 (i : Int), .int .i64 (n : Int), .slice Av nn cv] 33))
  have Z9 := Lib.hid X9.out.size
  go_upto_region 13 with fail
  generalize wc.alloc (.cells #[.int .i64 (i : Int), .int .i64 (n : Int), .slice Av nn cv] 33) = w10 at *
  generalize wc.heap.size = qb3 at *
  clear p0 p1 p2 X9
  obtain ⟨⟨p0, p1, p2⟩, _⟩ := cells3 (BB.out _ X10.out).2.2.1
  obtain ⟨⟨g0, g1⟩, _⟩ := cells2n (BB.out _ X10.out).2.2.2
  have HD := Lib.hid (Below.refl w10.heap.size w10)
  have CL2 := Lib.hid (fun W (h : Below w10.heap.size w10 W) => clone2 h (BB.out W (below_next X10.out h ⟨rfl, rfl, rfl, rfl⟩)).2.1 (show nn ≤ 1000 by omega))
  go_cut [96] from 91 to 97 (fun v wx => ∃ A7 c7, v = .slice A7 (nn + 1) c7 ∧ Hid (rowNd.Rds wx A7 (nn + 1) c7 (ns ++ [(r1, r2)]) ∧ wx.heap[qb3]? = some (.cells #[.int .i64 (i : Int), .int .i64 (n : Int), .slice A7 (nn + 1) c7] 33) ∧ Below w6.heap.size w6 wx))
  case first =>
    have px := keepC (o := (.cells #[.string ⟨r1.toArray⟩, .string ⟨r2.toArray⟩] 27)) p2
    have BR := Lib.hid (fun W (h : Below w10.heap.size w10 W) => BB.out W (below_next X10.out h ⟨rfl, rfl, rfl, rfl⟩))
    have hnl : ns.length ≤ 16 := by rw [NN.out]; exact hnn
    -- part<
    have HN5 := Lib.hid (show (ns ++ [(r1, r2)]).length = nn + 1 by rw [List.length_append, NN.out]; rfl)
    have QL := Lib.hid (show qb3 < w10.heap.size from (Array.getElem?_eq_some_iff.1 Q3.out).1)
    clear HVg HRg HP HW L1 HWy V9 V20 V0 V22
    go_region_law (first
      | (go_simp; go_at_call 29; with_reducible refine (CL2.out _ ?_).mono ?_; · (first | exact HD.out | exact Below.drew HD.out | exact HD.out.alloc (Nat.le_refl _) _ | exact Below.drew (HD.out.alloc (Nat.le_refl _) _))
         rintro e w' ⟨v, rfl, ho, hb, hd⟩; have HO := Lib.hid ho; have HBX := Lib.hid hb; have HD := Lib.hid hd; have HQ := BR.out _ HD.out; obtain ⟨⟨g0, g1⟩, _⟩ := cells2n HQ.2.2.2; clear ho hb hd HQ)
      | (first
           | refine Row.step_append1 rowNd_ok rfl (.tmp 93) (.tmp 95) rfl w10.heap.size v ns _ (r1, r2) _ _ rfl rfl rfl HO.out rfl HD.out.size (by omega) ?_
           | refine Row.step_append1d rowNd_ok rfl (.tmp 93) (.tmp 95) rfl w10.heap.size v ns _ (r1, r2) _ _ rfl rfl rfl HO.out rfl HD.out.size (by omega) ?_
           | refine Row.step_append rowNd_ok rfl (.tmp 93) (.tmp 95) rfl w10.heap.size v ns _ (some ⟨w10.heap.size, 0, none⟩) 1 1 [(r1, r2)] rfl HO.out rfl (rds1 HBX.out) HD.out.size (by omega) ?_
           | refine Row.step_append rowNd_ok rfl (.tmp 93) (.tmp 95) rfl w10.heap.size v ns _ (some ⟨w10.heap.size, 0, none⟩) 1 1 [(r1, r2)] rfl HO.out rfl (rds1d HBX.out) HD.out.size (by omega) ?_
         intro v1 w5 hown1 hg1 hat; have HO1 := Lib.hid hown1; have HB5 := Lib.hid (below_own HD.out (Nat.le_refl _) hg1 fun k hk => (HO.out.own k hk).1); obtain ⟨⟨h0, h1, h2⟩, f0, f1, f2⟩ := cells3 (bkeep Q3.out HB5.out); obtain ⟨A7, c7, e7⟩ := hown1.slice; rw [HN5.out] at e7; subst e7; clear hown1 hg1 hat))
    all_goals
      go_wp2_with fail
      go_meet
      refine ⟨A7, c7, rfl, Lib.hid ⟨own_rds (HO1.out.kept (grown_setCell w5 ⟨qb3, 2, none⟩ _) (fun k e => by cases e; exact QL.out)), set3c (bkeep Q3.out HB5.out) _, (below_next X10.out HB5.out ⟨rfl, rfl, rfl, rfl⟩).setCell (p := ⟨qb3, 2, none⟩) Z9.out _⟩⟩
    -- part>
  case rest =>
  obtain ⟨A7, c7, rfl, hc3⟩ := hcut
  have X11 := Lib.hid hc3.out.2.2
  have V7 := Lib.hid hc3.out.1
  have Q7 := Lib.hid hc3.out.2.1
  clear hc3 X10 Q3 Z9 CL2 HD p0 p1 p2 g0 g1
  go_upto_region 14 with fail
  go_cut [105] from 98 to 105 (fun t wx => Hid (t = .bool false ∧ Below w6.heap.size w6 wx))
  case first =>
    -- part<
    have HN5 := (show (ns ++ [(r1, r2)]).length = nn + 1 by rw [List.length_append, NN.out]; rfl)
    have m1 : ∀ x ∈ ns ++ [(r1, r2)], x.1.length ≤ 70 := snoc_all (P := fun x => x.1.length ≤ 70) (fun x hx => by have := (NS.out x hx).1; omega) (by show r1.length ≤ 70; omega)
    have m2 : ∀ x ∈ ns ++ [(r1, r2)], validN x = true := snoc_all (P := fun x => validN x = true) NV.out RV.out
    have m3 := V9.out (ns ++ [(r1, r2)]) m2 (by rw [HN5, NN.out]; omega)
    have R4 := HVg.out i n (ns ++ [(r1, r2)]) (by omega) (by omega) m1 (by rw [HN5]; omega) 9 m3 A7 c7
    rw [HN5] at R4
    have BP := Lib.hid (fun p : Bel wc => BB.out p.W (below_next X11.out p.h ⟨rfl, rfl, rfl, rfl⟩))
    have QP := Lib.hid (fun p : Bel wc => QQ.out p.W (below_next X11.out p.h ⟨rfl, rfl, rfl, rfl⟩))
    have R5 := Lib.hid (fun p : Bel wc => R4 p.W (V7.out.below p.h) (BP.out p).1)
    have hk0 := fun p : Bel wc => (cells3 (bkeep Q7.out p.h)).1.1
    have hk1 := fun p : Bel wc => (cells3 (bkeep Q7.out p.h)).1.2.1
    have hk2 := fun p : Bel wc => (cells3 (bkeep Q7.out p.h)).1.2.2
    have hr0 := fun p : Bel wc => (cells2n (BP.out p).2.2.2).1.1
    have hr1 := fun p : Bel wc => (cells2n (BP.out p).2.2.2).1.2
    have hq0 := fun p : Bel wc => (QP.out p).1
    have hq1 := fun p : Bel wc => (QP.out p).2.1
    have hq2 := fun p : Bel wc => (QP.out p).2.2
    clear HVg HRg HP HW HWy V9 V20 V0 V22 R4 m1 m2 m3 HN5 HAd
    refine wp_region_quiet_bel (by kernel_rfl) (by kernel_rfl) ?_
    repeat (go_big_quiet_step (first
      | (go_at_call 20; with_reducible refine Calls.bel_of (R5.out _))))
    refine wpQuiet_nil ?_
    intro wq' hw'
    obtain ⟨⟨wq, hq9⟩, hw2⟩ := hw'
    have hw3 : wq' = wq := hw2
    subst hw3
    clear hk0 hk1 hk2 hr0 hr1 hq0 hq1 hq2 hw2
    go_wp2_with fail
    go_meet
    exact Lib.hid ⟨rfl, below_next X11.out hq9 ⟨rfl, rfl, rfl, rfl⟩⟩
    -- part>
  case rest =>
  obtain ⟨rfl, hb8⟩ := hcut.out
  have X12 := Lib.hid hb8
  clear hcut hb8 X11 V7 Q7
  obtain ⟨⟨p0, p1, p2⟩, _⟩ := cells3 (BB.out _ X12.out).2.2.1
  by_cases hz : nn = 0
  · -- part<
    have hd : ((nn : Int) == 0) = true := by rw [hz]; rfl
    have B1 := Lib.hid (BB.out _ X12.out).1
    clear HVg HRg HWy V9 V20 V0 V22 HAd BB QQ
    go_wp2_with fail
    refine (HW.out _ B1.out).mono ?_
    rintro e w2 ⟨rfl, hb2⟩
    have B2 := Lib.hid (below_next B1.out hb2 ⟨rfl, rfl, rfl, rfl⟩)
    clear hb2
    go_wp2_with fail
    exact HP.out _ B2.out
    -- part>
  have hdz : ((nn : Int) == 0) = false := beq_eq_false_iff_ne.2 (by omega)
  have hn1 : (1 : Int) ≤ (nn : Int) := by omega
  obtain ⟨A8, run8, hrd8⟩ := Row.run_from rowNd_ok V2.out 1 (by omega)
  have run9 : ∀ W, (Instr.sliceAt 31 (.slice Av nn cv) (some (.int .i64 1)) none none).run Tryz.prog W = .ok (.slice A8 (nn - 1) (cv - 1)) W := run8
  have V8 := Lib.hid hrd8
  have Q8 := Lib.hid (heap_alloc_new wc (.cells #[.int .i64 (i : Int), .int .i64 (n : Int), .slice Av nn cv] 33))
  have X13 := Lib.hid (X12.out.alloc X12.out.size (.cells #[.int .i64 (i : Int), .int .i64 (n : Int), .slice Av nn cv] 33))
  have Z8 := Lib.hid X12.out.size
  clear run8 hrd8
  go_upto_region 19 with fail
  generalize wc.alloc (.cells #[.int .i64 (i : Int), .int .i64 (n : Int), .slice Av nn cv] 33) = w13 at *
  generalize wc.heap.size = qb8 at *
  clear p0 p1 p2 X12
  obtain ⟨⟨p0, p1, p2⟩, _⟩ := cells3 (BB.out _ X13.out).2.2.1
  obtain ⟨⟨k0, k1, k2⟩, f0, f1, f2⟩ := cells3 Q8.out
  go_upto_region 20 with fail
  have X14 := Lib.hid (X13.out.setCell (p := ⟨qb8, 2, none⟩) Z8.out (.slice A8 (nn - 1) (cv - 1)))
  have T8 := Lib.hid (set3c Q8.out (.slice A8 (nn - 1) (cv - 1)))
  clear X13 Q8 k0 k1 k2 f0 f1 f2 p0 p1 p2 run9 hn1
  generalize w13.setCell ⟨qb8, 2, none⟩ (.slice A8 (nn - 1) (cv - 1)) = w14 at *
  obtain ⟨⟨p0, p1, p2⟩, _⟩ := cells3 (BB.out _ X14.out).2.2.1
  have T9 := Lib.hid (balloc T8.out (.cells #[.int .i64 (i : Int), .int .i64 (n : Int), .slice Av nn cv] 33))
  have X15 := Lib.hid (X14.out.alloc X14.out.size (.cells #[.int .i64 (i : Int), .int .i64 (n : Int), .slice Av nn cv] 33))
  have Q9 := Lib.hid (heap_alloc_new w14 (.cells #[.int .i64 (i : Int), .int .i64 (n : Int), .slice Av nn cv] 33))
  have Z9 := Lib.hid X14.out.size
  have NE9 := Lib.hid (show qb8 < w14.heap.size from (Array.getElem?_eq_some_iff.1 T8.out).1)
  go_upto_region 21 with fail
  generalize w14.alloc (.cells #[.int .i64 (i : Int), .int .i64 (n : Int), .slice Av nn cv] 33) = w15 at *
  generalize w14.heap.size = qb9 at *
  clear p0 p1 p2 X14 T8
  obtain ⟨⟨p0, p1, p2⟩, _⟩ := cells3 (BB.out _ X15.out).2.2.1
  have HCL := Lib.hid (cloneN_any Av nn cv ns w15 (BB.out _ X15.out).2.1 (by omega))
  unfold RetNd at HCL
  go_wp2_with fail
  refine HCL.out.mono ?_
  rintro e w16 ⟨v, rfl, ho, hb⟩
  have hns : 0 < ns.length := by rw [NN.out]; omega
  obtain ⟨g, c9, rfl, hg1, hg2, hg3, hg4, hg5⟩ := ho.pos hns
  have hn9 := NN.out
  simp only [hn9] at ho hg3 ⊢
  have X16 := Lib.hid (below_next X15.out hb ⟨rfl, rfl, rfl, rfl⟩)
  have T10 := Lib.hid (bkeep T9.out hb)
  have Q10 := Lib.hid (bkeep Q9.out hb)
  have HO := Lib.hid ho
  have NE10 := Lib.hid (show qb9 < w15.heap.size ∧ w15.heap.size ≤ g from ⟨(Array.getElem?_eq_some_iff.1 Q9.out).1, hg1⟩)
  have ZG := Lib.hid (show w6.heap.size ≤ g from Nat.le_trans X15.out.size hg1)
  clear hb ho HCL hns hn9 hg1 hg2 hg3 hg4 hg5 T9 Q9 X15 p0 p1 p2
  obtain ⟨⟨k0, k1, k2⟩, f0, f1, f2⟩ := cells3 Q10.out
  go_upto_region 22 with fail
  have X17 := Lib.hid (X16.out.setCell (p := ⟨qb9, 2, none⟩) Z9.out (.slice (some ⟨g, 0, none⟩) nn c9))
  have Q11 := Lib.hid (set3c Q10.out (.slice (some ⟨g, 0, none⟩) nn c9))
  have T11 := Lib.hid ((heap_set (W := w16) (b := qb9) (o := 2) (by have := NE9.out; omega) (.slice (some ⟨g, 0, none⟩) nn c9)).trans T10.out)
  have HO2 := Lib.hid (HO.out.kept (grown_setCell w16 ⟨qb9, 2, none⟩ (.slice (some ⟨g, 0, none⟩) nn c9)) (fun k e => by cases e; exact NE10.out.1))
  clear X16 Q10 T10 HO k0 k1 k2 f0 f1 f2
  generalize w16.setCell ⟨qb9, 2, none⟩ (.slice (some ⟨g, 0, none⟩) nn c9) = w17 at *
  obtain ⟨m, hm⟩ : ∃ m, d2.toNat % nn = m := ⟨_, rfl⟩
  have hmlt : m < nn := by rw [← hm]; exact Nat.mod_lt _ (by omega)
  have hm4 : (d2.toNat : Int) % (nn : Int) = (m : Int) := by rw [← hm]; simp
  clear hm
  obtain ⟨⟨k0, k1, k2⟩, _⟩ := cells3 Q11.out
  go_upto_region 23 with fail
  rw [hm4]
  clear hm4 k0 k1 k2
  have hmi : (m : Int) < (nn : Int) := by omega
  have hm0 : (0 : Int) ≤ (m : Int) := by omega
  have hmn : m < ns.length := by rw [NN.out]; exact hmlt
  rcases hnm : ns.getD m nd0 with ⟨s1, s2⟩
  have hsz := NS.out _ (getD_mem nd0 ns m hmn)
  have hbv := bump_valid (NV.out _ (getD_mem nd0 ns m hmn))
  have h20 := V20.out m hmn
  rw [getD_nd ns m hmn] at h20
  rw [hnm] at hsz hbv h20
  have hs1 : s1.length ≤ 65 := hsz.1
  have hs2 : s2.length = 32 := hsz.2
  have hbl := txt_bump70 s1 hs1
  unfold bumpN at hbv h20
  simp only at hbv h20
  have AD := Lib.hid (fun W (h : Below w17.heap.size w17 W) => HAd.out s1 (by omega) W (BB.out W (below_next X17.out h ⟨rfl, rfl, rfl, rfl⟩)).1)
  rw [val_one] at AD
  have HOF := Lib.hid (fun W (h : Below w17.heap.size w17 W) => (show rowNd.Rds (W.setCell ⟨g, m * 2, none⟩ (.string ⟨(txt (val s1 + 1)).toArray⟩)) (some ⟨g, 0, none⟩) nn c9 (ns.set m (txt (val s1 + 1), s2)) from by
    have := (own_fst (HO2.out.below h) m (txt (val s1 + 1)) hmn).1
    rw [hnm] at this
    exact own_rds this))
  generalize txt (val s1 + 1) = sm at *
  have V20m := Lib.hid h20
  have BVm := Lib.hid hbv
  have HNM := Lib.hid hnm
  clear h20 hbv hsz V20 hnm
  go_cut [136] from 127 to 138 (fun v wx => Hid (v = .string ⟨sm.toArray⟩ ∧ Below w6.heap.size w6 wx ∧ wx.heap[qb8]? = some (.cells #[.int .i64 (i : Int), .int .i64 (n : Int), .slice A8 (nn - 1) (cv - 1)] 33) ∧ wx.heap[qb9]? = some (.cells #[.int .i64 (i : Int), .int .i64 (n : Int), .slice (some ⟨g, 0, none⟩) nn c9] 33) ∧ rowNd.Rds wx (some ⟨g, 0, none⟩) nn c9 (ns.set m (sm, s2))))
  case first =>
    -- part<
    have hcell := (own_rds HO2.out).cell rowNd_ok nd0 m 0 _ hmlt rfl
    rw [HNM.out] at hcell
    simp only [Nat.zero_add, Nat.add_zero] at hcell
    obtain ⟨⟨k0, k1, k2⟩, _⟩ := cells3 Q11.out
    have HCL := Lib.hid hcell
    have hkk := fun p : Bel w17 => (cells3 (bkeep Q11.out p.h)).1.2.2
    have hcc : ∀ p : Bel w17, p.W.cell? ⟨g, m * 2, none⟩ = some (.string ⟨s1.toArray⟩) := fun p => (p.h.cell (p := ⟨g, m * 2, none⟩) (block_lt_of_cell HCL.out)).trans HCL.out
    have ADP := Lib.hid (fun p : Bel w17 => AD.out p.W p.h)
    have NEG := Lib.hid (show g ≠ qb8 ∧ g ≠ qb9 by have := NE9.out; have := NE10.out; omega)
    clear HVg HRg HP HW L1 HWy V9 V0 V22 HAd V20m k0 k1 k2 hcell
    refine wp_region_tail_bel 12 (by kernel_rfl) (by kernel_rfl) ?_
    simp only [List.take_succ_cons, List.take_zero, List.drop_succ_cons, List.drop_zero]
    repeat (quiet_step (first
      | (go_at_call 27; with_reducible refine Calls.bel_of (ADP.out _))))
    refine wpQuiet_nil ?_
    intro wq' hw'
    obtain ⟨⟨wq, hq⟩, hw2⟩ := hw'
    have hw3 : wq' = wq := hw2
    subst hw3
    have e2 : wq'.cell? ⟨g, m * 2, none⟩ = some (.string ⟨s1.toArray⟩) := hcc ⟨wq', hq⟩
    have e3 : wq'.frozen? ⟨g, m * 2, none⟩ = false := Row.Own.frz (HO2.out.below hq) _
    have HQ9 := Lib.hid hq
    clear hkk hcc hw2 hq
    go_wp2_with fail
    go_meet
    exact Lib.hid ⟨rfl, (below_next X17.out HQ9.out ⟨rfl, rfl, rfl, rfl⟩).setCell (p := ⟨g, m * 2, none⟩) ZG.out _, (heap_set NEG.out.1 _).trans (bkeep T11.out HQ9.out), (heap_set NEG.out.2 _).trans (bkeep Q11.out HQ9.out), HOF.out _ HQ9.out⟩
    -- part>
  case rest =>
  obtain ⟨rfl, hc9⟩ := hcut.out
  have X18 := Lib.hid hc9.1
  have T18 := Lib.hid hc9.2.1
  have Q18 := Lib.hid hc9.2.2.1
  have V18 := Lib.hid hc9.2.2.2
  obtain ⟨bv, ov, hAv, hbv, _⟩ := V2.out.at_ (by omega)
  subst hAv
  clear hcut hc9 HO2 Q11 T11 X17 AD HOF HAd NE9 NE10 Z9 Z8 hbv
  obtain ⟨⟨p0, p1, p2⟩, _⟩ := cells3 (BB.out _ X18.out).2.2.1
  have dcell := (BB.out _ X18.out).2.1.cell rowNd_ok nd0 m 1 _ hmlt rfl
  rw [HNM.out] at dcell
  have hcv := Lib.run_convert_string_bytes (P := Tryz.prog) wc 9 50 5 ⟨s2.toArray⟩ Tryz.underlying9 Tryz.underlying50 Tryz.underlying5
  obtain ⟨gb, cap, hve, hX⟩ := Sha.OwnX.of_conv wc ⟨s2.toArray⟩ (by show s2.toArray.size ≤ maxLen; rw [List.size_toArray, hs2]; decide)
  have hbw := Joins.below_bytesWorld wc.heap.size wc 5 ⟨s2.toArray⟩ (Nat.le_refl _)
  rw [show (⟨s2.toArray⟩ : ByteArray).data.toList = s2 from rfl] at hve hX
  rw [hve, List.length_map, hs2] at hcv
  have X19 := Lib.hid (below_next X18.out hbw ⟨rfl, rfl, rfl, rfl⟩)
  have Y19 := Lib.hid hbw
  have GB := Lib.hid (show wc.heap.size ≤ gb ∧ w6.heap.size ≤ gb from ⟨hX.lo, Nat.le_trans X18.out.size hX.lo⟩)
  generalize Lib.bytesWorld wc 5 ⟨s2.toArray⟩ = w19 at *
  obtain ⟨q, hq⟩ : ∃ q, d3.toNat % 32 = q := ⟨_, rfl⟩
  have hqlt : q < 32 := by omega
  have hd3b : d3.toNat < 256 := d3.toNat_lt
  have hq2 : (d3.toNat : Int) % 32 = (q : Int) := by rw [← hq]; simp
  have hc := hX.cells q (by rw [List.length_map, hs2]; exact hqlt)
  have hfr := (hX.free q (by have := hX.le; rw [List.length_map, hs2] at this; omega)).2
  have SB := Lib.hid (fun W' (h : Below (w19.setCell ⟨gb, q, none⟩ (.int .u8 ((((s2.getD q 0).toNat : Int) + 1) % 256))).heap.size (w19.setCell ⟨gb, q, none⟩ (.int .u8 ((((s2.getD q 0).toNat : Int) + 1) % 256))) W') => bump_bytes2 hX q (by rw [hs2]; exact hqlt) ((((s2.getD q 0).toNat : Int) + 1) % 256) h)
  have NE2 := Lib.hid (set_ne_bump s2 q (by rw [hs2]; exact hqlt))
  rw [show (s2.map fun b => (b.toNat : Int)).getD q 0 = (((s2.getD q 0).toNat : Nat) : Int) from by
    rw [List.getD_eq_getElem?_getD, List.getElem?_map, List.getD_eq_getElem?_getD, List.getElem?_eq_getElem (by rw [hs2]; exact hqlt)]; rfl] at hc
  have hzlt : (s2.getD q 0).toNat < 256 := (s2.getD q 0).toNat_lt
  have RVd := Lib.hid (show ((s2.set q (UInt8.ofNat ((((s2.getD q 0).toNat : Int) + 1) % 256).toNat)).length = 32) by rw [List.length_set]; exact hs2)
  generalize (s2.getD q 0).toNat = z at *
  generalize s2.set q (UInt8.ofNat (((z : Int) + 1) % 256).toNat) = e2 at *
  rw [hs2] at SB
  clear hve hX hbw hq
  go_upto_region 25 with fail
  clear hcv dcell
  go_upto_region 27 with fail
  go_upto_region 28 with fail
  have X20 := Lib.hid (X19.out.setCell (p := ⟨gb, q, none⟩) GB.out.2 (.int .u8 (((z : Int) + 1) % 256)))
  have Y20 := Lib.hid (Y19.out.setCell (p := ⟨gb, q, none⟩) GB.out.1 (.int .u8 (((z : Int) + 1) % 256)))
  clear X19 Y19 hc hfr p0 p1 p2 hq2
  generalize w19.setCell ⟨gb, q, none⟩ (.int .u8 (((z : Int) + 1) % 256)) = w20 at *
  obtain ⟨⟨p0, p1, p2⟩, _⟩ := cells3 (BB.out _ X20.out).2.2.1
  have X21 := Lib.hid (X20.out.alloc X20.out.size (.cells #[.int .i64 (i : Int), .int .i64 (n : Int), .slice (some ⟨bv, ov, none⟩) nn cv] 33))
  have Y21 := Lib.hid (Y20.out.alloc Y20.out.size (.cells #[.int .i64 (i : Int), .int .i64 (n : Int), .slice (some ⟨bv, ov, none⟩) nn cv] 33))
  have S21 := Lib.hid ((Below.refl w20.heap.size w20).alloc (Nat.le_refl _) (.cells #[.int .i64 (i : Int), .int .i64 (n : Int), .slice (some ⟨bv, ov, none⟩) nn cv] 33))
  have Q21 := Lib.hid (heap_alloc_new w20 (.cells #[.int .i64 (i : Int), .int .i64 (n : Int), .slice (some ⟨bv, ov, none⟩) nn cv] 33))
  have Z21 := Lib.hid (show w6.heap.size ≤ w20.heap.size ∧ wc.heap.size ≤ w20.heap.size from ⟨X20.out.size, Y20.out.size⟩)
  go_upto_region 29 with fail
  generalize w20.alloc (.cells #[.int .i64 (i : Int), .int .i64 (n : Int), .slice (some ⟨bv, ov, none⟩) nn cv] 33) = w21 at *
  generalize w20.heap.size = qb20 at *
  clear p0 p1 p2 X20 Y20
  obtain ⟨⟨p0, p1, p2⟩, _⟩ := cells3 (BB.out _ X21.out).2.2.1
  have HCL := Lib.hid (cloneN_any (some ⟨bv, ov, none⟩) nn cv ns w21 (BB.out _ X21.out).2.1 (by omega))
  unfold RetNd at HCL
  go_wp2_with fail
  refine HCL.out.mono ?_
  rintro e w22 ⟨v, rfl, ho, hb⟩
  have hns : 0 < ns.length := by rw [NN.out]; omega
  obtain ⟨g2, c20, rfl, hg1, hg2, hg3, hg4, hg5⟩ := ho.pos hns
  have hn9 := NN.out
  simp only [hn9] at ho hg3 ⊢
  have X22 := Lib.hid (below_next X21.out hb ⟨rfl, rfl, rfl, rfl⟩)
  have Y22 := Lib.hid (below_next Y21.out hb ⟨rfl, rfl, rfl, rfl⟩)
  have S22 := Lib.hid (S21.out.trans (hb.mono (Nat.le_of_lt (Array.getElem?_eq_some_iff.1 Q21.out).1)))
  have Q22 := Lib.hid (bkeep Q21.out hb)
  have HO := Lib.hid ho
  have NE22 := Lib.hid (show qb20 < w21.heap.size ∧ qb20 ≠ g2 from ⟨(Array.getElem?_eq_some_iff.1 Q21.out).1, by have := (Array.getElem?_eq_some_iff.1 Q21.out).1; omega⟩)
  have ZG2 := Lib.hid (show w6.heap.size ≤ g2 ∧ wc.heap.size ≤ g2 ∧ qb20 ≤ g2 from by have := Z21.out; have := NE22.out.1; omega)
  clear hb ho HCL hns hn9 hg1 hg2 hg3 hg4 hg5 Q21 X21 Y21 S21 p0 p1 p2
  obtain ⟨⟨k0, k1, k2⟩, f0, f1, f2⟩ := cells3 Q22.out
  go_upto_region 30 with fail
  have X23 := Lib.hid (X22.out.setCell (p := ⟨qb20, 2, none⟩) Z21.out.1 (.slice (some ⟨g2, 0, none⟩) nn c20))
  have Y23 := Lib.hid (Y22.out.setCell (p := ⟨qb20, 2, none⟩) Z21.out.2 (.slice (some ⟨g2, 0, none⟩) nn c20))
  have S23 := Lib.hid (S22.out.setCell (p := ⟨qb20, 2, none⟩) (Nat.le_refl _) (.slice (some ⟨g2, 0, none⟩) nn c20))
  have Q23 := Lib.hid (set3c Q22.out (.slice (some ⟨g2, 0, none⟩) nn c20))
  have HO2 := Lib.hid (HO.out.kept (grown_setCell w22 ⟨qb20, 2, none⟩ (.slice (some ⟨g2, 0, none⟩) nn c20)) (fun k e => by cases e; exact NE22.out.1))
  clear X22 Y22 S22 Q22 HO k0 k1 k2 f0 f1 f2
  generalize w22.setCell ⟨qb20, 2, none⟩ (.slice (some ⟨g2, 0, none⟩) nn c20) = w23 at *
  obtain ⟨⟨k0, k1, k2⟩, _⟩ := cells3 Q23.out
  have sb := SB.out _ S23.out
  have ncell := (own_rds HO2.out).cell rowNd_ok nd0 m 1 _ hmlt rfl
  rw [HNM.out] at ncell
  simp only [Nat.zero_add] at ncell
  have nfr := Row.Own.frz HO2.out (m * 2 + 1)
  have hof := (own_snd HO2.out m e2 hmn).1
  rw [HNM.out] at hof
  have V24 := Lib.hid (own_rds hof)
  clear hof
  go_upto_region 31 with fail
  have X24 := Lib.hid (X23.out.setCell (p := ⟨g2, m * 2 + 1, none⟩) ZG2.out.1 (.string ⟨e2.toArray⟩))
  have Y24 := Lib.hid (Y23.out.setCell (p := ⟨g2, m * 2 + 1, none⟩) ZG2.out.2.1 (.string ⟨e2.toArray⟩))
  have Q24 := Lib.hid ((heap_set (W := w23) (b := g2) (o := m * 2 + 1) (Ne.symm NE22.out.2) (.string ⟨e2.toArray⟩)).trans Q23.out)
  clear X23 Y23 S23 Q23 HO2 k0 k1 k2 sb ncell nfr SB
  generalize w23.setCell ⟨g2, m * 2 + 1, none⟩ (.string ⟨e2.toArray⟩) = w24 at *
  obtain ⟨⟨p0, p1, p2⟩, _⟩ := cells3 (BB.out _ X24.out).2.2.1
  have X25 := Lib.hid (X24.out.alloc X24.out.size (.cells #[.int .i64 (i : Int), .int .i64 (n : Int), .slice (some ⟨bv, ov, none⟩) nn cv] 33))
  have Y25 := Lib.hid (Y24.out.alloc Y24.out.size (.cells #[.int .i64 (i : Int), .int .i64 (n : Int), .slice (some ⟨bv, ov, none⟩) nn cv] 33))
  have V25 := Lib.hid (V24.out.below ((Below.refl _ w24).alloc (Nat.le_refl _) (.cells #[.int .i64 (i : Int), .int .i64 (n : Int), .slice (some ⟨bv, ov, none⟩) nn cv] 33)))
  have Q25 := Lib.hid (balloc Q24.out (.cells #[.int .i64 (i : Int), .int .i64 (n : Int), .slice (some ⟨bv, ov, none⟩) nn cv] 33))
  have U25 := Lib.hid (heap_alloc_new w24 (.cells #[.int .i64 (i : Int), .int .i64 (n : Int), .slice (some ⟨bv, ov, none⟩) nn cv] 33))
  have Z25 := Lib.hid (show w6.heap.size ≤ w24.heap.size ∧ wc.heap.size ≤ w24.heap.size from ⟨X24.out.size, Y24.out.size⟩)
  have NE25 := Lib.hid (show w24.heap.size ≠ qb20 ∧ w24.heap.size ≠ g2 from by
    have h1 := (Array.getElem?_eq_some_iff.1 Q24.out).1
    obtain ⟨b', o', e, h2, _⟩ := V24.out.at_ (by omega)
    have h3 : g2 = b' := congrArg Addr.block (Option.some.inj e)
    omega)
  go_upto_region 32 with fail
  generalize w24.alloc (.cells #[.int .i64 (i : Int), .int .i64 (n : Int), .slice (some ⟨bv, ov, none⟩) nn cv] 33) = w25 at *
  generalize w24.heap.size = qb21 at *
  clear p0 p1 p2 X24 Y24 V24 Q24
  obtain ⟨L, hL⟩ : ∃ L, 1 + d3.toNat % 40 = L := ⟨_, rfl⟩
  have hL1 : 1 + (d3.toNat : Int) % 40 = (L : Int) := by rw [← hL]; simp
  have hLb : 1 ≤ L ∧ L ≤ 40 := by omega
  have hLw : IntKind.i64.wrap (1 + (d3.toNat : Int) % 40) = (L : Int) := by rw [hL1]; exact IntWalk.i64_in _ (by omega)
  clear hL
  obtain ⟨⟨k0, k1, k2⟩, f0, f1, f2⟩ := cells3 U25.out
  go_upto_block 0 with fail
  have X26 := Lib.hid (X25.out.setCell (p := ⟨qb21, 1, none⟩) Z25.out.1 (.int .i64 (L : Int)))
  have Y26 := Lib.hid (Y25.out.setCell (p := ⟨qb21, 1, none⟩) Z25.out.2 (.int .i64 (L : Int)))
  have Q26 := Lib.hid ((heap_set (W := w25) (b := qb21) (o := 1) NE25.out.1 (.int .i64 (L : Int))).trans Q25.out)
  have U26 := Lib.hid (set1m U25.out (.int .i64 (L : Int)))
  have V26 := Lib.hid (rds_set (o := 1) V25.out NE25.out.2 (.int .i64 (L : Int)))
  clear X25 Y25 Q25 U25 V25 k0 k1 k2 f0 f1 f2 hL1 hLw
  generalize w25.setCell ⟨qb21, 1, none⟩ (.int .i64 (L : Int)) = w26 at *
  have FIN := Lib.hid (fun W (h : Below w26.heap.size w26 W) => (show Below w.heap.size w W ∧ rowNd.Rds W (some ⟨bv, ov, none⟩) nn cv ns ∧ W.heap[pb]? = some (.cells #[.int .i64 (i : Int), .int .i64 (n : Int), .slice (some ⟨bv, ov, none⟩) nn cv] 33) ∧ W.heap[rb]? = some (.cells #[.string ⟨r1.toArray⟩, .string ⟨r2.toArray⟩] 27) ∧ W.heap[qb21]? = some (.cells #[.int .i64 (i : Int), .int .i64 (L : Int), .slice (some ⟨bv, ov, none⟩) nn cv] 33) ∧ W.heap[qb8]? = some (.cells #[.int .i64 (i : Int), .int .i64 (n : Int), .slice A8 (nn - 1) (cv - 1)] 33) ∧ W.heap[qb9]? = some (.cells #[.int .i64 (i : Int), .int .i64 (n : Int), .slice (some ⟨g, 0, none⟩) nn c9] 33) ∧ W.heap[qb20]? = some (.cells #[.int .i64 (i : Int), .int .i64 (n : Int), .slice (some ⟨g2, 0, none⟩) nn c20] 33) from by
    obtain ⟨h1, h2, h3, h4⟩ := BB.out W (below_next X26.out h ⟨rfl, rfl, rfl, rfl⟩)
    exact ⟨h1, h2, h3, h4, bkeep U26.out h, bkeep (bkeep T18.out Y26.out) h, bkeep (bkeep Q18.out Y26.out) h, bkeep Q26.out h⟩))
  have QQ2 := Lib.hid (fun W (h : Below w26.heap.size w26 W) => QQ.out W (below_next X26.out h ⟨rfl, rfl, rfl, rfl⟩))
  have VA := Lib.hid (fun W (h : Below w26.heap.size w26 W) => V8.out.below (below_next X26.out h ⟨rfl, rfl, rfl, rfl⟩))
  have VB := Lib.hid (fun W (h : Below w26.heap.size w26 W) => (V18.out.below Y26.out).below h)
  have VC := Lib.hid (fun W (h : Below w26.heap.size w26 W) => V26.out.below h)
  clear X18 X26 Y26 Q26 U26 V26 T18 Q18 V18 V8 Z21 Z25 NE22 NE25 ZG2 ZG GB BB QQ R2 V2 P2
  go_cut [21] from 175 to 218 (fun t wx => Hid (t = .pointer (some ⟨qb21, 0, none⟩) ∧ Below w26.heap.size w26 wx))
  case first =>
    have BP := Lib.hid (fun p : Bel w26 => FIN.out p.W p.h)
    have QP := Lib.hid (fun p : Bel w26 => QQ2.out p.W p.h)
    obtain ⟨⟨u0, u1, u2⟩, _⟩ := cells3 (FIN.out w26 (Below.refl _ _)).2.2.2.2.1
    by_cases hc : L ≤ i
    · -- part<
      have h22 := V22.out L (by omega) hc
      have R4 := HVg.out i L ns (by omega) (by omega) (fun x hx => by have := (NS.out x hx).1; omega) (by rw [NN.out]; omega) 2 h22 (some ⟨bv, ov, none⟩) cv
      rw [NN.out] at R4
      have R5 := Lib.hid (fun p : Bel w26 => R4 p.W (BP.out p).2.1 (BP.out p).1)
      have hci : (L : Int) ≤ (i : Int) := by omega
      clear HVg HRg HP HW HWy V9 V0 V22 R4 h22 V20m VA VB VC
      go_upto_region 36 with fail
      clear u0 u1 u2
      have hr0 := fun p : Bel w26 => (cells2n (BP.out p).2.2.2.1).1.1
      have hr1 := fun p : Bel w26 => (cells2n (BP.out p).2.2.2.1).1.2
      have hu0 := fun p : Bel w26 => (cells3 (BP.out p).2.2.2.2.1).1.1
      have hu1 := fun p : Bel w26 => (cells3 (BP.out p).2.2.2.2.1).1.2.1
      have hu2 := fun p : Bel w26 => (cells3 (BP.out p).2.2.2.2.1).1.2.2
      have hq0 := fun p : Bel w26 => (QP.out p).1
      have hq1 := fun p : Bel w26 => (QP.out p).2.1
      have hq2 := fun p : Bel w26 => (QP.out p).2.2
      refine wp_region_quiet_bel (by kernel_rfl) (by kernel_rfl) ?_
      repeat (go_big_quiet_step (first
        | (go_at_call 20; with_reducible refine Calls.bel_of (R5.out _))))
      refine wpQuiet_nil ?_
      intro wq' hw'
      obtain ⟨⟨wq, hq9⟩, hw2⟩ := hw'
      have hw3 : wq' = wq := hw2
      subst hw3
      clear hr0 hr1 hu0 hu1 hu2 hq0 hq1 hq2 hw2
      go_wp2_with fail
      go_meet
      exact Lib.hid ⟨rfl, hq9⟩
      -- part>
    have hci : ¬ (L : Int) ≤ (i : Int) := by omega
    have WL := Lib.hid (HWy.out L (by omega))
    have WN := Lib.hid (HWy.out n (by omega))
    unfold BlP at WL WN
    have hl1 : (wayN i L).reverse.length ≤ 100000 := by rw [List.length_reverse]; have := way_len i L; omega
    have hl2 : (wayN i n).reverse.length ≤ 100000 := by rw [List.length_reverse]; have := way_len i n; omega
    have HEQ := Lib.hid (show (wayN i L).reverse = (wayN i n).reverse ↔ wayN i L = wayN i n from ⟨fun h => by have := congrArg List.reverse h; rwa [List.reverse_reverse, List.reverse_reverse] at this, fun h => by rw [h]⟩)
    generalize (wayN i L).reverse = yL at *
    generalize (wayN i n).reverse = yN at *
    obtain ⟨bb, hbb⟩ : ∃ bb, decide (yL = yN) = bb := ⟨_, rfl⟩
    have HBB := Lib.hid hbb
    clear hbb
    go_upto_region 38 with fail
    go_cut [201] from 201 to 210 (fun t wx => Hid (t = .bool bb ∧ Below w26.heap.size w26 wx))
    case first =>
      -- part<
      obtain ⟨⟨p0, p1, p2⟩, _⟩ := cells3 (FIN.out w26 (Below.refl _ _)).2.2.1
      have HD := Lib.hid (Below.refl w26.heap.size w26)
      clear HVg HRg HP HW HWy V9 V0 V22 L1 V20m VA VB VC u0 u2 p0 p2
      go_region_held3 (fun w' => w'.cell? ⟨qb21, 1, none⟩ = some (.int .i64 (L : Int)) ∧ w'.cell? ⟨pb, 1, none⟩ = some (.int .i64 (n : Int)))
        (first | exact ⟨u1, p1⟩ | exact ⟨g1, g2'⟩ | go_keep)
        (first
          | (go_at_call 28; with_reducible refine (WL.out _).mono ?_
             rintro e w' ⟨vW, rfl, ho, hb⟩; have HD := Lib.hid (below_next HD.out hb ⟨rfl, rfl, rfl, rfl⟩); have g1 := (cells3 (FIN.out _ HD.out).2.2.2.2.1).1.2.1; have g2' := (cells3 (FIN.out _ HD.out).2.2.1).1.2.1; obtain ⟨Aw, cw, e2', hr1⟩ := ho.rds; subst e2'; have G1 := Lib.hid hr1; clear hb ho hr1)
          | (go_at_call 28; with_reducible refine (WN.out _).mono ?_
             rintro e w' ⟨vW, rfl, ho, hb⟩; have HD := Lib.hid (below_next HD.out hb ⟨rfl, rfl, rfl, rfl⟩); have g1 := (cells3 (FIN.out _ HD.out).2.2.2.2.1).1.2.1; have g2' := (cells3 (FIN.out _ HD.out).2.2.1).1.2.1; obtain ⟨Ax, cx, e3', hr2⟩ := ho.rds; subst e3'; have G2 := Lib.hid hr2; have G1 := Lib.hid (G1.out.below hb); clear hb ho hr2)
          | (go_at_call 30; with_reducible refine (EqT_any Aw Ax _ cw _ cx _ _ _ G1.out G2.out hl1 hl2).mono ?_
             rintro e w' ⟨rfl, hb⟩; have HD := Lib.hid (below_next HD.out hb ⟨rfl, rfl, rfl, rfl⟩); have g1 := (cells3 (FIN.out _ HD.out).2.2.2.2.1).1.2.1; have g2' := (cells3 (FIN.out _ HD.out).2.2.1).1.2.1; clear hb))
      all_goals
        go_wp2_with fail
        go_meet
        first | exact Lib.hid ⟨by rw [HBB.out], HD.out⟩ | exact Lib.hid ⟨by rw [HBB.out], Below.drew HD.out⟩
      -- part>
    case rest =>
    obtain ⟨rfl, hb38⟩ := hcut.out
    have X38 := Lib.hid hb38
    clear hcut hb38 WL WN hl1 hl2 u0 u1 u2
    have BP2 := Lib.hid (fun p : Bel wc => FIN.out p.W (below_next X38.out p.h ⟨rfl, rfl, rfl, rfl⟩))
    have QP := Lib.hid (fun p : Bel wc => QQ2.out p.W (below_next X38.out p.h ⟨rfl, rfl, rfl, rfl⟩))
    cases bb
    · -- part<
      have hne : wayN i L ≠ wayN i n := fun h => (of_decide_eq_false HBB.out) (HEQ.out.2 h)
      have R4 := HRg.out i L ns NV.out (fun x hx => by have := (NS.out x hx).1; omega) (by omega) (by omega) (by rw [NN.out]; omega) (.inl (by rw [LN.out]; exact hne)) (.inl rfl) (some ⟨bv, ov, none⟩) (some ⟨bv, ov, none⟩) cv cv
      rw [NN.out] at R4
      have R5 := Lib.hid (fun p : Bel wc => R4 p.W (BP2.out p).2.1 (BP2.out p).2.1 (BP2.out p).1)
      clear HVg HRg HP HW HWy V9 V0 V22 R4 V20m VA VB VC
      go_upto_region 33 with fail
      have hr0 := fun p : Bel wc => (cells2n (BP2.out p).2.2.2.1).1.1
      have hr1 := fun p : Bel wc => (cells2n (BP2.out p).2.2.2.1).1.2
      have hp0 := fun p : Bel wc => (cells3 (BP2.out p).2.2.1).1.1
      have hp1 := fun p : Bel wc => (cells3 (BP2.out p).2.2.1).1.2.1
      have hp2 := fun p : Bel wc => (cells3 (BP2.out p).2.2.1).1.2.2
      have hu0 := fun p : Bel wc => (cells3 (BP2.out p).2.2.2.2.1).1.1
      have hu1 := fun p : Bel wc => (cells3 (BP2.out p).2.2.2.2.1).1.2.1
      have hu2 := fun p : Bel wc => (cells3 (BP2.out p).2.2.2.2.1).1.2.2
      have hq0 := fun p : Bel wc => (QP.out p).1
      have hq1 := fun p : Bel wc => (QP.out p).2.1
      have hq2 := fun p : Bel wc => (QP.out p).2.2
      refine wp_region_quiet_bel (by kernel_rfl) (by kernel_rfl) ?_
      repeat (go_big_quiet_step (first
        | (go_at_call 24; with_reducible refine Calls.bel_of (R5.out _))))
      refine wpQuiet_nil ?_
      intro wq' hw'
      obtain ⟨⟨wq, hq9⟩, hw2⟩ := hw'
      have hw3 : wq' = wq := hw2
      subst hw3
      clear hr0 hr1 hp0 hp1 hp2 hu0 hu1 hu2 hq0 hq1 hq2 hw2
      go_wp2_with fail
      go_meet
      exact Lib.hid ⟨rfl, below_next X38.out hq9 ⟨rfl, rfl, rfl, rfl⟩⟩
      -- part>
    · -- part<
      have heq : wayN i L = wayN i n := HEQ.out.1 (of_decide_eq_true HBB.out)
      have h0 := V0.out L (by omega) (by omega) heq
      have R4 := HVg.out i L ns (by omega) (by omega) (fun x hx => by have := (NS.out x hx).1; omega) (by rw [NN.out]; omega) 0 h0 (some ⟨bv, ov, none⟩) cv
      rw [NN.out] at R4
      have R5 := Lib.hid (fun p : Bel wc => R4 p.W (BP2.out p).2.1 (BP2.out p).1)
      clear HVg HRg HP HW HWy V9 V0 V22 R4 h0 heq V20m VA VB VC
      go_upto_region 39 with fail
      have hr0 := fun p : Bel wc => (cells2n (BP2.out p).2.2.2.1).1.1
      have hr1 := fun p : Bel wc => (cells2n (BP2.out p).2.2.2.1).1.2
      have hu0 := fun p : Bel wc => (cells3 (BP2.out p).2.2.2.2.1).1.1
      have hu1 := fun p : Bel wc => (cells3 (BP2.out p).2.2.2.2.1).1.2.1
      have hu2 := fun p : Bel wc => (cells3 (BP2.out p).2.2.2.2.1).1.2.2
      have hq0 := fun p : Bel wc => (QP.out p).1
      have hq1 := fun p : Bel wc => (QP.out p).2.1
      have hq2 := fun p : Bel wc => (QP.out p).2.2
      refine wp_region_quiet_bel (by kernel_rfl) (by kernel_rfl) ?_
      repeat (go_big_quiet_step (first
        | (go_at_call 20; with_reducible refine Calls.bel_of (R5.out _))))
      refine wpQuiet_nil ?_
      intro wq' hw'
      obtain ⟨⟨wq, hq9⟩, hw2⟩ := hw'
      have hw3 : wq' = wq := hw2
      subst hw3
      clear hr0 hr1 hu0 hu1 hu2 hq0 hq1 hq2 hw2
      go_wp2_with fail
      go_meet
      exact Lib.hid ⟨rfl, below_next X38.out hq9 ⟨rfl, rfl, rfl, rfl⟩⟩
      -- part>
  case rest =>
  obtain ⟨rfl, hb40⟩ := hcut.out
  have X40 := Lib.hid hb40
  clear hcut hb40
  have BP := Lib.hid (fun p : Bel wc => FIN.out p.W (below_next X40.out p.h ⟨rfl, rfl, rfl, rfl⟩))
  have QP := Lib.hid (fun p : Bel wc => QQ2.out p.W (below_next X40.out p.h ⟨rfl, rfl, rfl, rfl⟩))
  have hdl : (ns.drop 1).length = nn - 1 := by rw [List.length_drop, NN.out]
  have n1 : ∀ x ∈ ns.drop 1, x.1.length ≤ 70 := drop_all 1 (fun x hx => by have := (NS.out x hx).1; omega)
  have n2 := V9.out (ns.drop 1) (drop_all 1 NV.out) (by rw [hdl, NN.out]; omega)
  have R4 := HVg.out i n (ns.drop 1) (by omega) (by omega) n1 (by rw [hdl]; omega) 9 n2 A8 (cv - 1)
  rw [hdl] at R4
  have RA := Lib.hid (fun p : Bel wc => R4 p.W (VA.out p.W (below_next X40.out p.h ⟨rfl, rfl, rfl, rfl⟩)) (BP.out p).1)
  have hsl : (ns.set m (sm, s2)).length = nn := by rw [List.length_set, NN.out]
  have n3 : ∀ x ∈ ns.set m (sm, s2), x.1.length ≤ 70 := set_all (P := fun x => x.1.length ≤ 70) m (fun x hx => by have := (NS.out x hx).1; omega) hbl
  have R6 := HVg.out i n (ns.set m (sm, s2)) (by omega) (by omega) n3 (by rw [hsl]; omega) 20 V20m.out (some ⟨g, 0, none⟩) c9
  rw [hsl] at R6
  have RB := Lib.hid (fun p : Bel wc => R6 p.W (VB.out p.W (below_next X40.out p.h ⟨rfl, rfl, rfl, rfl⟩)) (BP.out p).1)
  have hsl2 : (ns.set m (s1, e2)).length = nn := by rw [List.length_set, NN.out]
  have n4 : ∀ x ∈ ns.set m (s1, e2), x.1.length ≤ 70 := set_all (P := fun x => x.1.length ≤ 70) m (fun x hx => by have := (NS.out x hx).1; omega) (by show s1.length ≤ 70; omega)
  have hvm := NV.out _ (getD_mem nd0 ns m hmn)
  rw [HNM.out] at hvm
  have n5 : ∀ x ∈ ns.set m (s1, e2), validN x = true := set_all (P := fun x => validN x = true) m NV.out (validN_iff.2 ⟨(validN_iff.1 hvm).1, (validN_iff.1 hvm).2.1, RVd.out⟩)
  have R7 := HRg.out i n (ns.set m (s1, e2)) n5 n4 (by omega) hlt2 (by rw [hsl2]; omega) (.inr (set_snd_ne hmn HNM.out NE2.out)) (.inr (by rw [LN.out])) (some ⟨bv, ov, none⟩) (some ⟨g2, 0, none⟩) cv c20
  rw [hsl2] at R7
  have RC := Lib.hid (fun p : Bel wc => R7 p.W (BP.out p).2.1 (VC.out p.W (below_next X40.out p.h ⟨rfl, rfl, rfl, rfl⟩)) (BP.out p).1)
  have RW := Lib.hid (fun p : Bel wc => HW.out p.W (BP.out p).1)
  clear HVg HRg HW HWy V9 V0 V22 R4 R6 R7 V20m VA VB VC n1 n2 n3 n4 n5 hvm hdl hsl hsl2
  go_upto_region 41 with fail
  have hp0 := fun p : Bel wc => (cells3 (BP.out p).2.2.1).1.1
  have hp1 := fun p : Bel wc => (cells3 (BP.out p).2.2.1).1.2.1
  have hp2 := fun p : Bel wc => (cells3 (BP.out p).2.2.1).1.2.2
  have hr0 := fun p : Bel wc => (cells2n (BP.out p).2.2.2.1).1.1
  have hr1 := fun p : Bel wc => (cells2n (BP.out p).2.2.2.1).1.2
  have ha0 := fun p : Bel wc => (cells3 (BP.out p).2.2.2.2.2.1).1.1
  have ha1 := fun p : Bel wc => (cells3 (BP.out p).2.2.2.2.2.1).1.2.1
  have ha2 := fun p : Bel wc => (cells3 (BP.out p).2.2.2.2.2.1).1.2.2
  have hb0 := fun p : Bel wc => (cells3 (BP.out p).2.2.2.2.2.2.1).1.1
  have hb1 := fun p : Bel wc => (cells3 (BP.out p).2.2.2.2.2.2.1).1.2.1
  have hb2 := fun p : Bel wc => (cells3 (BP.out p).2.2.2.2.2.2.1).1.2.2
  have hc0 := fun p : Bel wc => (cells3 (BP.out p).2.2.2.2.2.2.2).1.1
  have hc1 := fun p : Bel wc => (cells3 (BP.out p).2.2.2.2.2.2.2).1.2.1
  have hc2 := fun p : Bel wc => (cells3 (BP.out p).2.2.2.2.2.2.2).1.2.2
  have hq0 := fun p : Bel wc => (QP.out p).1
  have hq1 := fun p : Bel wc => (QP.out p).2.1
  have hq2 := fun p : Bel wc => (QP.out p).2.2
  refine wp_region_quiet_bel (by kernel_rfl) (by kernel_rfl) ?_
  repeat (go_big_quiet_step (first
    | (go_at_call 20; with_reducible refine Calls.bel_of (RA.out _))
    | (go_at_call 20; with_reducible refine Calls.bel_of (RB.out _))
    | (go_at_call 24; with_reducible refine Calls.bel_of (RC.out _))
    | (go_at_call 10; with_reducible refine Calls.bel_of (RW.out _))))
  refine wpQuiet_nil ?_
  intro wq' hw'
  obtain ⟨⟨wq, hq9⟩, hw2⟩ := hw'
  have hw3 : wq' = wq := hw2
  subst hw3
  have BQ : Hid (Below w.heap.size w wq') := Lib.hid (BP.out ⟨wq', hq9⟩).1
  clear hp0 hp1 hp2 hr0 hr1 ha0 ha1 ha2 hb0 hb1 hb2 hc0 hc1 hc2 hq0 hq1 hq2 hw2
  go_wp2_with fail
  exact HP.out _ BQ.out
theorem forged_int (A : Option Addr) (n c : Nat) (l : List Ln) (z1 z2 z3 : Int) (w : World) (hl : rowB.Rds w A n c l) (h1 : (Lit.int .u8 z1).wf = true) (h2 : (Lit.int .u8 z2).wf = true) (h3 : (Lit.int .u8 z3).wf = true) (ht : Tab w) (hM : ML w) : Calls Tryz.prog 8 #[.slice A n c, .int .u8 z1, .int .u8 z2, .int .u8 z3] w (BoolPost true w) := by
  obtain ⟨d, rfl⟩ := u8_of h1
  obtain ⟨d2, rfl⟩ := u8_of h2
  obtain ⟨d3, rfl⟩ := u8_of h3
  exact forged_row A n c l d d2 d3 w hl ht hM
end Go.Proofs.YtejaehmoplohdaaGreatDoor
