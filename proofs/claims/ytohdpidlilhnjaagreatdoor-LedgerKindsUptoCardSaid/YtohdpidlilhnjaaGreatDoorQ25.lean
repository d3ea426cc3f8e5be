/- Arguments that are charts, opened; the bound of the second forms. -/
import Derived.Test.YtohdpidlilhnjaaGreatDoorQ11
import Derived.Test.YtohdpidlilhnjaaGreatDoorQ8
import Derived.Test.YtohdpidlilhnjaaGreatDoorQ7
import Derived.Test.YtohdpidlilhnjaaGreatDoorQ10
import Derived.Test.YtohdpidlilhnjaaGreatDoorQ9
import Derived.Test.YtohdpidlilhnjaaGreatDoorQ12
import Derived.Deep.SlicePairs
import Derived.Deep.DeepHandedRow
import Derived.Deep.DeepCutAuto
import Derived.Deep.RegionWith
namespace Go.Proofs.YtohdpidlilhnjaaGreatDoor
open Go.RowKit Go.WideShapes Go.ChangeShapes Go.ChangeAt Go.Deep
theorem bulk_part {H : Type} {d : DataW H} {l : List (DataW H)} (h : d ∈ l) : Rows.uptoBulk d ≤ Rows.uptoBulkAll l := by
  induction l with
  | nil => cases h
  | cons x r ih =>
    simp only [Rows.uptoBulkAll]
    rcases List.mem_cons.1 h with e | e
    · subst e; omega
    · have := ih e; omega
theorem bulk_agg {H : Type} (l : List (DataW H)) : Rows.uptoBulkAll l ≤ Rows.uptoBulk (.agg l) := by
  simp only [Rows.uptoBulk]; omega
theorem bulk_elems {H : Type} (l s : List (DataW H)) : Rows.uptoBulkAll l ≤ Rows.uptoBulk (.slice l s) := by
  simp only [Rows.uptoBulk]; omega
theorem bulk_text {H : Type} (s : List UInt8) : Rows.uptoBulk (DataW.lit (H := H) (.string s)) = s.length + 1 := by
  simp [Rows.uptoBulk]
theorem chart_bound {H : Type} {ds : List (DataW H)} {d : DataW H} {l : List Acc} (h : ∀ a ∈ l, a.1.length < Rows.uptoBulk d) (hk : Rows.uptoSmall H ds = true) (hm : d ∈ ds) : ∀ a ∈ l, a.1.length < 4294967281 := fun a ha => by
  have h1 := of_decide_eq_true hk
  have h2 := bulk_part hm
  have h3 := h a ha
  have h4 : Rows.uptoBulkAll ds ≤ 1048576 := h1
  omega
theorem c77 : Tryz.prog.cellsOf 77 = 2 := by kernel_rfl
theorem c3i : Tryz.prog.cellsOf 3 = 1 := by kernel_rfl
theorem c9s : Tryz.prog.cellsOf 9 = 1 := by kernel_rfl
set_option maxRecDepth 100000 in
theorem arg_chart {H : Type} {enc : TypeId × Value → H} {W : World} {r : Reach} {b0 : Nat} {v : Value} {d : DataW H} {p : List MemPlace} (hok : Value.okWide Tryz.prog W r b0 67 v)
    (h : DataW.Trod enc Tryz.prog W 0 (fun _ => true) true 67 v d p) : ∃ A n c l, v = .slice A n c ∧ Accs W A n c l ∧ ∀ a ∈ l, a.1.length < Rows.uptoBulk d := by
  obtain ⟨a0, len, cap, rfl⟩ := okWide_slice Tryz.underlying67 hok
  obtain ⟨fuel, hf⟩ := h
  rcases open_slice_pairs Tryz.underlying67 Tryz.underlying77 c77 rfl rfl c9s c3i hf with ⟨hcs, _⟩ | ⟨a, len', cap', m, nn, V0, V1, D0, D1, P0, P1, hcs, _, hl, hm, hmeq, hx, hall⟩
  · simp only [Value.cells, List.cons.injEq, Value.slice.injEq] at hcs
    obtain ⟨⟨rfl, rfl, rfl⟩, _⟩ := hcs
    exact ⟨none, 0, 0, [], rfl, ⟨rfl, by omega, by omega, fun hh => by omega⟩, by simp⟩
  · simp only [Value.cells, List.cons.injEq, Value.slice.injEq] at hcs
    obtain ⟨⟨rfl, rfl, rfl⟩, _⟩ := hcs
    simp only [if_true] at hmeq
    subst hmeq
    injection hx with hd _
    have key : ∀ i, i < m → ∃ x : Acc, W.cell? (a.add (i * 2)) = some (.string ⟨x.1.toArray⟩) ∧ W.cell? (a.add (i * 2 + 1)) = some (.int .i64 x.2) ∧ D0 i = .lit (.string x.1) := fun i hi => by
      obtain ⟨h0, h1, t0, t1⟩ := hall i hi
      obtain ⟨s, e0, x0, _⟩ := DataW.trod_string Tryz.underlying9 t0
      obtain ⟨k, e1, x1, _⟩ := DataW.trod_int Tryz.underlying3 t1
      simp only [List.cons.injEq, and_true] at e0 e1
      injection x0 with x0 _
      rw [e0] at h0
      rw [e1] at h1
      exact ⟨(s.data.toList, k), h0, h1, x0⟩
    obtain ⟨q, hq⟩ := choose_lt key
    refine ⟨some a, len, m, (List.range len).map q, rfl, ⟨by simp, hl, by unfold maxLen at hm; omega, fun h0 => ?_⟩, fun x hx => ?_⟩
    · obtain ⟨b, off, spot⟩ := a
      have hspot : spot = none := by simpa [Addr.add] using World.cell?_spot (hq 0 (by omega)).1
      subst hspot
      refine ⟨b, off, rfl, block_lt_of_cell (hq 0 (by omega)).1, fun k hk => ?_⟩
      obtain ⟨h1, h2, _⟩ := hq k (by omega)
      rw [add_plain] at h1 h2
      rw [List.getD_eq_getElem?_getD, List.getElem?_map, List.getElem?_range hk]
      exact ⟨h1, by rw [Nat.add_assoc]; exact h2⟩
    · obtain ⟨k, hk, rfl⟩ := List.mem_map.1 hx
      obtain ⟨_, _, h3⟩ := hq k (by have := List.mem_range.1 hk; omega)
      have h4 := bulk_elems ((List.range len).map fun i => DataW.agg [D0 i, D1 i]) ((List.range (m - len)).map fun j => DataW.agg [D0 (len + j), D1 (len + j)])
      rw [← hd] at h4
      have h5 := bulk_part (List.mem_map_of_mem (f := fun i => DataW.agg [D0 i, D1 i]) hk)
      have h6 := bulk_agg [D0 k, D1 k]
      have h7 := bulk_part (show D0 k ∈ [D0 k, D1 k] by simp)
      rw [h3, bulk_text] at h7
      rw [h3] at h6
      simp only [h3] at h5
      omega
/-- a witness at a world whose shape is shown -/
theorem witness_row_sh {H : Type} {enc : TypeId × Value → H} {C : Checked} {os : Os} {f : FuncId} {fn : Func} {s : OpenSpec} {conds : List PathCond} {apart : Bool} {ld : List (String × DataW Unit)} (w0 : World) (args : Array Value) (hos : w0.os = os)
    (hsh : (w0.forCall (fun _ _ => 0) ⟨#[], args, []⟩).Shaped C.prog) (hok : Input.okWideB C.prog (w0.forCall (fun _ _ => 0) ⟨#[], args, []⟩) f ⟨#[], args, []⟩ = true)
    (hrow : s.preRow enc C.prog fn conds apart ld (w0.forCall (fun _ _ => 0) ⟨#[], args, []⟩).memory args) :
    ∃ (w : World) (tape : Tape) (i : Input), w.os = os ∧ (w.forCall tape i).Shaped C.prog ∧ i.vars = [] ∧ Input.okWide C.prog (w.forCall tape i) .any w.heap.size f i ∧
      s.preRow enc C.prog fn conds apart ld (w.forCall tape i).memory i.args ∧ ({} : Assume).holds C.prog (lone (Frame.enter C.prog f i.args .normal) [] (w.forCall tape i)) :=
  ⟨w0, fun _ _ => 0, ⟨#[], args, []⟩, hos, hsh, (Input.okWide_of_okWideB (base := 0) hok).1, (Input.okWide_of_okWideB hok).2, hrow, by
    simp only [Assume.holds]
    exact ⟨by simp, by simp, fun _ => Modest.zero, by simp, by simp⟩⟩
end Go.Proofs.YtohdpidlilhnjaaGreatDoor

/- Ledgers, plain: the sums of the kinds. -/
namespace Go.Proofs.YtohdpidlilhnjaaGreatDoor
open Go.RowKit Go.Maps Num

def addAt (o : List Int) (i : Nat) (v : Int) : List Int := o.set i (o.getD i 0 + v)
theorem addAt_len (o : List Int) (i : Nat) (v : Int) : (addAt o i v).length = o.length := by simp [addAt]
/-- a step: the kind of the account to which a balance belongs -/
def kndStep (ch : List Acc) (cu : List UInt8) (o : List Int) (b : Ln) : List Int := if b.2.1 = cu then addAt o ((findL ch b.1).1.2 - 1).toNat (val b.2.2) else o
/-- the sums of the kinds; none if an account is unknown -/
def kndF (ch : List Acc) (cu : List UInt8) : List Ln → List Int → Option (List Int)
  | [], o => some o
  | b :: r, o => if (findL ch b.1).2 then kndF ch cu r (kndStep ch cu o b) else none
def kndO (ch : List Acc) (cu : List UInt8) (l : List Ln) : Option (List Int) := kndF ch cu l [0, 0, 0, 0, 0]
theorem kndF_append (ch : List Acc) (cu : List UInt8) : ∀ (a b : List Ln) (o : List Int), kndF ch cu (a ++ b) o = (kndF ch cu a o).bind (kndF ch cu b)
  | [], b, o => rfl
  | x :: a, b, o => by
    rw [List.cons_append, kndF, kndF]
    split
    · exact kndF_append ch cu a b _
    · rfl
theorem kndF_len (ch : List Acc) (cu : List UInt8) : ∀ (l : List Ln) (o o' : List Int), kndF ch cu l o = some o' → o'.length = o.length
  | [], o, o', h => by cases h; rfl
  | b :: r, o, o', h => by
    rw [kndF] at h
    split at h
    · rw [kndF_len ch cu r _ o' h, kndStep]
      split
      · exact addAt_len _ _ _
      · rfl
    · cases h
theorem addAt_sum (o : List Int) (i : Nat) (v : Int) (h : i < o.length) : (addAt o i v).sum = o.sum + v := by
  induction o generalizing i with
  | nil => cases h
  | cons x r ih =>
    cases i with
    | zero => simp [addAt]; omega
    | succ i =>
      have := ih i (by simpa using h)
      simp only [addAt, List.getD_cons_succ, List.set_cons_succ, List.sum_cons] at this ⊢
      omega
/-- an account that is found in a chart has a kind -/
theorem find_rng {ch : List Acc} (hc : chkL ch = 0) {c : List UInt8} (h : (findL ch c).2 = true) : 1 ≤ (findL ch c).1.2 ∧ (findL ch c).1.2 ≤ 5 := by
  obtain ⟨h1, _, _⟩ := (find_spec ch c).yes h
  obtain ⟨k, hk, e⟩ := mem_at h1
  rw [← e]
  exact (chart_of hc).kind k hk
theorem kndF_sum {ch : List Acc} (hc : chkL ch = 0) (cu : List UInt8) : ∀ (l : List Ln) (o o' : List Int), o.length = 5 → kndF ch cu l o = some o' → o'.sum = o.sum + curT l cu
  | [], o, o', _, h => by cases h; rw [show curT [] cu = 0 from rfl]; omega
  | b :: r, o, o', hl, h => by
    rw [kndF] at h
    split at h
    · rename_i hf
      have h5 := find_rng hc hf
      have hl2 : (kndStep ch cu o b).length = 5 := by
        unfold kndStep
        split
        · rw [addAt_len]; exact hl
        · exact hl
      rw [kndF_sum hc cu r _ o' hl2 h, curT_cons, kndStep]
      split
      · rw [addAt_sum _ _ _ (by omega)]; omega
      · omega
    · cases h
/-- whether all accounts are known -/
def knownB (ch : List Acc) (l : List Ln) : Bool := l.all fun b => (findL ch b.1).2
theorem kndF_some (ch : List Acc) (cu : List UInt8) : ∀ (l : List Ln) (o : List Int), (kndF ch cu l o).isSome = knownB ch l
  | [], o => rfl
  | b :: r, o => by
    rw [kndF, knownB, List.all_cons]
    split
    · rename_i h; rw [h, Bool.true_and]; exact kndF_some ch cu r _
    · rename_i h; rw [show (findL ch b.1).2 = false by simpa using h]; rfl
/-- the sums, as far as accounts are known: what the law adds up by itself -/
def wantF (ch : List Acc) (cu : List UInt8) : List Ln → List Int → List Int
  | [], o => o
  | b :: r, o => wantF ch cu r (if (findL ch b.1).2 then kndStep ch cu o b else o)
theorem wantF_snoc (ch : List Acc) (cu : List UInt8) : ∀ (a : List Ln) (b : Ln) (o : List Int), wantF ch cu (a ++ [b]) o = if (findL ch b.1).2 then kndStep ch cu (wantF ch cu a o) b else wantF ch cu a o
  | [], b, o => rfl
  | x :: a, b, o => by rw [List.cons_append, wantF, wantF_snoc ch cu a b, wantF]
theorem wantF_len (ch : List Acc) (cu : List UInt8) : ∀ (l : List Ln) (o : List Int), (wantF ch cu l o).length = o.length
  | [], o => rfl
  | b :: r, o => by
    rw [wantF, wantF_len ch cu r]
    split
    · unfold kndStep
      split
      · exact addAt_len _ _ _
      · rfl
    · rfl
theorem want_knd (ch : List Acc) (cu : List UInt8) : ∀ (l : List Ln) (o : List Int), knownB ch l = true → kndF ch cu l o = some (wantF ch cu l o)
  | [], o, _ => rfl
  | b :: r, o, h => by
    rw [knownB, List.all_cons, Bool.and_eq_true_iff] at h
    rw [kndF, wantF, if_pos h.1, if_pos h.1]
    exact want_knd ch cu r _ h.2
theorem known_snoc (ch : List Acc) (l : List Ln) (b : Ln) : knownB ch (l ++ [b]) = (knownB ch l && (findL ch b.1).2) := by simp [knownB]
end Go.Proofs.YtohdpidlilhnjaaGreatDoor

/- Ledgers: the answers of Kinds; own slices of strings. -/
namespace Go.Proofs.YtohdpidlilhnjaaGreatDoor
open Go.RowKit Go.Maps Num

def zero5 : List Int := [0, 0, 0, 0, 0]
/-- what Kinds answers -/
def knI (ch : List Acc) (_cu : List UInt8) (l : List Ln) : Int := if listB l = true ∧ chkL ch = 0 then (if knownB ch l = true then 0 else 6) else 1
def knL (ch : List Acc) (cu : List UInt8) (l : List Ln) : List (List UInt8) := if knI ch cu l = 0 then (wantF ch cu l zero5).map txt else []
def KndC (r : List (List UInt8)) (i : Int) (w : World) (e : Ending) (w' : World) : Prop := ∃ v, e = .returned (.tuple #[v, .int .i64 i]) ∧ rowI.Own w.heap.size w' v r ∧ Below w.heap.size w w'
theorem knI_bad {ch : List Acc} {cu : List UInt8} {l : List Ln} (h : ¬ (listB l = true ∧ chkL ch = 0)) : knI ch cu l = 1 ∧ knL ch cu l = [] := by
  have h1 : knI ch cu l = 1 := by unfold knI; rw [if_neg h]
  exact ⟨h1, by unfold knL; rw [h1]; rfl⟩
theorem knI_none {ch : List Acc} {cu : List UInt8} {l : List Ln} (h1 : listB l = true) (h2 : chkL ch = 0) (h3 : knownB ch l = false) : knI ch cu l = 6 ∧ knL ch cu l = [] := by
  have h4 : knI ch cu l = 6 := by unfold knI; rw [if_pos ⟨h1, h2⟩, h3]; rfl
  exact ⟨h4, by unfold knL; rw [h4]; rfl⟩
theorem knI_ok {ch : List Acc} {cu : List UInt8} {l : List Ln} (h1 : listB l = true) (h2 : chkL ch = 0) (h3 : knownB ch l = true) : knI ch cu l = 0 ∧ knL ch cu l = (wantF ch cu l zero5).map txt := by
  have h4 : knI ch cu l = 0 := by unfold knI; rw [if_pos ⟨h1, h2⟩, h3]; rfl
  exact ⟨h4, by unfold knL; rw [h4]; rfl⟩
theorem addAt_bd {M m : Nat} {o : List Int} (h : ∀ v ∈ o, v.natAbs ≤ m * M) (i : Nat) {x : Int} (hx : x.natAbs ≤ M) : ∀ v ∈ addAt o i x, v.natAbs ≤ (m + 1) * M := fun v hv => by
  unfold addAt at hv
  have e : (m + 1) * M = m * M + M := Nat.succ_mul m M
  rcases List.mem_or_eq_of_mem_set hv with h1 | rfl
  · have := h v h1
    omega
  · have h2 : (o.getD i 0).natAbs ≤ m * M := by
      rcases Nat.lt_or_ge i o.length with hi | hi
      · rw [List.getD_eq_getElem?_getD, List.getElem?_eq_getElem hi]
        exact h _ (List.getElem_mem hi)
      · rw [List.getD_eq_getElem?_getD, List.getElem?_eq_none hi]
        show (0 : Int).natAbs ≤ _
        simp
    omega
theorem wantF_bd {M : Nat} (ch : List Acc) (cu : List UInt8) : ∀ (l : List Ln) (o : List Int) (m : Nat), (∀ x ∈ l, (val x.2.2).natAbs ≤ M) → (∀ v ∈ o, v.natAbs ≤ m * M) → ∀ v ∈ wantF ch cu l o, v.natAbs ≤ (m + l.length) * M
  | [], o, m, _, h => h
  | b :: r, o, m, hl, h => by
    have hb := hl b (by simp)
    have hr := fun x hx => hl x (List.mem_cons_of_mem b hx)
    have hup : ∀ v ∈ o, v.natAbs ≤ (m + 1) * M := fun v hv => by have := h v hv; have e : (m + 1) * M = m * M + M := Nat.succ_mul m M; omega
    rw [wantF, List.length_cons, show m + (r.length + 1) = m + 1 + r.length by omega]
    refine wantF_bd ch cu r _ (m + 1) hr ?_
    split
    · unfold kndStep
      split
      · exact addAt_bd h _ hb
      · exact hup
    · exact hup
theorem zero5_bd (M : Nat) : ∀ v ∈ zero5, v.natAbs ≤ 0 * M := fun v hv => by
  simp only [zero5, List.mem_cons, List.not_mem_nil, or_false, or_self] at hv
  subst hv
  simp
theorem want_bd {M : Nat} {l : List Ln} (ch : List Acc) (cu : List UInt8) (h : ∀ x ∈ l, (val x.2.2).natAbs ≤ M) : ∀ v ∈ wantF ch cu l zero5, v.natAbs ≤ l.length * M := by
  have := wantF_bd ch cu l zero5 0 h (zero5_bd M)
  rwa [Nat.zero_add] at this
theorem wantF_known (ch : List Acc) (cu : List UInt8) (l : List Ln) (k : Nat) (hk : k < l.length) (hf : (findL ch (l.getD k ln0).1).2 = true) :
    wantF ch cu (l.take (k + 1)) zero5 = if (l.getD k ln0).2.1 = cu then addAt (wantF ch cu (l.take k) zero5) ((findL ch (l.getD k ln0).1).1.2 - 1).toNat (val (l.getD k ln0).2.2) else wantF ch cu (l.take k) zero5 := by
  rw [take_gen ln0 l k hk, wantF_snoc, if_pos hf]
  rfl
/-! own slices of strings -/
theorem vsI (l : List (List UInt8)) : rowI.vs l = l.map fun s => .string ⟨s.toArray⟩ := by
  induction l with
  | nil => rfl
  | cons s r ih => rw [Row.vs_cons, ih]; rfl
theorem vsI_set (l : List (List UInt8)) (i : Nat) (s : List UInt8) : (rowI.vs l).set i (.string ⟨s.toArray⟩) = rowI.vs (l.set i s) := by
  rw [vsI, vsI, List.map_set]
theorem ownI_set {B : Nat} {w : World} {g n cap : Nat} {l : List (List UInt8)} (h : rowI.Own B w (.slice (some ⟨g, 0, none⟩) n cap) l) (i : Nat) (s : List UInt8) :
    rowI.Own B (w.setCell ⟨g, i, none⟩ (.string ⟨s.toArray⟩)) (.slice (some ⟨g, 0, none⟩) n cap) (l.set i s) ∧ w.grownBy (w.setCell ⟨g, i, none⟩ (.string ⟨s.toArray⟩)) (some g) := by
  have hn : n = l.length := by
    rcases h.2 with ⟨e, _⟩ | ⟨g', cap', cur, e, _⟩
    · cases e
    · injection e
  subst hn
  have h' : w.ownsRow B rowI.E rowI.k (.slice (some ⟨g, 0, none⟩) l.length cap) l.length (rowI.vs l) := h
  obtain ⟨s1, t1⟩ := h'.stored i (.string ⟨s.toArray⟩)
  rw [vsI_set] at s1
  refine ⟨?_, t1⟩
  unfold Row.Own
  rw [List.length_set]
  exact s1
theorem ownI_five (B : Nat) (w : World) (hB : B ≤ w.heap.size) : rowI.Own B (w.alloc (.cells #[.string ⟨#[]⟩, .string ⟨#[]⟩, .string ⟨#[]⟩, .string ⟨#[]⟩, .string ⟨#[]⟩] 31)) (.slice (some ⟨w.heap.size, 0, none⟩) 5 5) (zero5.map txt) :=
  ⟨by kernel_rfl, .inr ⟨_, 5, #[.string ⟨#[]⟩, .string ⟨#[]⟩, .string ⟨#[]⟩, .string ⟨#[]⟩, .string ⟨#[]⟩], rfl, hB, heap_alloc_new w _, Nat.le_refl _, by unfold maxLen; omega, rfl, by
    unfold zero5
    simp only [List.map_cons, List.map_nil, txt_zero]
    rfl⟩⟩
theorem ownI_emptyI (B : Nat) (w : World) (hB : B ≤ w.heap.size) : rowI.Own B (w.alloc (.cells #[] 31)) (.slice (some ⟨w.heap.size, 0, none⟩) 0 0) [] :=
  ⟨rfl, .inr ⟨_, 0, #[], rfl, hB, heap_alloc_new w _, Nat.le_refl _, by unfold maxLen; omega, by simp, rfl⟩⟩
theorem Below.alk {w W : World} (h : Below w.heap.size w W) (o : Obj) : Below w.heap.size w (W.alloc o) := h.alloc h.size o
theorem below_viak {w W w' : World} (hb : Below W.heap.size W w') (h : Below w.heap.size w W) : Below w.heap.size w w' := h.trans (hb.mono h.size)
theorem below_ahk {w W w' : World} (h : Below w.heap.size w W) (hb : Below W.heap.size W w') : Below w.heap.size w w' := h.trans (hb.mono h.size)
theorem make5 (w : World) : (Instr.makeSlice 68 (.int .i64 5) (.int .i64 5)).run Tryz.prog w = .ok (.slice (some ⟨w.heap.size, 0, none⟩) 5 5) (w.alloc (.cells #[.string ⟨#[]⟩, .string ⟨#[]⟩, .string ⟨#[]⟩, .string ⟨#[]⟩, .string ⟨#[]⟩] 31)) := by kernel_rfl
theorem map_addAt (o : List Int) (i : Nat) (v : Int) : (addAt o i v).map txt = (o.map txt).set i (txt (o.getD i 0 + v)) := by
  unfold addAt
  rw [List.map_set]
theorem getD_txt (o : List Int) (i : Nat) : (o.map txt).getD i [] = txt (o.getD i 0) := by
  rw [List.getD_eq_getElem?_getD, List.getElem?_map, List.getD_eq_getElem?_getD]
  cases o[i]? with
  | none => exact txt_zero.symm
  | some v => rfl
end Go.Proofs.YtohdpidlilhnjaaGreatDoor

/- Ledgers: the array of the kinds' sums, and their sum. -/
namespace Go.Proofs.YtohdpidlilhnjaaGreatDoor
open Go.RowKit Go.Maps Num

theorem wantF_unk (ch : List Acc) (cu : List UInt8) (l : List Ln) (k : Nat) (hk : k < l.length) (hf : (findL ch (l.getD k ln0).1).2 = false) : wantF ch cu (l.take (k + 1)) zero5 = wantF ch cu (l.take k) zero5 := by
  rw [take_gen ln0 l k hk, wantF_snoc, if_neg (by rw [hf]; decide)]
theorem sum_bd {M : Nat} : ∀ (l : List Int), (∀ v ∈ l, v.natAbs ≤ M) → l.sum.natAbs ≤ l.length * M
  | [], _ => by simp
  | x :: r, h => by
    have h1 := sum_bd r fun v hv => h v (List.mem_cons_of_mem x hv)
    have h2 := h x (by simp)
    have e : (r.length + 1) * M = r.length * M + M := Nat.succ_mul r.length M
    rw [List.sum_cons, List.length_cons]
    omega
theorem sum_take (l : List Int) (k : Nat) (hk : k < l.length) : (l.take (k + 1)).sum = (l.take k).sum + l.getD k 0 := by
  rw [take_gen 0 l k hk, List.sum_append]
  simp
/-- the sums of the kinds of a list whose currency adds up to 0 -/
theorem want_zero {ch : List Acc} (hc : chkL ch = 0) {l : List Ln} (cu : List UInt8) (hk : knownB ch l = true) (h0 : curT l cu = 0) : (wantF ch cu l zero5).sum = 0 := by
  have h1 := kndF_sum hc cu l zero5 _ rfl (want_knd ch cu l zero5 hk)
  rw [h1, h0]
  rfl
/-- an array of five strings in a block -/
def Arr (w : World) (g : Nat) (l : List (List UInt8)) : Prop := l.length = 5 ∧ w.heap[g]? = some (.cells (rowI.vs l).toArray 75)
theorem vsI_at (l : List (List UInt8)) (i : Nat) (hi : i < l.length) : (rowI.vs l)[i]? = some (.string ⟨(l.getD i []).toArray⟩) := by
  have := Row.vs_at rowI_ok [] l i 0 hi (by decide)
  simpa using this
theorem Arr.cell {w : World} {g : Nat} {l : List (List UInt8)} (h : Arr w g l) (i : Nat) (hi : i < 5) : w.cell? ⟨g, i, none⟩ = some (.string ⟨(l.getD i []).toArray⟩) ∧ w.frozen? ⟨g, i, none⟩ = false := by
  refine ⟨?_, frozen_of_row _ _ _ _ _ h.2⟩
  rw [cell_of_row _ _ _ _ _ _ h.2, List.getElem?_toArray, vsI_at l i (by rw [h.1]; exact hi)]
theorem Arr.lt {w : World} {g : Nat} {l : List (List UInt8)} (h : Arr w g l) : g < w.heap.size := block_lt_of_cell (h.cell 0 (by decide)).1
theorem Arr.below {w w' : World} {g : Nat} {l : List (List UInt8)} (h : Arr w g l) (hb : Below w.heap.size w w') : Arr w' g l :=
  ⟨h.1, (hb.block g h.lt).trans h.2⟩
theorem Arr.set {w : World} {g : Nat} {l : List (List UInt8)} (h : Arr w g l) (i : Nat) (s : List UInt8) : Arr (w.setCell ⟨g, i, none⟩ (.string ⟨s.toArray⟩)) g (l.set i s) := by
  refine ⟨by rw [List.length_set]; exact h.1, ?_⟩
  have h2 := h.2
  rw [← vsI_set]
  unfold World.setCell
  simp [Array.getElem?_modify, h2]
theorem Arr.zero (w : World) : Arr (w.alloc (.cells #[.string ⟨#[]⟩, .string ⟨#[]⟩, .string ⟨#[]⟩, .string ⟨#[]⟩, .string ⟨#[]⟩] 75)) w.heap.size (zero5.map txt) := by
  refine ⟨rfl, ?_⟩
  rw [heap_alloc_new]
  unfold zero5
  simp only [List.map_cons, List.map_nil, txt_zero]
  rfl
theorem Arr.rds {w : World} {g : Nat} {l : List (List UInt8)} (h : Arr w g l) : rowI.Rds w (some ⟨g, 0, none⟩) 5 5 l :=
  ⟨h.1, Nat.le_refl _, by unfold maxLen; omega, fun _ => ⟨g, 0, rfl, h.lt, fun j u hu => by
    rw [cell_of_row _ _ _ _ _ _ h.2, List.getElem?_toArray, Nat.zero_add]; exact hu⟩⟩
theorem kndc_rds {l : List (List UInt8)} {i : Int} {w w' : World} {e : Ending} (h : KndC l i w e w') : ∃ A c, e = .returned (.tuple #[.slice A l.length c, .int .i64 i]) ∧ rowI.Rds w' A l.length c l ∧ Below w.heap.size w w' := by
  obtain ⟨v, rfl, ho, hb⟩ := h
  obtain ⟨A, c, rfl, hr⟩ := ho.rds
  exact ⟨A, c, rfl, hr, hb⟩
theorem knL_len (ch : List Acc) (cu : List UInt8) (l : List Ln) : (knL ch cu l).length ≤ 5 := by
  unfold knL
  split
  · rw [List.length_map, wantF_len]; exact Nat.le_refl _
  · simp
end Go.Proofs.YtohdpidlilhnjaaGreatDoor

/- Contract of ledger.Kinds (printed by gen_tre.py). -/
namespace Go.Proofs.YtohdpidlilhnjaaGreatDoor
open Go.RowKit Go.Maps Num

set_option maxRecDepth 100000 in
set_option maxHeartbeats 8000000 in
theorem Kinds_any (A B : Option Addr) (n c m d : Nat) (l : List Ln) (ch : List Acc) (cu : List UInt8) (w : World) (hl : rowB.Rds w A n c l) (hc : Accs w B m d ch) (hs : ∀ x ∈ l, Sml x ∧ x.2.2.length ≤ 60) (hn : n ≤ 4000) (hcl : ∀ a ∈ ch, a.1.length < 4294967281) (ht : Tab w) (hm : ML w) :
    Calls Tryz.prog 41 #[.slice A n c, .slice B m d, .string ⟨cu.toArray⟩] w (KndC (knL ch cu l) (knI ch cu l) w) := by
  have ll := Lib.hid hl.len
  have L1 := Lib.hid hl
  have C1 := Lib.hid (isList_any A n c l w hl (fun x hx => (hs x hx).1) (by omega) ht hm)
  have C2 := Lib.hid (fun W (h : Below w.heap.size w W) => CheckAll_any B m d ch W (hc.below h) hcl (hm.below h))
  have C3 := Lib.hid (fun (code : List UInt8) W (h : Below w.heap.size w W) => Find_any B m d ch code W (hc.below h) (fun a ha => by have := hcl a ha; omega))
  have HBD := Lib.hid (show ∀ k, ∀ v ∈ wantF ch cu (l.take k) zero5, v.natAbs < 10 ^ 70 from fun k v hv => by
    have h1 := want_bd (M := big60) ch cu (l := l.take k) (fun x hx => by
      have h1 := val_bd x.2.2
      have h2 : 10 ^ x.2.2.length ≤ big60 := Nat.pow_le_pow_right (by omega) (hs x (List.mem_of_mem_take hx)).2
      omega) v hv
    have h2 : (l.take k).length * big60 ≤ 4000 * big60 := Nat.mul_le_mul_right _ (by rw [List.length_take]; have := ll.out; omega)
    have h3 : 4000 * big60 < 10 ^ 70 := by decide
    omega)
  have HS := Lib.hid (show ∀ x ∈ l, x.2.2.length ≤ 60 from fun x hx => (hs x hx).2)
  have HT := Lib.hid ht
  have HP := Lib.hid (fun v i W (h1 : rowI.Own w.heap.size W v (knL ch cu l)) (h2 : Below w.heap.size w W) (hi : knI ch cu l = i) => (show KndC (knL ch cu l) (knI ch cu l) w (.returned (.tuple #[v, .int .i64 i])) W from ⟨v, by rw [hi], h1, h2⟩))
  have HBAD := Lib.hid (fun (h : ¬ (listB l = true ∧ chkL ch = 0)) => knI_bad (cu := cu) h)
  have HNON := Lib.hid (fun (h1 : listB l = true) (h2 : chkL ch = 0) (h3 : knownB ch l = false) => knI_none (cu := cu) h1 h2 h3)
  have HYES := Lib.hid (fun (h1 : listB l = true) (h2 : chkL ch = 0) (h3 : knownB ch l = true) => knI_ok (cu := cu) h1 h2 h3)
  unfold BoolPost at C1
  clear hl hc hs hcl ht hm
  generalize KndC (knL ch cu l) (knI ch cu l) w = Post at *
  generalize knI ch cu l = ri at *
  generalize knL ch cu l = rl at *
  cases hlb : listB l
  case false =>
    obtain ⟨e1, e2⟩ := HBAD.out (by rw [hlb]; simp)
    subst e1 e2
    have hck := C1.out
    rw [hlb] at hck
    have HC2 := Lib.hid hck
    clear hck C1 C2 C3 HBAD HNON HYES hlb HBD HS
    go_enter Tryz.func41, Tryz.ntmps41
    go_wp2_with fail
    refine HC2.out.mono ?_
    rintro e w1 ⟨rfl, hb⟩
    have B1 := Lib.hid hb
    clear hb HC2
    go_wp2_with fail
    exact HP.out _ _ _ (Row.Own.nil _ _) B1.out rfl
  obtain ⟨ck, hck⟩ : ∃ ck, chkL ch = ck := ⟨_, rfl⟩
  have h1 := C1.out
  have h2 := C2.out
  rw [hlb] at h1
  rw [hck] at h2
  have HC1 := Lib.hid h1
  have HC2 := Lib.hid h2
  clear h1 h2 C1 C2
  by_cases h0 : ck = 0
  case neg =>
    have hb0 : (ck == 0) = false := beq_eq_false_iff_ne.2 h0
    have hb1 : (ck != 0) = true := by rw [bne_iff_ne]; exact h0
    obtain ⟨e1, e2⟩ := HBAD.out (fun h => h0 (by rw [← hck]; exact h.2))
    subst e1 e2
    clear C3 HBAD HNON HYES hlb HBD HS hck h0
    go_enter Tryz.func41, Tryz.ntmps41
    go_wp2_with fail
    refine HC1.out.mono ?_
    rintro e w1 ⟨rfl, hb⟩
    have B1 := Lib.hid hb
    clear hb HC1
    go_wp2_with fail
    refine (HC2.out _ B1.out).mono ?_
    rintro e w2 ⟨rfl, hb⟩
    have B2 := Lib.hid (below_next B1.out hb ⟨rfl, rfl, rfl, rfl⟩)
    clear hb HC2 B1
    go_wp2_with fail
    exact HP.out _ _ _ (Row.Own.nil _ _) B2.out rfl
  subst h0
  have HNO := Lib.hid (fun h => HNON.out hlb hck h)
  have HOK := Lib.hid (fun h => HYES.out hlb hck h)
  have HRG := Lib.hid (fun c (h : (findL ch c).2 = true) => find_rng hck h)
  clear HBAD HNON HYES hlb hck
  go_enter Tryz.func41, Tryz.ntmps41
  go_wp2_with fail
  refine HC1.out.mono ?_
  rintro e w1 ⟨rfl, hb⟩
  have B1 := Lib.hid hb
  clear hb HC1
  go_wp2_with fail
  refine (HC2.out _ B1.out).mono ?_
  rintro e w2 ⟨rfl, hb⟩
  have B2 := Lib.hid (below_next B1.out hb ⟨rfl, rfl, rfl, rfl⟩)
  clear hb HC2 B1
  have O0 := Lib.hid (ownI_five w.heap.size w2 B2.out.size)
  have B3 := Lib.hid (B2.out.alloc B2.out.size (.cells #[.string ⟨#[]⟩, .string ⟨#[]⟩, .string ⟨#[]⟩, .string ⟨#[]⟩, .string ⟨#[]⟩] 31))
  have hmk := make5 w2
  go_wp2_with fail
  clear hmk
  obtain ⟨g, hg⟩ : ∃ g, w2.heap.size = g := ⟨_, rfl⟩
  rw [hg] at O0 ⊢
  clear B2 hg
  generalize w2.alloc (.cells #[.string ⟨#[]⟩, .string ⟨#[]⟩, .string ⟨#[]⟩, .string ⟨#[]⟩, .string ⟨#[]⟩] 31) = w3 at *
  go_loopw [24] (fun i wr => ∃ k : Nat, k ≤ n ∧ i = .int .i64 (k : Int) ∧ Hid (knownB ch (l.take k) = true) ∧ Hid (rowI.Own w.heap.size wr (.slice (some ⟨g, 0, none⟩) 5 5) ((wantF ch cu (l.take k) zero5).map txt)) ∧ Hid (Below w.heap.size w wr)) (fun i _ => n - (intOf i).toNat)
  case atStart => exact ⟨0, by omega, rfl, Lib.hid (by rw [List.take_zero]; rfl), O0, B3⟩
  case round =>
    clear O0 B3
    obtain ⟨k, hk, rfl, HK, HO, HB⟩ := hrel
    by_cases hlt : k < n
    · have hkl : k < l.length := by rw [ll.out]; exact hlt
      obtain ⟨b1, o1, rfl, hb1, _⟩ := L1.out.at_ (by omega)
      have p0 := (L1.out.below HB.out).cell rowB_ok ln0 k 0 _ hlt rfl
      have p1 := (L1.out.below HB.out).cell rowB_ok ln0 k 1 _ hlt rfl
      have p2 := (L1.out.below HB.out).cell rowB_ok ln0 k 2 _ hlt rfl
      have hki : (k : Int) < (n : Int) := by omega
      have HSk := Lib.hid (HS.out _ (lnAt_mem l k hkl))
      have HTK := Lib.hid (take_gen ln0 l k hkl)
      have HWK := Lib.hid (wantF_known ch cu l k hkl)
      have HNK := Lib.hid (show (findL ch (l.getD k ln0).1).2 = false → knownB ch l = false from fun h => by
        cases hq : knownB ch l
        · rfl
        · have := List.all_eq_true.1 hq _ (lnAt_mem l k hkl)
          rw [h] at this; cases this)
      have HRk := Lib.hid (HRG.out (l.getD k ln0).1)
      have HBk := Lib.hid (HBD.out k)
      have HWL := Lib.hid (wantF_len ch cu (l.take k) zero5)
      have HKS := Lib.hid (show (findL ch (l.getD k ln0).1).2 = true → knownB ch (l.take (k + 1)) = true from fun h => by rw [HTK.out, known_snoc, HK.out, h]; rfl)
      have HP1 := Lib.hid (fun W (h : Below w.heap.size w W) => (L1.out.below h).cell rowB_ok ln0 k 1 _ hlt rfl)
      have HP2 := Lib.hid (fun W (h : Below w.heap.size w W) => (L1.out.below h).cell rowB_ok ln0 k 2 _ hlt rfl)
      clear hkl HTK
      generalize l.getD k ln0 = y at *
      obtain ⟨ya, yc, ym⟩ := y
      simp only [Nat.add_zero] at p0 p1 p2 HP1 HP2 HNK HRk HKS HWK HSk
      have HF := Lib.hid (C3.out ya)
      generalize findL ch ya = fa at *
      obtain ⟨⟨ac, ak⟩, fb⟩ := fa
      simp only at HNK HRk HKS HWK HF
      have HBA := Lib.hid (HB.out.alloc HB.out.size (.cells #[.string ⟨ya.toArray⟩, .string ⟨yc.toArray⟩, .string ⟨ym.toArray⟩] 33))
      have HOA := Lib.hid (HO.out.alloc (.cells #[.string ⟨ya.toArray⟩, .string ⟨yc.toArray⟩, .string ⟨ym.toArray⟩] 33))
      obtain ⟨⟨hx0', hx1, hx2⟩, _⟩ := cells3 (heap_alloc_new wr (.cells #[.string ⟨ya.toArray⟩, .string ⟨yc.toArray⟩, .string ⟨ym.toArray⟩] 33))
      have hlx := block_lt_of_cell hx0'
      cases fb
      case false =>
        obtain ⟨e1, e2⟩ := HNO.out (HNK.out rfl)
        subst e1 e2
        clear HNO HOK HNK HRk HKS HWK HRG HBk HBD HWL HSk HK
        go_wp2_with fail
        generalize wr.alloc (.cells #[.string ⟨ya.toArray⟩, .string ⟨yc.toArray⟩, .string ⟨ym.toArray⟩] 33) = wa at *
        generalize wr.heap.size = bx at *
        refine (HF.out _ HBA.out).mono ?_
        rintro e w6 ⟨rfl, hb⟩
        have HB6 := Lib.hid (below_next HBA.out hb ⟨rfl, rfl, rfl, rfl⟩)
        have HO6 := Lib.hid (HOA.out.below hb)
        have HBB := Lib.hid (HB6.out.alloc HB6.out.size (.cells #[.string ⟨ac.toArray⟩, .int .i64 ak] 77))
        have HOB := Lib.hid (HO6.out.alloc (.cells #[.string ⟨ac.toArray⟩, .int .i64 ak] 77))
        have hy1 : (w6.alloc (.cells #[.string ⟨ac.toArray⟩, .int .i64 ak] 77)).cell? ⟨w6.heap.size, 1, none⟩ = some (.int .i64 ak) := by rw [cell_of_row _ _ _ _ _ _ (heap_alloc_new w6 _)]; rfl
        have hbx := hb.size
        have x1 := ((hb.alloc hb.size (.cells #[.string ⟨ac.toArray⟩, .int .i64 ak] 77)).cell (p := ⟨bx, 1, none⟩) hlx).trans hx1
        have x2 := ((hb.alloc hb.size (.cells #[.string ⟨ac.toArray⟩, .int .i64 ak] 77)).cell (p := ⟨bx, 2, none⟩) hlx).trans hx2
        clear hb HB6 HO6 hx0' hx1 hx2
        go_wp2_with fail
        exact HP.out _ _ _ (Row.Own.nil _ _) HBB.out rfl
      case true =>
      have hrg := HRk.out rfl
      have HK2 := Lib.hid (HKS.out rfl)
      have HW2 := Lib.hid (HWK.out rfl)
      clear HNK HRk HKS HWK
      by_cases hcu : yc = cu
      case neg =>
        have e2 : (yc == cu) = false := beq_eq_false_iff_ne.2 hcu
        have HE := Lib.hid (show wantF ch cu (l.take (k + 1)) zero5 = wantF ch cu (l.take k) zero5 by rw [HW2.out, if_neg hcu])
        clear HNO HOK HRG HBk HBD HWL HSk HK HW2 hcu hrg
        go_wp2_with fail
        generalize wr.alloc (.cells #[.string ⟨ya.toArray⟩, .string ⟨yc.toArray⟩, .string ⟨ym.toArray⟩] 33) = wa at *
        generalize wr.heap.size = bx at *
        refine (HF.out _ HBA.out).mono ?_
        rintro e w6 ⟨rfl, hb⟩
        have HB6 := Lib.hid (below_next HBA.out hb ⟨rfl, rfl, rfl, rfl⟩)
        have HO6 := Lib.hid (HOA.out.below hb)
        have HBB := Lib.hid (HB6.out.alloc HB6.out.size (.cells #[.string ⟨ac.toArray⟩, .int .i64 ak] 77))
        have HOB := Lib.hid (HO6.out.alloc (.cells #[.string ⟨ac.toArray⟩, .int .i64 ak] 77))
        have hy1 : (w6.alloc (.cells #[.string ⟨ac.toArray⟩, .int .i64 ak] 77)).cell? ⟨w6.heap.size, 1, none⟩ = some (.int .i64 ak) := by rw [cell_of_row _ _ _ _ _ _ (heap_alloc_new w6 _)]; rfl
        have hbx := hb.size
        have x1 := ((hb.alloc hb.size (.cells #[.string ⟨ac.toArray⟩, .int .i64 ak] 77)).cell (p := ⟨bx, 1, none⟩) hlx).trans hx1
        have x2 := ((hb.alloc hb.size (.cells #[.string ⟨ac.toArray⟩, .int .i64 ak] 77)).cell (p := ⟨bx, 2, none⟩) hlx).trans hx2
        clear hb HB6 HO6 hx0' hx1 hx2
        go_wp2_with fail
        exact ⟨⟨k + 1, by omega, by go_num, HK2, Lib.hid (by rw [HE.out]; exact HOB.out), HBB⟩, by simp [intOf]; omega⟩
      subst hcu
      obtain ⟨ix, hix, hx5⟩ : ∃ ix : Nat, (ix : Int) = ak - 1 ∧ ix < 5 := ⟨(ak - 1).toNat, by omega, by omega⟩
      have hw : IntKind.i64.wrap (ak - 1) = (ix : Int) := by rw [IntWalk.i64_in _ (by omega)]; omega
      have hxi : (ix : Int) < 5 := by omega
      have hx0 : (0 : Int) ≤ (ix : Int) := by omega
      have HW3 := Lib.hid (show (wantF ch yc (l.take (k + 1)) zero5).map txt = ((wantF ch yc (l.take k) zero5).map txt).set ix (txt (val (((wantF ch yc (l.take k) zero5).map txt).getD ix []) + val ym)) by
        rw [HW2.out, if_pos rfl, map_addAt, show (ak - 1).toNat = ix by omega, getD_txt, val_txt])
      have HSI := Lib.hid (show (((wantF ch yc (l.take k) zero5).map txt).getD ix []) = txt ((wantF ch yc (l.take k) zero5).getD ix 0) ∧ ((wantF ch yc (l.take k) zero5).getD ix 0).natAbs < 10 ^ 70 from ⟨getD_txt _ _, by
        rw [List.getD_eq_getElem?_getD, List.getElem?_eq_getElem (by rw [HWL.out]; exact hx5)]
        exact HBk.out _ (List.getElem_mem _)⟩)
      have HL5 := Lib.hid (show ((wantF ch yc (l.take k) zero5).map txt).length = 5 by rw [List.length_map, HWL.out]; rfl)
      clear HW2 HBk HBD HWL HNO HRG HK hix hrg
      generalize (wantF ch yc (l.take k) zero5).map txt = om at *
      have HRO := Lib.hid (fun W (h : rowI.Own w.heap.size W (.slice (some ⟨g, 0, none⟩) 5 5) om) => (show W.cell? ⟨g, ix, none⟩ = some (.string ⟨(om.getD ix []).toArray⟩) ∧ W.frozen? ⟨g, ix, none⟩ = false from ⟨by
        obtain ⟨A', c', e, hr⟩ := h.rds
        injection e with e1 e2 e3
        subst e1 e3
        have := hr.cell rowI_ok [] ix 0 _ (by rw [HL5.out]; exact hx5) rfl
        simpa using this, h.frz ix⟩))
      have HSL := Lib.hid (show (om.getD ix []).length ≤ 80 by rw [HSI.out.1]; have := txt_bd HSI.out.2; omega)
      have HSD := Lib.hid (show (dgs (om.getD ix [])).length ≤ 70 by rw [HSI.out.1]; exact dgs_txt_len HSI.out.2)
      clear HSI
      generalize om.getD ix [] = si at *
      have HADD := Lib.hid (fun W (h : Below w.heap.size w W) => (show Calls Tryz.prog 21 #[.string ⟨si.toArray⟩, .string ⟨ym.toArray⟩] W (StrPost (txt (val si + val ym)) W) from Add_any ⟨si.toArray⟩ ⟨ym.toArray⟩ W (by show si.toArray.size ≤ 120; rw [List.size_toArray]; have := HSL.out; omega) (by show ym.toArray.size ≤ 120; rw [List.size_toArray]; have := HSk.out; omega) (HT.out.below h)))
      have HNX := Lib.hid (fun W (h : rowI.Own w.heap.size W (.slice (some ⟨g, 0, none⟩) 5 5) om) => ownI_set h ix (txt (val si + val ym)))
      clear HSL HSD HSk
      generalize txt (val si + val ym) = s2 at *
      rw [← HW3.out] at HNX
      clear HW3 HL5
      go_wp2_with fail
      generalize wr.alloc (.cells #[.string ⟨ya.toArray⟩, .string ⟨yc.toArray⟩, .string ⟨ym.toArray⟩] 33) = wa at *
      generalize wr.heap.size = bx at *
      refine (HF.out _ HBA.out).mono ?_
      rintro e w6 ⟨rfl, hb⟩
      have HB6 := Lib.hid (below_next HBA.out hb ⟨rfl, rfl, rfl, rfl⟩)
      have HO6 := Lib.hid (HOA.out.below hb)
      have HBB := Lib.hid (HB6.out.alloc HB6.out.size (.cells #[.string ⟨ac.toArray⟩, .int .i64 ak] 77))
      have HOB := Lib.hid (HO6.out.alloc (.cells #[.string ⟨ac.toArray⟩, .int .i64 ak] 77))
      have hy1 : (w6.alloc (.cells #[.string ⟨ac.toArray⟩, .int .i64 ak] 77)).cell? ⟨w6.heap.size, 1, none⟩ = some (.int .i64 ak) := by rw [cell_of_row _ _ _ _ _ _ (heap_alloc_new w6 _)]; rfl
      have hbx := hb.size
      have x1 := ((hb.alloc hb.size (.cells #[.string ⟨ac.toArray⟩, .int .i64 ak] 77)).cell (p := ⟨bx, 1, none⟩) hlx).trans hx1
      have x2 := ((hb.alloc hb.size (.cells #[.string ⟨ac.toArray⟩, .int .i64 ak] 77)).cell (p := ⟨bx, 2, none⟩) hlx).trans hx2
      clear hb HB6 HO6 hx0' hx1 hx2
      obtain ⟨lo, fo⟩ := HRO.out _ HOB.out
      have hgs := (HOB.out.own g rfl).1
      have hby : w6.heap.size < (w6.alloc (.cells #[.string ⟨ac.toArray⟩, .int .i64 ak] 77)).heap.size := by simp
      have hbxx : bx < (w6.alloc (.cells #[.string ⟨ac.toArray⟩, .int .i64 ak] 77)).heap.size := by simp; omega
      clear HF HOK HP HO HB HBA HOA
      go_upto_region 11 with fail
      generalize w6.alloc (.cells #[.string ⟨ac.toArray⟩, .int .i64 ak] 77) = wb at *
      generalize w6.heap.size = by_ at *
      have HBc := Lib.hid (Below.refl wb.heap.size wb)
      go_region_with (first
        | (go_at_call 21; refine (HADD.out _ ?_).mono ?_
           · refine below_ahk HBB.out ?_
             repeat (first | exact HBc.out | refine Below.drew ?_ | refine Below.alk ?_ _)
           rintro e w' ⟨rfl, hb⟩
           have HBc := Lib.hid (below_viak (w := wb) hb (by repeat (first | exact HBc.out | refine Below.drew ?_ | refine Below.alk ?_ _)))
           obtain ⟨lo, fo⟩ := HRO.out _ (HOB.out.below HBc.out)
           have hy1 := (HBc.out.cell (p := ⟨by_, 1, none⟩) hby).trans hy1
           have x2 := (HBc.out.cell (p := ⟨bx, 2, none⟩) hbxx).trans x2
           clear hb))
      all_goals
        go_wp2_with fail
        obtain ⟨own, hgn⟩ := HNX.out _ (HOB.out.below HBc.out)
        exact ⟨⟨k + 1, by omega, by go_num, HK2, Lib.hid own, Lib.hid (below_own (below_ahk HBB.out HBc.out) (Nat.le_refl _) hgn (fun q e => by have := Option.some.inj e; omega))⟩, by simp [intOf]; omega⟩
    · have hkn : k = n := by omega
      subst hkn
      have hki : ¬ (k : Int) < (k : Int) := by omega
      have e : l.take k = l := List.take_of_length_le (by rw [ll.out]; exact Nat.le_refl _)
      rw [e] at HK HO
      obtain ⟨e1, e2⟩ := HOK.out HK.out
      subst e1 e2
      clear HNO HOK HRG HBD HK e
      go_wp2_with fail
      exact HP.out _ _ _ HO.out HB.out rfl
end Go.Proofs.YtohdpidlilhnjaaGreatDoor
