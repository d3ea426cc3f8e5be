/- The plain functions: SHA-256 on integers, in the very forms of the program's operations. -/
import Derived.WalkKit
namespace Go.Proofs.Ytlgpdmejnabinaa

def M32 : Int := 4294967296
def rotr (x : Int) (n : Nat) : Int := bits .or .u32 (x * 2 ^ (32 - n) % 4294967296) (x / 2 ^ n)
def byteAt (s : List UInt8) (i : Nat) : Int := ((s.getD i 0).toNat : Int)
/-- the first i bytes of word t -/
def part (s : List UInt8) (t : Nat) : Nat → Int
  | 0 => 0
  | i + 1 => bits .or .u32 (part s t i * 256 % 4294967296) (byteAt s (4 * t + i))
def fill (s : List UInt8) : Nat → List Int
  | 0 => List.replicate 64 0
  | t + 1 => (fill s t).set t (part s t 4)
def nextW (l : List Int) (t : Nat) : Int :=
  let x := l.getD (t - 15) 0
  let y := l.getD (t - 2) 0
  (l.getD (t - 16) 0 + bits .xor .u32 (bits .xor .u32 (rotr x 7) (rotr x 18)) (x / 8) + l.getD (t - 7) 0 + bits .xor .u32 (bits .xor .u32 (rotr y 17) (rotr y 19)) (y / 1024)) % 4294967296
def sched (l : List Int) : Nat → List Int
  | 0 => l
  | n + 1 => (sched l n).set (16 + n) (nextW (sched l n) (16 + n))
def notE (e : Int) : Int := bits .xor .u32 (if IntKind.u32.signed = true then -1 else IntKind.u32.max) e
def firstOf (s : List Int) (k w : Int) : Int :=
  s.getD 7 0 + bits .xor .u32 (bits .xor .u32 (rotr (s.getD 4 0) 6) (rotr (s.getD 4 0) 11)) (rotr (s.getD 4 0) 25) + bits .xor .u32 (bits .and .u32 (s.getD 4 0) (s.getD 5 0)) (bits .and .u32 (notE (s.getD 4 0)) (s.getD 6 0)) + k + w
def secondOf (s : List Int) : Int :=
  bits .xor .u32 (bits .xor .u32 (rotr (s.getD 0 0) 2) (rotr (s.getD 0 0) 13)) (rotr (s.getD 0 0) 22) + bits .xor .u32 (bits .xor .u32 (bits .and .u32 (s.getD 0 0) (s.getD 1 0)) (bits .and .u32 (s.getD 0 0) (s.getD 2 0))) (bits .and .u32 (s.getD 1 0) (s.getD 2 0))
def roundOf (s : List Int) (k w : Int) : List Int :=
  [(firstOf s k w + secondOf s) % 4294967296, s.getD 0 0, s.getD 1 0, s.getD 2 0, (s.getD 3 0 + firstOf s k w) % 4294967296, s.getD 4 0, s.getD 5 0, s.getD 6 0]
def rounds' (ks ws s : List Int) : Nat → List Int
  | 0 => s
  | n + 1 => roundOf (rounds' ks ws s n) (ks.getD n 0) (ws.getD n 0)
def addAll (st : List Int) (s : List Int) : Nat → List Int
  | 0 => s
  | n + 1 => (addAll st s n).set n (((addAll st s n).getD n 0 + st.getD n 0) % 4294967296)
def K64 : List Int := [1116352408, 1899447441, 3049323471, 3921009573, 961987163, 1508970993, 2453635748, 2870763221, 3624381080, 310598401, 607225278, 1426881987, 1925078388, 2162078206, 2614888103, 3248222580, 3835390401, 4022224774, 264347078, 604807628, 770255983, 1249150122, 1555081692, 1996064986, 2554220882, 2821834349, 2952996808, 3210313671, 3336571891, 3584528711, 113926993, 338241895, 666307205, 773529912, 1294757372, 1396182291, 1695183700, 1986661051, 2177026350, 2456956037, 2730485921, 2820302411, 3259730800, 3345764771, 3516065817, 3600352804, 4094571909, 275423344, 430227734, 506948616, 659060556, 883997877, 958139571, 1322822218, 1537002063, 1747873779, 1955562222, 2024104815, 2227730452, 2361852424, 2428436474, 2756734187, 3204031479, 3329325298]
def H8 : List Int := [1779033703, 3144134277, 1013904242, 2773480762, 1359893119, 2600822924, 528734635, 1541459225]
def stepOf (st : List Int) (blk : List UInt8) (ks : List Int) : List Int :=
  addAll st (rounds' ks (sched (fill blk 16) 48) st 64) 8

theorem fill_len (s : List UInt8) (t : Nat) : (fill s t).length = 64 := by induction t with
  | zero => simp [fill]
  | succ n ih => simp [fill, ih]
theorem sched_len (l : List Int) (n : Nat) : (sched l n).length = l.length := by induction n with
  | zero => rfl
  | succ n ih => simp [sched, ih]
theorem rounds_len (ks ws s : List Int) (h : s.length = 8) (n : Nat) : (rounds' ks ws s n).length = 8 := by cases n with
  | zero => exact h
  | succ n => rfl
theorem addAll_len (st s : List Int) (n : Nat) : (addAll st s n).length = s.length := by induction n with
  | zero => rfl
  | succ n ih => simp [addAll, ih]
theorem set_getD (l : List Int) (i j : Nat) (x : Int) (h : i < l.length) : (l.set i x).getD j 0 = if j = i then x else l.getD j 0 := by
  simp only [List.getD_eq_getElem?_getD, List.getElem?_set]
  by_cases e : i = j
  · subst e; simp [h]
  · rw [if_neg e, if_neg (fun h => e h.symm)]
theorem rep_get (n i : Nat) (z : Value) (h : i < n) : (List.replicate n z).toArray[i]? = some z := by simp [h]
theorem rep_getD (n i : Nat) (h : i < n) : (List.replicate n (0 : Int)).getD i 0 = 0 := by simp [List.getD_eq_getElem?_getD, h]
theorem set_same (l : List Int) (t : Nat) : l.set t (l.getD t 0) = l := by
  apply List.ext_getElem (by simp)
  intro i h1 h2
  rw [List.getElem_set]
  split
  · rename_i e; subst e; simp [List.getD_eq_getElem?_getD, h2]
  · rfl
theorem fill_zero (s : List UInt8) (t j : Nat) (h : t ≤ j) (h64 : t ≤ 64) : (fill s t).getD j 0 = 0 := by
  induction t with
  | zero => simp only [fill, List.getD_eq_getElem?_getD, List.getElem?_replicate]; split <;> rfl
  | succ n ih => rw [fill, set_getD _ _ _ _ (by rw [fill_len]; omega), if_neg (by omega), ih (by omega) (by omega)]
theorem byte_mod (s : ByteArray) (n : Nat) (h : n < s.size) : (s[n].toNat : Int) % 4294967296 = byteAt s.data.toList n := by
  have h1 : s.data.toList.getD n 0 = s[n] := by
    rw [List.getD_eq_getElem?_getD, List.getElem?_eq_getElem (by simpa using h)]; rfl
  have h2 : s[n].toNat < 256 := s[n].toNat_lt
  rw [byteAt, h1]; omega
theorem getD_zero_of_le (l : List Int) (j : Nat) (h : l.length ≤ j) : l.getD j 0 = 0 := by simp [List.getD_eq_getElem?_getD, List.getElem?_eq_none h]
end Go.Proofs.Ytlgpdmejnabinaa
