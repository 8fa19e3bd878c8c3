/-
  SHA-256 and ids as text: plain functions on lists, no program in sight.
  No conditions.
-/
import Derived.Test.YtbmfinobafcmiaaDoorSx7
namespace Go.Dig
open Go.Sx
def hexL : List UInt8 := [48, 49, 50, 51, 52, 53, 54, 55, 56, 57, 97, 98, 99, 100, 101, 102]
def digitV (b : UInt8) : Int := if 48 ≤ b.toNat ∧ b.toNat ≤ 57 then (b.toNat : Int) - 48 else if 97 ≤ b.toNat ∧ b.toNat ≤ 102 then (b.toNat : Int) - 97 + 10 else -1
theorem half_at (b : UInt8) (g : Nat) (hg : g < 16) (h : (hexL.getD g 0 == b) = true) : digitV b = g := by
  have : ∀ i : Fin 16, digitV (hexL.getD i.val 0) = (i.val : Int) := by decide +kernel
  have h1 := this ⟨g, hg⟩
  rw [beq_iff_eq] at h
  rw [← h]; exact h1
theorem half_no (b : UInt8) (hne : ∀ i, i < 16 → hexL.getD i 0 ≠ b) : digitV b = -1 := by
  have key : ∀ n : Fin 256, digitV (UInt8.ofNat n.val) = -1 ∨ ∃ i : Fin 16, hexL.getD i.val 0 = UInt8.ofNat n.val := by decide +kernel
  have hb : UInt8.ofNat b.toNat = b := by simp
  have := key ⟨b.toNat, b.toNat_lt⟩
  simp only [hb] at this
  rcases this with h | ⟨i, hi⟩
  · exact h
  · exact absurd hi (hne i.val i.isLt)

def hexD (n : Nat) : UInt8 := hexL.getD n 0
def hexB (b : UInt8) : List UInt8 := [hexD (b.toNat / 16), hexD (b.toNat % 16)]
def hexV (id : List UInt8) : List UInt8 := id.flatMap hexB
def hexPre (id : List UInt8) (g : Nat) : List UInt8 := hexV (id.take g) ++ List.replicate (64 - 2 * g) 0
theorem hexV_length (id : List UInt8) : (hexV id).length = 2 * id.length := by
  induction id with
  | nil => rfl
  | cons b r ih => simp only [hexV, List.flatMap_cons, List.length_append] at ih ⊢; rw [ih]; simp [hexB]; omega
theorem hexPre_length (id : List UInt8) (g : Nat) (h : id.length = 32) (hg : g ≤ 32) : (hexPre id g).length = 64 := by
  simp [hexPre, hexV_length, h]; omega
theorem hexPre_succ (id : List UInt8) (g : Nat) (h : id.length = 32) (hg : g < 32) (x y : UInt8) (hx : x = hexD ((id.getD g 0).toNat / 16)) (hy : y = hexD ((id.getD g 0).toNat % 16)) :
    ((hexPre id g).set (2 * g) x).set (2 * g + 1) y = hexPre id (g + 1) := by
  have hl : (hexV (id.take g)).length = 2 * g := by rw [hexV_length]; simp; omega
  have hr : List.replicate (64 - 2 * g) (0 : UInt8) = 0 :: 0 :: List.replicate (64 - 2 * (g + 1)) 0 := by
    have : 64 - 2 * g = (64 - 2 * (g + 1)) + 1 + 1 := by omega
    rw [this]; rfl
  have ht : id.take (g + 1) = id.take g ++ [id.getD g 0] := by
    rw [List.take_add_one]
    simp [List.getD_eq_getElem?_getD, h, hg]
  have key : ∀ (p q : List UInt8) (a b : UInt8), ((p ++ a :: b :: q).set p.length x).set (p.length + 1) y = p ++ x :: y :: q := by
    intro p q a b
    induction p with
    | nil => rfl
    | cons c r ih => simp only [List.cons_append, List.length_cons, List.set_cons_succ, ih]
  unfold hexPre
  rw [ht, hr, ← hl, key]
  simp [hexV, hexB, hx, hy]
theorem hexPre_all (id : List UInt8) (h : id.length = 32) : hexPre id 32 = hexV id := by
  simp [hexPre, List.take_of_length_le (show id.length ≤ 32 by omega)]
theorem shr4_lt (b : UInt8) : (shr_u8 b 4).toNat < 16 := by
  have := b.toNat_lt
  rw [shr_u8, UInt8.toNat_ofNat']; omega
theorem and15_lt (b : UInt8) : (b &&& 15).toNat < 16 := by
  rw [UInt8.toNat_and]
  exact Nat.lt_of_le_of_lt Nat.and_le_right (by decide)
theorem shr4_eq (b : UInt8) : hexL.getD (shr_u8 b 4).toNat 0 = hexD (b.toNat / 16) := by
  have := b.toNat_lt
  rw [shr_u8, UInt8.toNat_ofNat', Nat.mod_eq_of_lt (by omega)]; rfl
theorem and15_eq (b : UInt8) : hexL.getD (b &&& 15).toNat 0 = hexD (b.toNat % 16) := by
  rw [UInt8.toNat_and]
  have : b.toNat &&& (15 : UInt8).toNat = b.toNat % 16 := Nat.and_two_pow_sub_one_eq_mod b.toNat 4
  rw [this]; rfl
theorem hexV_succ (id : List UInt8) (g : Nat) (h : id.length = 32) (hg : g < 32) : hexV (id.take (g + 1)) = hexV (id.take g) ++ [hexD ((id.getD g 0).toNat / 16)] ++ [hexD ((id.getD g 0).toNat % 16)] := by
  have ht : id.take (g + 1) = id.take g ++ [id.getD g 0] := by
    rw [List.take_add_one]
    simp [List.getD_eq_getElem?_getD, h, hg]
  rw [ht]; simp [hexV, hexB]
theorem hex_one (n : Nat) (h : n < 16) : (hexL.take (n + 1)).drop n = [hexD n] := by
  have : ∀ i : Fin 16, (hexL.take (i.val + 1)).drop i.val = [hexD i.val] := by decide +kernel
  exact this ⟨n, h⟩

/-- What a text of 64 digits is the text of. -/
def bytesL (l : List UInt8) (n : Nat) : List UInt8 := (List.range n).map fun i => UInt8.ofInt (digitV (l.getD (2 * i) 0) * 16 + digitV (l.getD (2 * i + 1) 0))
def okHex (l : List UInt8) : Bool := l.length == 64 && l.all fun c => decide (0 ≤ digitV c)
def unhexV (l : List UInt8) : List UInt8 := if okHex l then bytesL l 32 else List.replicate 32 0
def bytesPre (l : List UInt8) (g : Nat) : List UInt8 := bytesL l g ++ List.replicate (32 - g) 0
theorem bytesPre_length (l : List UInt8) (g : Nat) (hg : g ≤ 32) : (bytesPre l g).length = 32 := by simp [bytesPre, bytesL]; omega
theorem bytesPre_succ (l : List UInt8) (g : Nat) (hg : g < 32) (x : UInt8) (hx : x = UInt8.ofInt (digitV (l.getD (2 * g) 0) * 16 + digitV (l.getD (2 * g + 1) 0))) : (bytesPre l g).set g x = bytesPre l (g + 1) := by
  have hr : List.replicate (32 - g) (0 : UInt8) = 0 :: List.replicate (32 - (g + 1)) 0 := by
    have : 32 - g = (32 - (g + 1)) + 1 := by omega
    rw [this]; rfl
  have hl : (bytesL l g).length = g := by simp [bytesL]
  have key : ∀ (p q : List UInt8) (a : UInt8), (p ++ a :: q).set p.length x = p ++ x :: q := by
    intro p q a
    induction p with
    | nil => rfl
    | cons c r ih => simp only [List.cons_append, List.length_cons, List.set_cons_succ, ih]
  unfold bytesPre
  rw [hr]
  have := key (bytesL l g) (List.replicate (32 - (g + 1)) 0) 0
  rw [hl] at this
  rw [this]
  simp [bytesL, List.range_succ, hx]
theorem digitV_bd (b : UInt8) : -1 ≤ digitV b ∧ digitV b ≤ 15 := by unfold digitV; repeat' split <;> omega
theorem okHex_no (l : List UInt8) (i : Nat) (hl : l.length = 64) (hi : i < 64) (h : digitV (l.getD i 0) < 0) : okHex l = false := by
  unfold okHex
  rw [Bool.and_eq_false_iff]
  right
  rw [Bool.eq_false_iff]
  intro ha
  rw [List.all_eq_true] at ha
  have hm : l.getD i 0 ∈ l := by
    rw [List.getD_eq_getElem?_getD, List.getElem?_eq_getElem (by omega)]
    exact List.getElem_mem _
  have := ha _ hm
  simp only [decide_eq_true_eq] at this
  omega
theorem okHex_yes (l : List UInt8) (hl : l.length = 64) (h : ∀ i, i < 64 → 0 ≤ digitV (l.getD i 0)) : okHex l = true := by
  unfold okHex
  rw [Bool.and_eq_true]
  refine ⟨by simp [hl], ?_⟩
  rw [List.all_eq_true]
  intro c hc
  obtain ⟨i, hi, rfl⟩ := List.mem_iff_getElem.1 hc
  have := h i (by omega)
  rw [List.getD_eq_getElem?_getD, List.getElem?_eq_getElem hi] at this
  simpa using this
theorem okHex_len (l : List UInt8) (hl : ¬ l.length = 64) : okHex l = false := by
  unfold okHex
  rw [Bool.and_eq_false_iff]
  left; simpa using hl
theorem nib (a b : Int) (ha : 0 ≤ a) (hb : 0 ≤ b) (hb' : b ≤ 15) : (((a * 16).toNat ||| b.toNat : Nat) : Int) = a * 16 + b := by
  obtain ⟨n, rfl⟩ := Int.eq_ofNat_of_zero_le ha
  obtain ⟨m, rfl⟩ := Int.eq_ofNat_of_zero_le hb
  have e : ((n : Int) * 16).toNat = n <<< 4 := by rw [Nat.shiftLeft_eq]; omega
  rw [e, Int.toNat_natCast, ← Nat.shiftLeft_add_eq_or_of_lt (by omega : m < 2 ^ 4), Nat.shiftLeft_eq]
  omega

/-! ### The document's reading of an id's text: digit by digit -/
def refB (l : List UInt8) (i k : Nat) : UInt8 :=
  if 2 * k + 1 < i then UInt8.ofInt (digitV (l.getD (2 * k) 0) * 16 + digitV (l.getD (2 * k + 1) 0)) else if 2 * k < i then UInt8.ofInt (digitV (l.getD (2 * k) 0)) else 0
def refPre (l : List UInt8) (i : Nat) : List UInt8 := (List.range 32).map (refB l i)
theorem refPre_length (l : List UInt8) (i : Nat) : (refPre l i).length = 32 := by simp [refPre]
theorem refPre_get (l : List UInt8) (i k : Nat) (hk : k < 32) : (refPre l i).getD k 0 = refB l i k := by
  simp [refPre, List.getD_eq_getElem?_getD, hk]
theorem ofInt_mul_add (a b : Int) : UInt8.ofInt a * 16 + UInt8.ofInt b = UInt8.ofInt (a * 16 + b) := by
  apply UInt8.toNat.inj
  have h : ∀ n : Int, ((UInt8.ofInt n).toNat : Int) = n % 256 := fun n => by
    rw [show UInt8.ofInt n = UInt8.ofNat (n % 2 ^ 8).toNat from rfl, UInt8.toNat_ofNat']; omega
  have h1 := h a; have h2 := h b; have h3 := h (a * 16 + b)
  rw [UInt8.toNat_add, UInt8.toNat_mul]
  have h16 : (16 : UInt8).toNat = 16 := rfl
  rw [h16]
  omega
theorem refPre_succ (l : List UInt8) (i : Nat) (hi : i < 64) :
    (refPre l i).set (i / 2) ((refPre l i).getD (i / 2) 0 * 16 + UInt8.ofInt (digitV (l.getD i 0))) = refPre l (i + 1) := by
  apply List.ext_getElem
  · simp [refPre]
  intro k hk1 hk2
  have hk : k < 32 := by simpa [refPre] using hk2
  have hg : ∀ n, (refPre l n)[k]'(by simpa [refPre] using hk) = refB l n k := fun n => by simp [refPre]
  rw [List.getElem_set]
  by_cases hik : i / 2 = k
  · rw [if_pos hik, hg, refPre_get l i (i / 2) (by omega), hik]
    unfold refB
    rcases Nat.mod_two_eq_zero_or_one i with h2 | h2
    · have hi2 : i = 2 * k := by omega
      subst hi2
      rw [if_neg (by omega), if_neg (by omega), if_neg (by omega), if_pos (by omega)]
      simp
    · have hi2 : i = 2 * k + 1 := by omega
      subst hi2
      rw [if_neg (by omega), if_pos (by omega), if_pos (by omega), ofInt_mul_add]
  · rw [if_neg hik, hg, hg]
    unfold refB
    by_cases h1 : 2 * k + 1 < i
    · rw [if_pos h1, if_pos (by omega)]
    · rw [if_neg h1, if_neg (by omega), if_neg (by omega), if_neg (by omega)]
theorem refPre_all (l : List UInt8) : refPre l 64 = bytesL l 32 := by
  unfold refPre bytesL
  apply List.map_congr_left
  intro k hk
  have := List.mem_range.1 hk
  unfold refB
  rw [if_pos (by omega)]
theorem refPre_zero (l : List UInt8) : refPre l 0 = List.replicate 32 0 := by
  apply List.ext_getElem
  · simp [refPre]
  intro k hk1 hk2
  simp only [refPre, List.getElem_map, List.getElem_range, List.getElem_replicate, refB]
  rw [if_neg (by omega), if_neg (by omega)]

/-! ### SHA-256 -/
def rgt (x : UInt32) (n : UInt64) : UInt32 := shr_u32 x n.toNat ||| shl_u32 x (32 - n).toNat
def rol (x : UInt32) (k : Int) : UInt32 := shl_u32 x (UInt64.ofInt k &&& 31).toNat ||| shr_u32 x (32 - (UInt64.ofInt k &&& 31)).toNat
def turnV (x : UInt32) (a b c : Int) : UInt32 := rol x (-a) ^^^ rol x (-b) ^^^ shr_u32 x c.toNat
def spinV (x : UInt32) (a b c : Int) : UInt32 := rol x (-a) ^^^ rol x (-b) ^^^ rol x (-c)
def S1 (e : UInt32) : UInt32 := rgt e 6 ^^^ rgt e 11 ^^^ rgt e 25
def S0 (a : UInt32) : UInt32 := rgt a 2 ^^^ rgt a 13 ^^^ rgt a 22
def s1 (y : UInt32) : UInt32 := rgt y 17 ^^^ rgt y 19 ^^^ shr_u32 y 10
def s0 (x : UInt32) : UInt32 := rgt x 7 ^^^ rgt x 18 ^^^ shr_u32 x 3
theorem rol6 (x : UInt32) : rol x (-6) = rgt x 6 := by unfold rol rgt; rw [UInt32.or_comm]; rfl
theorem rol11 (x : UInt32) : rol x (-11) = rgt x 11 := by unfold rol rgt; rw [UInt32.or_comm]; rfl
theorem rol25 (x : UInt32) : rol x (-25) = rgt x 25 := by unfold rol rgt; rw [UInt32.or_comm]; rfl
theorem rol2 (x : UInt32) : rol x (-2) = rgt x 2 := by unfold rol rgt; rw [UInt32.or_comm]; rfl
theorem rol13 (x : UInt32) : rol x (-13) = rgt x 13 := by unfold rol rgt; rw [UInt32.or_comm]; rfl
theorem rol22 (x : UInt32) : rol x (-22) = rgt x 22 := by unfold rol rgt; rw [UInt32.or_comm]; rfl
theorem rol17 (x : UInt32) : rol x (-17) = rgt x 17 := by unfold rol rgt; rw [UInt32.or_comm]; rfl
theorem rol19 (x : UInt32) : rol x (-19) = rgt x 19 := by unfold rol rgt; rw [UInt32.or_comm]; rfl
theorem rol7 (x : UInt32) : rol x (-7) = rgt x 7 := by unfold rol rgt; rw [UInt32.or_comm]; rfl
theorem rol18 (x : UInt32) : rol x (-18) = rgt x 18 := by unfold rol rgt; rw [UInt32.or_comm]; rfl
theorem spin1 (x : UInt32) : spinV x 6 11 25 = S1 x := by unfold spinV S1; rw [rol6, rol11, rol25]
theorem spin0 (x : UInt32) : spinV x 2 13 22 = S0 x := by unfold spinV S0; rw [rol2, rol13, rol22]
theorem turn1 (x : UInt32) : turnV x 17 19 10 = s1 x := by unfold turnV s1; rw [rol17, rol19]; rfl
theorem turn0 (x : UInt32) : turnV x 7 18 3 = s0 x := by unfold turnV s0; rw [rol7, rol18]; rfl

def kL : List UInt32 := [1116352408, 1899447441, 3049323471, 3921009573, 961987163, 1508970993, 2453635748, 2870763221, 3624381080, 310598401, 607225278, 1426881987, 1925078388, 2162078206, 2614888103, 3248222580, 3835390401, 4022224774, 264347078, 604807628, 770255983, 1249150122, 1555081692, 1996064986, 2554220882, 2821834349, 2952996808, 3210313671, 3336571891, 3584528711, 113926993, 338241895, 666307205, 773529912, 1294757372, 1396182291, 1695183700, 1986661051, 2177026350, 2456956037, 2730485921, 2820302411, 3259730800, 3345764771, 3516065817, 3600352804, 4094571909, 275423344, 430227734, 506948616, 659060556, 883997877, 958139571, 1322822218, 1537002063, 1747873779, 1955562222, 2024104815, 2227730452, 2361852424, 2428436474, 2756734187, 3204031479, 3329325298]
def initL : List UInt32 := [1779033703, 3144134277, 1013904242, 2773480762, 1359893119, 2600822924, 528734635, 1541459225]

/-- The word of four bytes, as the document says. -/
def wordR (b : List UInt8) (i : Nat) : UInt32 :=
  UInt32.ofNat (b.getD (4 * i) 0).toNat * 16777216 + UInt32.ofNat (b.getD (4 * i + 1) 0).toNat * 65536 + UInt32.ofNat (b.getD (4 * i + 2) 0).toNat * 256 + UInt32.ofNat (b.getD (4 * i + 3) 0).toNat
def wPre (b : List UInt8) (i : Nat) : List UInt32 := (List.range 64).map fun j => if j < i then wordR b j else 0
theorem wPre_length (b : List UInt8) (i : Nat) : (wPre b i).length = 64 := by simp [wPre]
theorem wPre_succ (b : List UInt8) (i : Nat) : (wPre b i).set i (wordR b i) = wPre b (i + 1) := by
  apply List.ext_getElem
  · simp [wPre]
  intro k hk1 hk2
  have hk : k < 64 := by simpa [wPre] using hk2
  rw [List.getElem_set]
  by_cases h : i = k
  · subst h; simp [wPre]
  · rw [if_neg h]
    simp only [wPre, List.getElem_map, List.getElem_range]
    by_cases h1 : k < i
    · rw [if_pos h1, if_pos (by omega)]
    · rw [if_neg h1, if_neg (by omega)]
theorem wPre_zero (b : List UInt8) : wPre b 0 = List.replicate 64 0 := by
  apply List.ext_getElem
  · simp [wPre]
  intro k hk1 hk2
  simp only [wPre, List.getElem_map, List.getElem_range, List.getElem_replicate]
  rw [if_neg (by omega)]
/-- The words from 16 on. -/
def wStep (w : List UInt32) (g : Nat) : List UInt32 := w.set g (s1 (w.getD (g - 2) 0) + w.getD (g - 7) 0 + s0 (w.getD (g - 15) 0) + w.getD (g - 16) 0)
def wGo (w : List UInt32) : Nat → List UInt32
  | 0 => w
  | n + 1 => wStep (wGo w n) (16 + n)
theorem wGo_length (w : List UInt32) (n : Nat) : (wGo w n).length = w.length := by
  induction n with
  | zero => rfl
  | succ n ih => simp [wGo, wStep, ih]
def wAll (b : List UInt8) : List UInt32 := wGo (wPre b 16) 48
theorem wAll_length (b : List UInt8) : (wAll b).length = 64 := by rw [wAll, wGo_length, wPre_length]

def rStep (s : List UInt32) (k w : UInt32) : List UInt32 :=
  let t := s.getD 7 0 + S1 (s.getD 4 0) + (s.getD 4 0 &&& s.getD 5 0 ||| ~~~ s.getD 4 0 &&& s.getD 6 0) + k + w
  let u := S0 (s.getD 0 0) + (s.getD 0 0 &&& s.getD 1 0 ||| s.getD 0 0 &&& s.getD 2 0 ||| s.getD 1 0 &&& s.getD 2 0)
  [t + u, s.getD 0 0, s.getD 1 0, s.getD 2 0, s.getD 3 0 + t, s.getD 4 0, s.getD 5 0, s.getD 6 0]
def rGo (st w : List UInt32) : Nat → List UInt32
  | 0 => st
  | n + 1 => rStep (rGo st w n) (kL.getD n 0) (w.getD n 0)
theorem rGo_length (st w : List UInt32) (n : Nat) (h : st.length = 8) : (rGo st w n).length = 8 := by
  cases n with
  | zero => exact h
  | succ n => rfl
def addPre (st s : List UInt32) (i : Nat) : List UInt32 := (List.range 8).map fun j => if j < i then st.getD j 0 + s.getD j 0 else st.getD j 0
theorem addPre_length (st s : List UInt32) (i : Nat) : (addPre st s i).length = 8 := by simp [addPre]
theorem addPre_get (st s : List UInt32) (i j : Nat) (hj : j < 8) : (addPre st s i).getD j 0 = if j < i then st.getD j 0 + s.getD j 0 else st.getD j 0 := by
  simp [addPre, List.getD_eq_getElem?_getD, hj]
theorem addPre_succ (st s : List UInt32) (i : Nat) : (addPre st s i).set i (st.getD i 0 + s.getD i 0) = addPre st s (i + 1) := by
  apply List.ext_getElem
  · simp [addPre]
  intro k hk1 hk2
  rw [List.getElem_set]
  by_cases h : i = k
  · subst h; simp [addPre]
  · rw [if_neg h]
    simp only [addPre, List.getElem_map, List.getElem_range]
    by_cases h1 : k < i
    · rw [if_pos h1, if_pos (by omega)]
    · rw [if_neg h1, if_neg (by omega)]
theorem addPre_zero (st s : List UInt32) (h : st.length = 8) : addPre st s 0 = st := by
  apply List.ext_getElem
  · simp [addPre, h]
  intro k hk1 hk2
  simp [addPre, List.getD_eq_getElem?_getD, hk2]
/-- The state behind a block. -/
def comp (st : List UInt32) (b : List UInt8) : List UInt32 := addPre st (rGo st (wAll b) 64) 8
theorem comp_length (st : List UInt32) (b : List UInt8) : (comp st b).length = 8 := addPre_length _ _ _
/-- The state behind n blocks. -/
def comps (st : List UInt32) (m : List UInt8) : Nat → List UInt32
  | 0 => st
  | n + 1 => comp (comps st m n) ((m.drop (64 * n)).take 64)
theorem comps_length (st : List UInt32) (m : List UInt8) (n : Nat) (h : st.length = 8) : (comps st m n).length = 8 := by
  cases n with
  | zero => exact h
  | succ n => exact comp_length _ _
theorem comps_append (st : List UInt32) (m x : List UInt8) (n : Nat) (h : 64 * n ≤ m.length) : comps st (m ++ x) n = comps st m n := by
  induction n with
  | zero => rfl
  | succ n ih =>
    simp only [comps]
    rw [ih (by omega), List.drop_append_of_le_length (by omega), List.take_append_of_le_length (by simp; omega)]

/-! ### A hash in memory -/
def hashL (bg : Bool) (st : List UInt32) (rest : List UInt8) (many : Int) (taken : UInt64) : List Value :=
  .bool bg :: (st.map (fun x => Value.int .u32 (x.toNat : Int)) ++ (rest.map (fun x => Value.int .u8 (x.toNat : Int)) ++ [vi many, v64 taken]))
def hashC (bg : Bool) (st : List UInt32) (rest : List UInt8) (many : Int) (taken : UInt64) : Array Value := (hashL bg st rest many taken).toArray
section
variable {bg : Bool} {st : List UInt32} {rest : List UInt8} {many : Int} {taken : UInt64} {E : TypeId}
theorem hash_size (h : st.length = 8 ∧ rest.length = 64) : (hashC bg st rest many taken).size = 75 := by simp [hashC, hashL, h]
theorem hash_get0 : (hashC bg st rest many taken)[0]? = some (.bool bg) := rfl
theorem hash_getS (k : Nat) (hk : k < 8) (h : st.length = 8) : (hashC bg st rest many taken)[1 + k]? = some (v32 (st.getD k 0)) := by
  have : 1 + k = k + 1 := by omega
  rw [this, hashC, List.getElem?_toArray, hashL, List.getElem?_cons_succ, List.getElem?_append_left (by simp; omega)]
  simp [v32, List.getD_eq_getElem?_getD, h, hk]
theorem hash_getR (k : Nat) (hk : k < 64) (h : st.length = 8 ∧ rest.length = 64) : (hashC bg st rest many taken)[9 + k]? = some (v8 (rest.getD k 0)) := by
  have : 9 + k = (8 + k) + 1 := by omega
  rw [this, hashC, List.getElem?_toArray, hashL, List.getElem?_cons_succ, List.getElem?_append_right (by simp; omega), List.getElem?_append_left (by simp; omega)]
  have e : 8 + k - (List.map (fun x : UInt32 => Value.int .u32 (x.toNat : Int)) st).length = k := by simp; omega
  rw [e]
  simp [v8, List.getD_eq_getElem?_getD, h, hk]
theorem hash_getM (h : st.length = 8 ∧ rest.length = 64) : (hashC bg st rest many taken)[73]? = some (vi many) := by
  rw [hashC, List.getElem?_toArray, hashL, List.getElem?_cons_succ, List.getElem?_append_right (by simp; omega), List.getElem?_append_right (by simp; omega)]
  simp [h]
theorem hash_getT (h : st.length = 8 ∧ rest.length = 64) : (hashC bg st rest many taken)[74]? = some (v64 taken) := by
  rw [hashC, List.getElem?_toArray, hashL, List.getElem?_cons_succ, List.getElem?_append_right (by simp; omega), List.getElem?_append_right (by simp; omega)]
  simp [h]
theorem load_hash0 (n : Nat) : loadV (some (false, n)) (some (.cells (hashC bg st rest many taken) E (0, 0))) 0 = some (.bool bg) := hash_get0
theorem load_hashS (n k : Nat) (h : k < 8 ∧ st.length = 8) : loadV (some (false, n)) (some (.cells (hashC bg st rest many taken) E (0, 0))) (1 + k) = some (v32 (st.getD k 0)) := hash_getS k h.1 h.2
theorem load_hashR (n k : Nat) (h : k < 64 ∧ st.length = 8 ∧ rest.length = 64) : loadV (some (false, n)) (some (.cells (hashC bg st rest many taken) E (0, 0))) (9 + k) = some (v8 (rest.getD k 0)) := hash_getR k h.1 h.2
theorem load_hashR2 (n j k : Nat) (h : j + k < 64 ∧ st.length = 8 ∧ rest.length = 64) : loadV (some (false, n)) (some (.cells (hashC bg st rest many taken) E (0, 0))) (9 + j + k) = some (v8 (rest.getD (j + k) 0)) := by
  rw [Nat.add_assoc]; exact hash_getR (j + k) h.1 h.2
theorem load_hashM (n : Nat) (h : st.length = 8 ∧ rest.length = 64) : loadV (some (false, n)) (some (.cells (hashC bg st rest many taken) E (0, 0))) 73 = some (vi many) := hash_getM h
theorem load_hashT (n : Nat) (h : st.length = 8 ∧ rest.length = 64) : loadV (some (false, n)) (some (.cells (hashC bg st rest many taken) E (0, 0))) 74 = some (v64 taken) := hash_getT h
theorem load_hashSt (h : st.length = 8 ∧ rest.length = 64) : loadV (some (true, 8)) (some (.cells (hashC bg st rest many taken) E (0, 0))) 1 = some (.agg (a32 st)) := by
  have hs : 1 + 8 ≤ (hashC bg st rest many taken).size := by rw [hash_size h]; omega
  simp only [loadV, hs, ↓reduceIte]
  congr 2
  rw [hashC, a32, hashL]
  simp only [List.extract_toArray, List.extract_eq_take_drop]
  congr 1
  simp [h]
theorem load_hashAll (h : st.length = 8 ∧ rest.length = 64) : loadV (some (true, 75)) (some (.cells (hashC bg st rest many taken) E (0, 0))) 0 = some (.agg (hashC bg st rest many taken)) := load_all _ _ _ _ (hash_size h)
theorem one_hash : (hashC bg st rest many taken).toList.all Value.oneCell' = true := by
  simp [hashC, hashL, Value.oneCell', vi, v64]
theorem store_hashAll (old : Array Value) (h : st.length = 8 ∧ rest.length = 64 ∧ old.size = 75) : storeV (some (true, 75)) (some (.cells old E (0, 0))) 0 (.agg (hashC bg st rest many taken)) = some (.cells (hashC bg st rest many taken) E (0, 0)) :=
  store_all _ _ _ _ _ ⟨hash_size ⟨h.1, h.2.1⟩, h.2.2⟩ one_hash
theorem setL_hash (i : Nat) (v : Value) : (hashC bg st rest many taken).setIfInBounds i v = ((hashL bg st rest many taken).set i v).toArray := by simp [hashC]
theorem store_hash0 (b : Bool) (h : st.length = 8 ∧ rest.length = 64) : storeV (some (false, 1)) (some (.cells (hashC bg st rest many taken) E (0, 0))) 0 (.bool b) = some (.cells (hashC b st rest many taken) E (0, 0)) := by
  rw [store_one _ _ _ _ _ (by rw [hash_size h]; omega) rfl rfl, setL_hash]; rfl
theorem store_hashS (k : Nat) (x : UInt32) (h : k < 8 ∧ st.length = 8 ∧ rest.length = 64) : storeV (some (false, 1)) (some (.cells (hashC bg st rest many taken) E (0, 0))) (1 + k) (v32 x) = some (.cells (hashC bg (st.set k x) rest many taken) E (0, 0)) := by
  have e : 1 + k = k + 1 := by omega
  rw [store_one _ _ _ _ _ (by rw [hash_size h.2]; omega) rfl rfl, setL_hash, e, hashL, List.set_cons_succ, List.set_append_left _ _ (by simp; omega)]
  simp only [hashC, hashL, List.map_set]; rfl
theorem store_hashR (k : Nat) (x : UInt8) (h : k < 64 ∧ st.length = 8 ∧ rest.length = 64) : storeV (some (false, 1)) (some (.cells (hashC bg st rest many taken) E (0, 0))) (9 + k) (v8 x) = some (.cells (hashC bg st (rest.set k x) many taken) E (0, 0)) := by
  have e : 9 + k = (8 + k) + 1 := by omega
  rw [store_one _ _ _ _ _ (by rw [hash_size h.2]; omega) rfl rfl, setL_hash, e, hashL, List.set_cons_succ, List.set_append_right _ _ (by simp; omega), List.set_append_left _ _ (by simp; omega)]
  have e2 : 8 + k - (List.map (fun x : UInt32 => Value.int .u32 (x.toNat : Int)) st).length = k := by simp; omega
  rw [e2]
  simp only [hashC, hashL, List.map_set]; rfl
theorem store_hashM (m : Int) (h : st.length = 8 ∧ rest.length = 64) : storeV (some (false, 1)) (some (.cells (hashC bg st rest many taken) E (0, 0))) 73 (vi m) = some (.cells (hashC bg st rest m taken) E (0, 0)) := by
  rw [store_one _ _ _ _ _ (by rw [hash_size h]; omega) rfl rfl, setL_hash, hashL, List.set_cons_succ, List.set_append_right _ _ (by simp; omega), List.set_append_right _ _ (by simp; omega)]
  simp [hashC, hashL, h]
theorem store_hashT (t : UInt64) (h : st.length = 8 ∧ rest.length = 64) : storeV (some (false, 1)) (some (.cells (hashC bg st rest many taken) E (0, 0))) 74 (v64 t) = some (.cells (hashC bg st rest many t) E (0, 0)) := by
  rw [store_one _ _ _ _ _ (by rw [hash_size h]; omega) rfl rfl, setL_hash, hashL, List.set_cons_succ, List.set_append_right _ _ (by simp; omega), List.set_append_right _ _ (by simp; omega)]
  simp [hashC, hashL, h]
theorem store_hashSt (st' : List UInt32) (h : st.length = 8 ∧ rest.length = 64 ∧ st'.length = 8) : storeV (some (true, 8)) (some (.cells (hashC bg st rest many taken) E (0, 0))) 1 (.agg (a32 st')) = some (.cells (hashC bg st' rest many taken) E (0, 0)) := by
  have hs : 1 + 8 ≤ (hashC bg st rest many taken).size := by rw [hash_size ⟨h.1, h.2.1⟩]; omega
  have hp : putC (hashC bg st rest many taken) 1 (a32 st').toList = hashC bg st' rest many taken := by
    have := putC_eq (a32 st').toList [.bool bg] (st.map fun x => Value.int .u32 (x.toNat : Int)) (rest.map (fun x => Value.int .u8 (x.toNat : Int)) ++ [vi many, v64 taken]) (by simp [a32, h])
    simpa [hashC, hashL, a32] using this
  have h1 : (a32 st').size = 8 := by rw [size_a32]; exact h.2.2
  simp only [storeV, cells_agg, h1, hs, Nat.le_refl, true_or, all_a32, and_self, ↓reduceIte, hp]
end

/-! ### Words, byte by byte -/
def acc (b : List UInt8) (i : Nat) : Nat → UInt32
  | 0 => 0
  | k + 1 => shl_u32 (acc b i k) 8 ||| UInt32.ofNat (b.getD (4 * i + k) 0).toNat
theorem acc_step (x : UInt32) (c : UInt8) (h : x.toNat < 16777216) : (shl_u32 x 8 ||| UInt32.ofNat c.toNat).toNat = x.toNat * 256 + c.toNat := by
  have hc := c.toNat_lt
  rw [UInt32.toNat_or, shl_u32, UInt32.toNat_ofNat', UInt32.toNat_ofNat', Nat.mod_eq_of_lt (by omega), Nat.mod_eq_of_lt (by omega), ← Nat.shiftLeft_eq, ← Nat.shiftLeft_add_eq_or_of_lt (by omega : c.toNat < 2 ^ 8), Nat.shiftLeft_eq]
theorem acc_four (b : List UInt8) (i : Nat) : acc b i 4 = wordR b i := by
  have h0 := (b.getD (4 * i) 0).toNat_lt
  have h1 := (b.getD (4 * i + 1) 0).toNat_lt
  have h2 := (b.getD (4 * i + 2) 0).toNat_lt
  have h3 := (b.getD (4 * i + 3) 0).toNat_lt
  have e1 : (acc b i 1).toNat = (b.getD (4 * i) 0).toNat := by
    have := acc_step 0 (b.getD (4 * i + 0) 0) (by decide)
    simpa [acc] using this
  have l1 : (acc b i 1).toNat < 16777216 := by omega
  have e2 : (acc b i 2).toNat = (acc b i 1).toNat * 256 + (b.getD (4 * i + 1) 0).toNat := acc_step _ _ l1
  have l2 : (acc b i 2).toNat < 16777216 := by omega
  have e3 : (acc b i 3).toNat = (acc b i 2).toNat * 256 + (b.getD (4 * i + 2) 0).toNat := acc_step _ _ l2
  have l3 : (acc b i 3).toNat < 16777216 := by omega
  have e4 : (acc b i 4).toNat = (acc b i 3).toNat * 256 + (b.getD (4 * i + 3) 0).toNat := acc_step _ _ l3
  apply UInt32.toNat.inj
  rw [e4, e3, e2, e1]
  unfold wordR
  simp only [UInt32.toNat_add, UInt32.toNat_mul, UInt32.toNat_ofNat']
  have k1 : (16777216 : UInt32).toNat = 16777216 := rfl
  have k2 : (65536 : UInt32).toNat = 65536 := rfl
  have k3 : (256 : UInt32).toNat = 256 := rfl
  rw [k1, k2, k3]
  omega
theorem wPre_set0 (b : List UInt8) (g : Nat) : wPre b g = (wPre b g).set g (acc b g 0) := by
  apply List.ext_getElem
  · simp
  intro k hk1 hk2
  rw [List.getElem_set]
  by_cases h : g = k
  · subst h; simp [wPre, acc]
  · rw [if_neg h]
theorem getD_set_same {α : Type} (l : List α) (i : Nat) (x d : α) (h : i < l.length) : (l.set i x).getD i d = x := by
  simp [List.getD_eq_getElem?_getD, h]

def wG (b : List UInt8) (g : Nat) : List UInt32 := wGo (wPre b 16) (g - 16)
theorem wG_length (b : List UInt8) (g : Nat) : (wG b g).length = 64 := by rw [wG, wGo_length, wPre_length]
theorem wG_succ (b : List UInt8) (g : Nat) (h : 16 ≤ g) : wG b (g + 1) = wStep (wG b g) g := by
  unfold wG
  have : g + 1 - 16 = (g - 16) + 1 := by omega
  rw [this]
  show wStep _ (16 + (g - 16)) = _
  rw [show 16 + (g - 16) = g from by omega]
theorem wG_all (b : List UInt8) : wG b 64 = wAll b := rfl
theorem wG_start (b : List UInt8) : wPre b 16 = wG b 16 := rfl

theorem ch_xor (a b c : UInt32) : (a &&& b ^^^ ~~~a &&& c) = (a &&& b ||| ~~~a &&& c) := by
  apply UInt32.toBitVec_inj.1
  simp only [UInt32.toBitVec_xor, UInt32.toBitVec_or, UInt32.toBitVec_and, UInt32.toBitVec_not]
  ext i hi
  simp only [BitVec.getElem_xor, BitVec.getElem_or, BitVec.getElem_and, BitVec.getElem_not]
  cases a.toBitVec[i] <;> simp
theorem maj_xor (a b c : UInt32) : (a &&& b ^^^ a &&& c ^^^ b &&& c) = (a &&& b ||| a &&& c ||| b &&& c) := by
  apply UInt32.toBitVec_inj.1
  simp only [UInt32.toBitVec_xor, UInt32.toBitVec_or, UInt32.toBitVec_and]
  ext i hi
  simp only [BitVec.getElem_xor, BitVec.getElem_or, BitVec.getElem_and]
  cases a.toBitVec[i] <;> cases b.toBitVec[i] <;> simp
/-- What the program knows of its tables. -/
def Glob (w : World) : Prop := ∃ e0 e1 f0 f1, w.heap[0]? = some (.cells (a32 initL) e0 f0) ∧ w.heap[1]? = some (.cells (a32 kL) e1 f1)
theorem Glob.of {w0 w : World} {L : Heap} (hg : Glob w0) (h : Hp w0 L w) (hk : ∀ b, b ∈ keys L → 1 < b) : Glob w := by
  obtain ⟨e0, e1, f0, f1, h0, h1⟩ := hg
  refine ⟨e0, e1, f0, f1, ?_, ?_⟩
  · rw [h.old 0 (Array.getElem?_eq_some_iff.1 h0).1 (fun hm => by have := hk 0 hm; omega)]; exact h0
  · rw [h.old 1 (Array.getElem?_eq_some_iff.1 h1).1 (fun hm => by have := hk 1 hm; omega)]; exact h1

/-! ### A hash that takes bytes -/
structure Hs where
  st : List UInt32
  rest : List UInt8
  many : Nat
structure Hs.Ok (s : Hs) : Prop where
  st : s.st.length = 8
  rest : s.rest.length = 64
  many : s.many < 64
def hput (s : Hs) (x : UInt8) : Hs :=
  if s.many + 1 = 64 then ⟨comp s.st (s.rest.set s.many x), s.rest.set s.many x, 0⟩ else ⟨s.st, s.rest.set s.many x, s.many + 1⟩
theorem hput_ok {s : Hs} (x : UInt8) (h : s.Ok) : (hput s x).Ok := by
  unfold hput
  split
  · exact ⟨comp_length _ _, by simp [h.rest], by show (0 : Nat) < 64; omega⟩
  · exact ⟨h.st, by simp [h.rest], by show s.many + 1 < 64; have := h.many; omega⟩
def hputs (s : Hs) (l : List UInt8) : Hs := l.foldl hput s
theorem hputs_ok {s : Hs} (l : List UInt8) (h : s.Ok) : (hputs s l).Ok := by
  induction l generalizing s with
  | nil => exact h
  | cons x r ih => exact ih (hput_ok x h)
theorem hputs_append (s : Hs) (a b : List UInt8) : hputs s (a ++ b) = hputs (hputs s a) b := List.foldl_append
theorem take_succ_getD {α : Type} (l : List α) (g : Nat) (d : α) (h : g < l.length) : l.take (g + 1) = l.take g ++ [l.getD g d] := by
  rw [List.take_add_one]
  simp [List.getD_eq_getElem?_getD, h]
theorem hputs_succ (s : Hs) (l : List UInt8) (g : Nat) (h : g < l.length) : hputs s (l.take (g + 1)) = hput (hputs s (l.take g)) (l.getD g 0) := by
  rw [take_succ_getD l g 0 h, hputs_append]; rfl
/-- The hash before the first byte. -/
def hbegin (bg : Bool) (s : Hs) : Hs := if bg then s else { s with st := initL }
theorem hbegin_ok {s : Hs} (bg : Bool) (h : s.Ok) : (hbegin bg s).Ok := by
  unfold hbegin; split
  · exact h
  · exact ⟨rfl, h.rest, h.many⟩
def hashH (s : Hs) (taken : UInt64) : Array Value := hashC true s.st s.rest s.many taken
def takenL (t : UInt64) (l : List (List UInt8)) : UInt64 := l.foldl (fun t a => t + UInt64.ofNat a.length) t
theorem takenL_succ (t : UInt64) (l : List (List UInt8)) (g : Nat) (h : g < l.length) : takenL t (l.take (g + 1)) = takenL t (l.take g) + UInt64.ofNat (l.getD g []).length := by
  rw [take_succ_getD l g [] h, takenL, List.foldl_append]; rfl
theorem flatten_succ (l : List (List UInt8)) (g : Nat) (h : g < l.length) : (l.take (g + 1)).flatten = (l.take g).flatten ++ l.getD g [] := by
  rw [take_succ_getD l g [] h, List.flatten_append]; simp
theorem loadV_one (cs : Array Value) (E : TypeId) (fz : Nat × Nat) (n i : Nat) : loadV (some (false, n)) (some (.cells cs E fz)) i = cs[i]? := (rfl)
/-- A slice of texts in a world. -/
structure Strs (w : World) (v : Value) (l : List (List UInt8)) : Prop where
  nil_or : (l = [] ∧ v = .slice none 0 0) ∨ ∃ b off c arr E fz, v = vsl b off l.length c ∧ w.heap[b]? = some (.cells arr E fz) ∧ ∀ i, i < l.length → arr[off + i]? = some (vs (l.getD i []))
end Go.Dig
