/-
  The padding and the bytes of the digest: plain functions on lists, no program in sight.
  No conditions.
-/
import Derived.Test.YtbmfinobafcmiaaDoorDigP
namespace Go.Dig
open Go.Sx
/-- The places that are filled with noughts. -/
def zeros (m : Nat) : Nat := (120 - m) % 64
def lenB (t : UInt64) (g : Nat) : UInt8 := UInt8.ofNat (shr_u64 (8 * t) (56 - 8 * g)).toNat
def len8 (t : UInt64) : List UInt8 := (List.range 8).map (lenB t)
def outB (st : List UInt32) (j : Nat) : UInt8 := UInt8.ofNat (shr_u32 (st.getD (j / 4) 0) (24 - 8 * (j % 4))).toNat
def outPre (st : List UInt32) (k : Nat) : List UInt8 := (List.range 32).map fun j => if j < k then outB st j else 0
def padded (s : Hs) (taken : UInt64) : Hs := hputs (hputs (hput s 128) (List.replicate (zeros (hput s 128).many) 0)) (len8 taken)
def hsum (s : Hs) (taken : UInt64) : List UInt8 := outPre (padded s taken).st 32
def H0 : Hs := ⟨initL, List.replicate 64 0, 0⟩
theorem H0_ok : H0.Ok := ⟨rfl, by simp [H0], by show (0 : Nat) < 64; omega⟩
def sumV (l : List (List UInt8)) : List UInt8 := hsum (hputs H0 l.flatten) (takenL 0 l)
theorem hput_many {s : Hs} (x : UInt8) (h : s.Ok) : (hput s x).many = (s.many + 1) % 64 := by
  have := h.many
  unfold hput
  split
  · show 0 = _; omega
  · show s.many + 1 = _; omega
theorem hputs_many {s : Hs} (l : List UInt8) (h : s.Ok) : (hputs s l).many = (s.many + l.length) % 64 := by
  induction l generalizing s with
  | nil => have := h.many; show s.many = _; simp; omega
  | cons x r ih =>
    show (hputs (hput s x) r).many = _
    rw [ih (hput_ok x h), hput_many x h, List.length_cons]; omega
theorem hputs_rep (s : Hs) (x : UInt8) (j : Nat) : hputs s (List.replicate (j + 1) x) = hput (hputs s (List.replicate j x)) x := by
  rw [List.replicate_succ', hputs_append]; rfl
theorem outPre_length (st : List UInt32) (k : Nat) : (outPre st k).length = 32 := by simp [outPre]
theorem outPre_zero (st : List UInt32) : outPre st 0 = List.replicate 32 0 := by
  apply List.ext_getElem
  · simp [outPre]
  intro k hk1 hk2
  simp only [outPre, List.getElem_map, List.getElem_range, List.getElem_replicate]
  rw [if_neg (by omega)]
theorem outPre_succ (st : List UInt32) (k : Nat) : (outPre st k).set k (outB st k) = outPre st (k + 1) := by
  apply List.ext_getElem
  · simp [outPre]
  intro j hk1 hk2
  rw [List.getElem_set]
  by_cases h : k = j
  · subst h; simp [outPre]
  · rw [if_neg h]
    simp only [outPre, List.getElem_map, List.getElem_range]
    by_cases h1 : j < k
    · rw [if_pos h1, if_pos (by omega)]
    · rw [if_neg h1, if_neg (by omega)]
theorem outB_at (st : List UInt32) (i r : Nat) (h : r < 4) : outB st (4 * i + r) = UInt8.ofNat (shr_u32 (st.getD i 0) (24 - 8 * r)).toNat := by
  unfold outB
  rw [show (4 * i + r) / 4 = i by omega, show (4 * i + r) % 4 = r by omega]
theorem shr_u32_zero (x : UInt32) : shr_u32 x 0 = x := by
  apply UInt32.toNat.inj
  have := x.toNat_lt
  rw [shr_u32, UInt32.toNat_ofNat']
  simp
theorem outPre_four (st : List UInt32) (i : Nat) :
    ((((outPre st (4 * i)).set (4 * i) (UInt8.ofNat (shr_u32 (st.getD i 0) 24).toNat)).set (4 * i + 1) (UInt8.ofNat (shr_u32 (st.getD i 0) 16).toNat)).set (4 * i + 2) (UInt8.ofNat (shr_u32 (st.getD i 0) 8).toNat)).set (4 * i + 3) (UInt8.ofNat (st.getD i 0).toNat) = outPre st (4 * (i + 1)) := by
  have h0 := outB_at st i 0 (by omega)
  have h1 := outB_at st i 1 (by omega)
  have h2 := outB_at st i 2 (by omega)
  have h3 := outB_at st i 3 (by omega)
  rw [Nat.add_zero] at h0
  rw [show 24 - 8 * 3 = 0 from rfl, shr_u32_zero] at h3
  rw [← h3, ← h2, ← h1, ← h0, outPre_succ, outPre_succ, outPre_succ, outPre_succ]
  rw [show 4 * (i + 1) = 4 * i + 1 + 1 + 1 + 1 by omega]
theorem len8_length (t : UInt64) : (len8 t).length = 8 := by simp [len8]
theorem len8_getD (t : UInt64) (g : Nat) (h : g < 8) : (len8 t).getD g 0 = lenB t g := by simp [len8, List.getD_eq_getElem?_getD, h]
end Go.Dig
