/-
  The document's digest: plain functions on lists, no program in sight.
  No conditions.
-/
import Derived.Test.YtbmfinobafcmiaaDoorDigQ
namespace Go.Dig
open Go.Sx
/-- The bits' number, cut byte by byte. -/
def quoN (t : UInt64) : Nat → UInt64
  | 0 => t
  | n + 1 => quoN t n / 256
theorem quoN_toNat (t : UInt64) (n : Nat) : (quoN t n).toNat = t.toNat / 256 ^ n := by
  induction n with
  | zero => simp [quoN]
  | succ n ih =>
    show (quoN t n / 256).toNat = _
    rw [UInt64.toNat_div, ih, Nat.pow_succ, Nat.div_div_eq_div_mul]; rfl
def lenBB (t : UInt64) (j : Nat) : UInt8 := UInt8.ofNat (shr_u64 t (56 - 8 * j)).toNat
theorem lenBB_eq (t : UInt64) (i : Nat) (h : i < 8) : UInt8.ofNat (quoN t i % 256).toNat = lenBB t (7 - i) := by
  apply UInt8.toNat.inj
  unfold lenBB
  rw [UInt8.toNat_ofNat', UInt8.toNat_ofNat', UInt64.toNat_mod, quoN_toNat, shr_u64, UInt64.toNat_ofNat']
  have e : 56 - 8 * (7 - i) = 8 * i := by omega
  have ht := t.toNat_lt
  have hd : t.toNat / 2 ^ (8 * i) ≤ t.toNat := Nat.div_le_self _ _
  rw [e, Nat.mod_eq_of_lt (a := t.toNat / 2 ^ (8 * i)) (by omega)]
  have e2 : 256 ^ i = 2 ^ (8 * i) := by rw [Nat.pow_mul]
  rw [e2, show (256 : UInt64).toNat = 256 from rfl]
  omega
def tailPre (t : UInt64) (i : Nat) : List UInt8 := (List.range 8).map fun j => if 8 ≤ j + i then lenBB t j else 0
theorem tailPre_length (t : UInt64) (i : Nat) : (tailPre t i).length = 8 := by simp [tailPre]
theorem tailPre_zero (t : UInt64) : tailPre t 0 = List.replicate 8 0 := by
  apply List.ext_getElem
  · simp [tailPre]
  intro k hk1 hk2
  have : k < 8 := by simpa [tailPre] using hk1
  simp only [tailPre, List.getElem_map, List.getElem_range, List.getElem_replicate]
  rw [if_neg (by omega)]
theorem tailPre_succ (t : UInt64) (i : Nat) (h : i < 8) : (tailPre t i).set (7 - i) (UInt8.ofNat (quoN t i % 256).toNat) = tailPre t (i + 1) := by
  rw [lenBB_eq t i h]
  apply List.ext_getElem
  · simp [tailPre]
  intro j hj1 hj2
  have hj : j < 8 := by simpa [tailPre] using hj2
  rw [List.getElem_set]
  by_cases h1 : 7 - i = j
  · rw [if_pos h1]
    simp only [tailPre, List.getElem_map, List.getElem_range]
    rw [if_pos (by omega), h1]
  · rw [if_neg h1]
    simp only [tailPre, List.getElem_map, List.getElem_range]
    by_cases h2 : 8 ≤ j + i
    · rw [if_pos h2, if_pos (by omega)]
    · rw [if_neg h2, if_neg (by omega)]
theorem tailPre_all (t : UInt64) : tailPre (8 * t) 8 = len8 t := by
  unfold tailPre len8
  apply List.map_congr_left
  intro j hj
  rw [if_pos (by omega)]; rfl
/-- The text that the document cuts into blocks. -/
def padR (m : List UInt8) : List UInt8 := m ++ [128] ++ List.replicate (zeros ((m.length + 1) % 64)) 0 ++ len8 (UInt64.ofNat m.length)
theorem zeros_spec (n : Nat) : (n + zeros (n % 64)) % 64 = 56 ∧ zeros (n % 64) < 64 := by unfold zeros; omega
theorem padR_length (m : List UInt8) : (padR m).length % 64 = 0 ∧ (padR m).length ≤ m.length + 72 := by
  have := zeros_spec (m.length + 1)
  simp only [padR, List.length_append, List.length_replicate, len8_length, List.length_cons, List.length_nil]
  omega
/-- The document's digest. -/
def shaR (m : List UInt8) : List UInt8 := outPre (comps initL (padR m) ((padR m).length / 64)) 32
theorem addPre_all (st s : List UInt32) : addPre st s 8 = [st.getD 0 0 + s.getD 0 0, st.getD 1 0 + s.getD 1 0, st.getD 2 0 + s.getD 2 0, st.getD 3 0 + s.getD 3 0, st.getD 4 0 + s.getD 4 0, st.getD 5 0 + s.getD 5 0, st.getD 6 0 + s.getD 6 0, st.getD 7 0 + s.getD 7 0] := rfl
end Go.Dig
