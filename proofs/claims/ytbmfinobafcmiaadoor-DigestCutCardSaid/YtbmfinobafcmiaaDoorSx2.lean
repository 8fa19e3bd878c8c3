/-
  The second part: the values of the pure operations on integers, by typed forms.
  No conditions.
-/
import Derived.WalkKit
namespace Go.Sx
set_option linter.unusedSimpArgs false
open Go

def bitV (op : BinOp) (k : IntKind) (a b : BitVec k.bits) : Option (BitVec k.bits) :=
  match op with
  | .and => some (a &&& b)
  | .or => some (a ||| b)
  | .xor => some (a ^^^ b)
  | .andNot => some (a &&& ~~~b)
  | _ => none

def cmpV (op : BinOp) (a b : Int) : Option Value :=
  match op with
  | .eql => some (.bool (a == b))
  | .neq => some (.bool (a != b))
  | .lss => some (.bool (decide (a < b)))
  | .leq => some (.bool (decide (a ≤ b)))
  | .gtr => some (.bool (decide (a > b)))
  | .geq => some (.bool (decide (a ≥ b)))
  | _ => none

def intV (op : BinOp) (k : IntKind) (a b : Int) : Option Value :=
  match op with
  | .add => some (.int k (k.wrap (a + b)))
  | .sub => some (.int k (k.wrap (a - b)))
  | .mul => some (.int k (k.wrap (a * b)))
  | .quo => if b = 0 then none else some (.int k (k.wrap (a.tdiv b)))
  | .rem => if b = 0 then none else some (.int k (a.tmod b))
  | .and => (bitV .and k (BitVec.ofInt k.bits a) (BitVec.ofInt k.bits b)).map fun r => .int k (k.wrap (r.toNat : Int))
  | .or => (bitV .or k (BitVec.ofInt k.bits a) (BitVec.ofInt k.bits b)).map fun r => .int k (k.wrap (r.toNat : Int))
  | .xor => (bitV .xor k (BitVec.ofInt k.bits a) (BitVec.ofInt k.bits b)).map fun r => .int k (k.wrap (r.toNat : Int))
  | .andNot => (bitV .andNot k (BitVec.ofInt k.bits a) (BitVec.ofInt k.bits b)).map fun r => .int k (k.wrap (r.toNat : Int))
  | op => cmpV op a b

def shiftV (op : BinOp) (k : IntKind) (a b : Int) : Option Value :=
  if b < 0 then none else
    match op with
    | .shl => some (.int k (k.wrap (a * 2 ^ (min b.toNat k.bits))))
    | .shr => some (.int k (a.fdiv (2 ^ (min b.toNat k.bits))))
    | _ => none

def strV (op : BinOp) (a b : ByteArray) : Option Value :=
  let eq := a.toList == b.toList
  let lt := Op.bytesLess a.toList b.toList
  match op with
  | .add => if a.size + b.size ≤ 9223372036854775807 then some (.string (a ++ b)) else none
  | .eql => some (.bool eq)
  | .neq => some (.bool !eq)
  | .lss => some (.bool lt)
  | .leq => some (.bool (lt || eq))
  | .gtr => some (.bool !(lt || eq))
  | .geq => some (.bool !lt)
  | _ => none

/-- Numbers and texts, two and two. -/
def binV (op : BinOp) (x y : Value) : Option Value :=
  match x, y with
  | .int k a, .int k' b =>
    match op with
    | .shl => shiftV .shl k a b
    | .shr => shiftV .shr k a b
    | op => if k = k' then intV op k a b else none
  | .string a, .string b => strV op a b
  | _, _ => none

def unV (op : UnOp) (x : Value) : Option Value :=
  match op, x with
  | .neg, .int k n => some (.int k (k.wrap (0 - n)))
  | .xor, .int k n => (bitV .xor k (BitVec.ofInt k.bits (if k.signed then -1 else k.max)) (BitVec.ofInt k.bits n)).map fun r => .int k (k.wrap (r.toNat : Int))
  | .not, .bool b => some (.bool !b)
  | _, _ => none

def convI (k : IntKind) (x : Value) : Option Value :=
  match x with
  | .int _ n => some (.int k (k.wrap n))
  | _ => none

theorem run_binV {P : Program} {op : BinOp} {t : TypeId} {x y v : Value} (w : World) (h : binV op x y = some v) : (binOp op t x y).run P w = .ok v w := by
  unfold binV at h
  split at h
  · rename_i k a k' b
    split at h
    · unfold shiftV at h
      split at h
      · cases h
      · rename_i hb
        simp only [Option.some.injEq] at h; subst h
        simp only [binOp, Op.shift, hb, ↓reduceIte]; rfl
    · unfold shiftV at h
      split at h
      · cases h
      · rename_i hb
        simp only [Option.some.injEq] at h; subst h
        simp only [binOp, Op.shift, hb, ↓reduceIte]; rfl
    · rename_i h1 h2
      split at h
      · rename_i hk
        subst hk
        cases op <;> simp only [intV, bitV, cmpV, Option.map_some, Option.some.injEq, reduceCtorEq] at h <;> first
          | (subst h; simp only [binOp, Op.intArith, Op.intBits, Op.intCmp, ne_eq, not_true_eq_false, ↓reduceIte]; rfl)
          | (split at h
             · cases h
             · rename_i hb
               simp only [Option.some.injEq] at h; subst h
               simp only [binOp, Op.intDiv, ne_eq, not_true_eq_false, ↓reduceIte, hb]; rfl)
          | (exact (h1 rfl).elim)
          | (exact (h2 rfl).elim)
      · cases h
  · rename_i a b
    have hm : (9223372036854775807 : Int) = IntKind.i64.max := by decide
    cases op <;> simp only [strV, reduceCtorEq, Option.some.injEq] at h <;> first
      | (subst h; simp only [binOp, Op.stringOp]; rfl)
      | (split at h
         · rename_i hs
           simp only [Option.some.injEq] at h; subst h
           have h0 : ¬ (((a.size + b.size : Nat) : Int) > IntKind.i64.max) := by rw [← hm]; omega
           simp only [binOp, Op.stringOp, h0, ↓reduceIte]; rfl
         · cases h)
  · cases h

theorem run_unV {P : Program} {op : UnOp} {x v : Value} (w : World) (h : unV op x = some v) : (Op.unary op x).run P w = .ok v w := by
  unfold unV at h
  split at h
  · simp only [Option.some.injEq] at h; subst h; rfl
  · simp only [bitV, Option.map_some, Option.some.injEq] at h; subst h; rfl
  · simp only [Option.some.injEq] at h; subst h; rfl
  · cases h

/-! ### int -/
theorem wrap_i64 (n : Int) (h : -9223372036854775808 ≤ n ∧ n ≤ 9223372036854775807) : IntKind.wrap .i64 n = n := by
  simp only [IntKind.wrap, IntKind.bits, IntKind.signed, Bool.true_and]
  split <;> rename_i h' <;> simp only [ge_iff_le, decide_eq_true_eq, Int.not_le] at h' <;> omega
theorem wrap_i32 (n : Int) (h : -2147483648 ≤ n ∧ n ≤ 2147483647) : IntKind.wrap .i32 n = n := by
  simp only [IntKind.wrap, IntKind.bits, IntKind.signed, Bool.true_and]
  split <;> rename_i h' <;> simp only [ge_iff_le, decide_eq_true_eq, Int.not_le] at h' <;> omega
theorem wrap_u8_ofInt (n : Int) : IntKind.wrap .u8 n = ((UInt8.ofInt n).toNat : Int) := by
  simp only [IntKind.wrap, IntKind.bits, IntKind.signed, Bool.false_and, Bool.false_eq_true, ↓reduceIte]
  rw [show UInt8.ofInt n = UInt8.ofNat (n % 2 ^ 8).toNat from rfl, UInt8.toNat_ofNat']
  omega
theorem wrap_u16_ofInt (n : Int) : IntKind.wrap .u16 n = ((UInt16.ofInt n).toNat : Int) := by
  simp only [IntKind.wrap, IntKind.bits, IntKind.signed, Bool.false_and, Bool.false_eq_true, ↓reduceIte]
  rw [show UInt16.ofInt n = UInt16.ofNat (n % 2 ^ 16).toNat from rfl, UInt16.toNat_ofNat']
  omega
theorem wrap_u32_ofInt (n : Int) : IntKind.wrap .u32 n = ((UInt32.ofInt n).toNat : Int) := by
  simp only [IntKind.wrap, IntKind.bits, IntKind.signed, Bool.false_and, Bool.false_eq_true, ↓reduceIte]
  rw [show UInt32.ofInt n = UInt32.ofNat (n % 2 ^ 32).toNat from rfl, UInt32.toNat_ofNat']
  omega
theorem wrap_u64_ofInt (n : Int) : IntKind.wrap .u64 n = ((UInt64.ofInt n).toNat : Int) := by
  simp only [IntKind.wrap, IntKind.bits, IntKind.signed, Bool.false_and, Bool.false_eq_true, ↓reduceIte]
  rw [show UInt64.ofInt n = UInt64.ofNat (n % 2 ^ 64).toNat from rfl, UInt64.toNat_ofNat']
  omega
def vi (n : Int) : Value := .int .i64 n
theorem lit_i64 (n : Int) : Value.int .i64 n = vi n := (rfl)
theorem bin_add_i (a b : Int) (h : -9223372036854775808 ≤ a + b ∧ a + b ≤ 9223372036854775807) : binV .add (vi a) (vi b) = some (vi (a + b)) := by
  simp only [binV, vi, intV, ↓reduceIte, wrap_i64 _ h]
theorem bin_sub_i (a b : Int) (h : -9223372036854775808 ≤ a - b ∧ a - b ≤ 9223372036854775807) : binV .sub (vi a) (vi b) = some (vi (a - b)) := by
  simp only [binV, vi, intV, ↓reduceIte, wrap_i64 _ h]
theorem bin_mul_i (a b : Int) (h : -9223372036854775808 ≤ a * b ∧ a * b ≤ 9223372036854775807) : binV .mul (vi a) (vi b) = some (vi (a * b)) := by
  simp only [binV, vi, intV, ↓reduceIte, wrap_i64 _ h]
/-- Go's division where the numbers are not below 0. -/
theorem bin_quo_i (a b : Int) (h : 0 ≤ a ∧ 0 < b ∧ a ≤ 9223372036854775807) : binV .quo (vi a) (vi b) = some (vi (a / b)) := by
  have h0 : (b = 0) = False := by simp only [eq_iff_iff, iff_false]; omega
  have e : a.tdiv b = a / b := Int.tdiv_eq_ediv_of_nonneg h.1
  have h1 : 0 ≤ a / b := Int.ediv_nonneg h.1 (by omega)
  have h2 : a / b ≤ a := Int.ediv_le_self b h.1
  simp only [binV, vi, intV, ↓reduceIte, h0, e, wrap_i64 (a / b) ⟨by omega, by omega⟩]
theorem bin_rem_i (a b : Int) (h : 0 ≤ a ∧ 0 < b) : binV .rem (vi a) (vi b) = some (vi (a % b)) := by
  have h0 : (b = 0) = False := by simp only [eq_iff_iff, iff_false]; omega
  have e : a.tmod b = a % b := Int.tmod_eq_emod_of_nonneg h.1
  simp only [binV, vi, intV, ↓reduceIte, h0, e]
theorem bin_eql_i (a b : Int) : binV .eql (vi a) (vi b) = some (.bool (a == b)) := (rfl)
theorem bin_neq_i (a b : Int) : binV .neq (vi a) (vi b) = some (.bool (a != b)) := (rfl)
theorem bin_lss_i (a b : Int) : binV .lss (vi a) (vi b) = some (.bool (decide (a < b))) := (rfl)
theorem bin_leq_i (a b : Int) : binV .leq (vi a) (vi b) = some (.bool (decide (a ≤ b))) := (rfl)
theorem bin_gtr_i (a b : Int) : binV .gtr (vi a) (vi b) = some (.bool (decide (b < a))) := (rfl)
theorem bin_geq_i (a b : Int) : binV .geq (vi a) (vi b) = some (.bool (decide (b ≤ a))) := (rfl)
theorem un_neg_i (a : Int) (h : -9223372036854775807 ≤ a ∧ a ≤ 9223372036854775807) : unV .neg (vi a) = some (vi (-a)) := by
  simp only [unV, vi, Int.zero_sub, wrap_i64 (-a) ⟨by omega, by omega⟩]
theorem un_not (b : Bool) : unV .not (.bool b) = some (.bool !b) := (rfl)
theorem conv_i64_i64 (n : Int) (h : -9223372036854775808 ≤ n ∧ n ≤ 9223372036854775807) : convI .i64 (vi n) = some (vi n) := by
  simp only [convI, vi, wrap_i64 _ h]
theorem shl_i_v (a : Int) (kk : IntKind) (c : Nat) (h : c < 63 ∧ 0 ≤ a ∧ a * 2 ^ c ≤ 9223372036854775807) : binV .shl (vi a) (.int kk (c : Int)) = some (vi (a * 2 ^ c)) := by
  have h0 : ((c : Int) < 0) = False := by simp only [eq_iff_iff, iff_false]; omega
  have hm : min c 64 = c := by omega
  have hp : (0 : Int) ≤ a * 2 ^ c := Int.mul_nonneg h.2.1 (Int.pow_nonneg (by omega))
  simp only [binV, vi, shiftV, h0, ↓reduceIte, Int.toNat_natCast, IntKind.bits, hm, wrap_i64 (a * 2 ^ c) ⟨by omega, h.2.2⟩]
theorem shr_i_v (a : Int) (kk : IntKind) (c : Nat) (h : c < 64 ∧ 0 ≤ a) : binV .shr (vi a) (.int kk (c : Int)) = some (vi (a / 2 ^ c)) := by
  have h0 : ((c : Int) < 0) = False := by simp only [eq_iff_iff, iff_false]; omega
  have hm : min c 64 = c := by omega
  have hp : (0 : Int) ≤ 2 ^ c := Int.pow_nonneg (by omega)
  simp only [binV, vi, shiftV, h0, ↓reduceIte, Int.toNat_natCast, IntKind.bits, hm, Int.fdiv_eq_ediv_of_nonneg _ hp]

/-! ### UInt8 -/
def v8 (x : UInt8) : Value := .int .u8 (x.toNat : Int)
theorem wrap_u8 (n : Nat) (h : n < 256) : IntKind.wrap .u8 (n : Int) = (n : Int) := by
  simp only [IntKind.wrap, IntKind.bits, IntKind.signed, Bool.false_and, Bool.false_eq_true, ↓reduceIte]
  omega
theorem wrap_u8_mod (n : Nat) : IntKind.wrap .u8 (n : Int) = ((n % 256 : Nat) : Int) := by
  simp only [IntKind.wrap, IntKind.bits, IntKind.signed, Bool.false_and, Bool.false_eq_true, ↓reduceIte]
  omega
theorem v8_lt (x : UInt8) : x.toNat < 256 := x.toNat_lt
theorem bv_u8 (x : UInt8) : BitVec.ofInt (IntKind.bits .u8) (x.toNat : Int) = x.toBitVec := by
  apply BitVec.eq_of_toNat_eq
  simp only [IntKind.bits, BitVec.ofInt_natCast, BitVec.toNat_ofNat, UInt8.toNat_toBitVec]
  exact Nat.mod_eq_of_lt x.toNat_lt

theorem lit_u8 (n : Nat) (h : n < 256) : Value.int .u8 (no_index (@OfNat.ofNat Int n _)) = v8 (@OfNat.ofNat UInt8 n _) := by
  have : ((@OfNat.ofNat UInt8 n _).toNat : Int) = (@OfNat.ofNat Int n _) := by
    have e : (@OfNat.ofNat UInt8 n _).toNat = n := by rw [UInt8.toNat_ofNat]; exact Nat.mod_eq_of_lt h
    rw [e]; rfl
  rw [v8, this]
theorem bin_add_u8 (x y : UInt8) : binV .add (v8 x) (v8 y) = some (v8 (x + y)) := by
  simp only [binV, v8, intV, ↓reduceIte, UInt8.toNat_add]
  rw [← Int.natCast_add, wrap_u8_mod]
theorem bin_mul_u8 (x y : UInt8) : binV .mul (v8 x) (v8 y) = some (v8 (x * y)) := by
  simp only [binV, v8, intV, ↓reduceIte, UInt8.toNat_mul]
  rw [← Int.natCast_mul, wrap_u8_mod]
theorem bin_sub_u8 (x y : UInt8) : binV .sub (v8 x) (v8 y) = some (v8 (x - y)) := by
  have hx := x.toNat_lt; have hy := y.toNat_lt
  have e : IntKind.wrap .u8 ((x.toNat : Int) - (y.toNat : Int)) = ((x - y).toNat : Int) := by
    rw [UInt8.toNat_sub]
    simp only [IntKind.wrap, IntKind.bits, IntKind.signed, Bool.false_and, Bool.false_eq_true, ↓reduceIte]
    omega
  simp only [binV, v8, intV, ↓reduceIte, e]
theorem bin_and_u8 (x y : UInt8) : binV .and (v8 x) (v8 y) = some (v8 (x &&& y)) := by
  simp only [binV, v8, intV, ↓reduceIte, bitV, bv_u8, Option.map_some]
  show some (Value.int .u8 (IntKind.wrap .u8 ((x &&& y).toNat : Int))) = _
  rw [wrap_u8 _ (x &&& y).toNat_lt]
theorem bin_or_u8 (x y : UInt8) : binV .or (v8 x) (v8 y) = some (v8 (x ||| y)) := by
  simp only [binV, v8, intV, ↓reduceIte, bitV, bv_u8, Option.map_some]
  show some (Value.int .u8 (IntKind.wrap .u8 ((x ||| y).toNat : Int))) = _
  rw [wrap_u8 _ (x ||| y).toNat_lt]
theorem bin_xor_u8 (x y : UInt8) : binV .xor (v8 x) (v8 y) = some (v8 (x ^^^ y)) := by
  simp only [binV, v8, intV, ↓reduceIte, bitV, bv_u8, Option.map_some]
  show some (Value.int .u8 (IntKind.wrap .u8 ((x ^^^ y).toNat : Int))) = _
  rw [wrap_u8 _ (x ^^^ y).toNat_lt]
theorem un_xor_u8 (x : UInt8) : unV .xor (v8 x) = some (v8 (~~~ x)) := by
  have hx := x.toNat_lt
  have e : (BitVec.ofInt (IntKind.bits .u8) (IntKind.max .u8)) = BitVec.allOnes 8 := rfl
  have e2 : (BitVec.allOnes 8 ^^^ x.toBitVec) = (~~~ x).toBitVec := by rw [UInt8.toBitVec_not]; exact BitVec.allOnes_xor
  simp only [unV, v8, bitV, bv_u8, IntKind.signed, Bool.false_eq_true, ↓reduceIte, e, Option.map_some]
  show some (Value.int .u8 (IntKind.wrap .u8 ((BitVec.allOnes 8 ^^^ x.toBitVec).toNat : Int))) = _
  rw [e2]
  show some (Value.int .u8 (IntKind.wrap .u8 ((~~~ x).toNat : Int))) = _
  rw [wrap_u8 _ (~~~ x).toNat_lt]
def shr_u8 (x : UInt8) (n : Nat) : UInt8 := UInt8.ofNat (x.toNat / 2 ^ n)
def shl_u8 (x : UInt8) (n : Nat) : UInt8 := UInt8.ofNat (x.toNat * 2 ^ n)
theorem bin_lss_u8 (x y : UInt8) : binV .lss (v8 x) (v8 y) = some (.bool (decide (x < y))) := by
  simp only [binV, v8, intV, ↓reduceIte, cmpV, UInt8.lt_iff_toNat_lt, Int.ofNat_lt, Int.ofNat_le]
theorem bin_leq_u8 (x y : UInt8) : binV .leq (v8 x) (v8 y) = some (.bool (decide (x ≤ y))) := by
  simp only [binV, v8, intV, ↓reduceIte, cmpV, UInt8.le_iff_toNat_le, Int.ofNat_lt, Int.ofNat_le]
theorem bin_gtr_u8 (x y : UInt8) : binV .gtr (v8 x) (v8 y) = some (.bool (decide (y < x))) := by
  simp only [binV, v8, intV, ↓reduceIte, cmpV, UInt8.lt_iff_toNat_lt, Int.ofNat_lt, Int.ofNat_le, gt_iff_lt, ge_iff_le]
theorem bin_geq_u8 (x y : UInt8) : binV .geq (v8 x) (v8 y) = some (.bool (decide (y ≤ x))) := by
  simp only [binV, v8, intV, ↓reduceIte, cmpV, UInt8.le_iff_toNat_le, Int.ofNat_lt, Int.ofNat_le, gt_iff_lt, ge_iff_le]
theorem beq_u8 (x y : UInt8) : ((x.toNat : Int) == (y.toNat : Int)) = (x == y) := by
  rw [Bool.eq_iff_iff, beq_iff_eq, beq_iff_eq, Int.ofNat_inj, UInt8.toNat_inj]
theorem bin_eql_u8 (x y : UInt8) : binV .eql (v8 x) (v8 y) = some (.bool (x == y)) := by
  simp only [binV, v8, intV, ↓reduceIte, cmpV, beq_u8]
theorem bin_neq_u8 (x y : UInt8) : binV .neq (v8 x) (v8 y) = some (.bool (x != y)) := by
  simp only [binV, v8, intV, ↓reduceIte, cmpV, bne, beq_u8]
theorem bin_quo_u8 (x y : UInt8) (h : 0 < y.toNat) : binV .quo (v8 x) (v8 y) = some (v8 (x / y)) := by
  have hx := x.toNat_lt
  have e : IntKind.wrap .u8 ((x.toNat : Int).tdiv (y.toNat : Int)) = ((x / y).toNat : Int) := by
    rw [UInt8.toNat_div, Int.tdiv_eq_ediv_of_nonneg (by omega), ← Int.natCast_ediv, wrap_u8_mod]
    congr 1
    exact Nat.mod_eq_of_lt (Nat.lt_of_le_of_lt (Nat.div_le_self _ _) hx)
  have h0 : ((y.toNat : Int) = 0) = False := by simp only [eq_iff_iff, iff_false]; omega
  simp only [binV, v8, intV, ↓reduceIte, h0, e]
theorem bin_rem_u8 (x y : UInt8) (h : 0 < y.toNat) : binV .rem (v8 x) (v8 y) = some (v8 (x % y)) := by
  have e : ((x.toNat : Int).tmod (y.toNat : Int)) = ((x % y).toNat : Int) := by
    rw [UInt8.toNat_mod, Int.tmod_eq_emod_of_nonneg (by omega), Int.natCast_emod]
  have h0 : ((y.toNat : Int) = 0) = False := by simp only [eq_iff_iff, iff_false]; omega
  simp only [binV, v8, intV, ↓reduceIte, h0, e]
theorem shr_u8_v (x : UInt8) (kk : IntKind) (c : Nat) : binV .shr (v8 x) (.int kk (c : Int)) = some (v8 (shr_u8 x c)) := by
  have hx := x.toNat_lt
  have h0 : ((c : Int) < 0) = False := by simp only [eq_iff_iff, iff_false]; omega
  have e : ((x.toNat : Int).fdiv (2 ^ (min c 8))) = ((shr_u8 x c).toNat : Int) := by
    have hp : (2 : Int) ^ (min c 8) = ((2 ^ (min c 8) : Nat) : Int) := by rw [Int.natCast_pow]; rfl
    rw [hp, Int.fdiv_eq_ediv_of_nonneg _ (Int.natCast_nonneg _), ← Int.natCast_ediv, shr_u8, UInt8.toNat_ofNat']
    congr 1
    rw [Nat.mod_eq_of_lt (Nat.lt_of_le_of_lt (Nat.div_le_self _ _) hx)]
    by_cases hc : c ≤ 8
    · rw [Nat.min_eq_left hc]
    · rw [Nat.min_eq_right (by omega), Nat.div_eq_of_lt (by simpa using hx), Nat.div_eq_of_lt]
      exact Nat.lt_of_lt_of_le (by simpa using hx) (Nat.pow_le_pow_right (by omega) (by omega : 8 ≤ c))
  simp only [binV, v8, shiftV, h0, ↓reduceIte, Int.toNat_natCast, IntKind.bits, e]
theorem shl_u8_v (x : UInt8) (kk : IntKind) (c : Nat) : binV .shl (v8 x) (.int kk (c : Int)) = some (v8 (shl_u8 x c)) := by
  have h0 : ((c : Int) < 0) = False := by simp only [eq_iff_iff, iff_false]; omega
  have e : IntKind.wrap .u8 ((x.toNat : Int) * (2 ^ (min c 8))) = ((shl_u8 x c).toNat : Int) := by
    have hp : (2 : Int) ^ (min c 8) = ((2 ^ (min c 8) : Nat) : Int) := by rw [Int.natCast_pow]; rfl
    rw [hp, ← Int.natCast_mul, wrap_u8_mod, shl_u8, UInt8.toNat_ofNat']
    congr 1
    by_cases hc : c ≤ 8
    · rw [Nat.min_eq_left hc]
    · rw [Nat.min_eq_right (by omega)]
      have : 2 ^ c = 2 ^ 8 * 2 ^ (c - 8) := by rw [← Nat.pow_add]; congr 1; omega
      rw [this, ← Nat.mul_assoc, Nat.mul_right_comm]
      simp [Nat.mul_mod_left]
  simp only [binV, v8, shiftV, h0, ↓reduceIte, Int.toNat_natCast, IntKind.bits, e]

/-! ### UInt16 -/
def v16 (x : UInt16) : Value := .int .u16 (x.toNat : Int)
theorem wrap_u16 (n : Nat) (h : n < 65536) : IntKind.wrap .u16 (n : Int) = (n : Int) := by
  simp only [IntKind.wrap, IntKind.bits, IntKind.signed, Bool.false_and, Bool.false_eq_true, ↓reduceIte]
  omega
theorem wrap_u16_mod (n : Nat) : IntKind.wrap .u16 (n : Int) = ((n % 65536 : Nat) : Int) := by
  simp only [IntKind.wrap, IntKind.bits, IntKind.signed, Bool.false_and, Bool.false_eq_true, ↓reduceIte]
  omega
theorem v16_lt (x : UInt16) : x.toNat < 65536 := x.toNat_lt
theorem bv_u16 (x : UInt16) : BitVec.ofInt (IntKind.bits .u16) (x.toNat : Int) = x.toBitVec := by
  apply BitVec.eq_of_toNat_eq
  simp only [IntKind.bits, BitVec.ofInt_natCast, BitVec.toNat_ofNat, UInt16.toNat_toBitVec]
  exact Nat.mod_eq_of_lt x.toNat_lt

theorem lit_u16 (n : Nat) (h : n < 65536) : Value.int .u16 (no_index (@OfNat.ofNat Int n _)) = v16 (@OfNat.ofNat UInt16 n _) := by
  have : ((@OfNat.ofNat UInt16 n _).toNat : Int) = (@OfNat.ofNat Int n _) := by
    have e : (@OfNat.ofNat UInt16 n _).toNat = n := by rw [UInt16.toNat_ofNat]; exact Nat.mod_eq_of_lt h
    rw [e]; rfl
  rw [v16, this]
theorem bin_add_u16 (x y : UInt16) : binV .add (v16 x) (v16 y) = some (v16 (x + y)) := by
  simp only [binV, v16, intV, ↓reduceIte, UInt16.toNat_add]
  rw [← Int.natCast_add, wrap_u16_mod]
theorem bin_mul_u16 (x y : UInt16) : binV .mul (v16 x) (v16 y) = some (v16 (x * y)) := by
  simp only [binV, v16, intV, ↓reduceIte, UInt16.toNat_mul]
  rw [← Int.natCast_mul, wrap_u16_mod]
theorem bin_sub_u16 (x y : UInt16) : binV .sub (v16 x) (v16 y) = some (v16 (x - y)) := by
  have hx := x.toNat_lt; have hy := y.toNat_lt
  have e : IntKind.wrap .u16 ((x.toNat : Int) - (y.toNat : Int)) = ((x - y).toNat : Int) := by
    rw [UInt16.toNat_sub]
    simp only [IntKind.wrap, IntKind.bits, IntKind.signed, Bool.false_and, Bool.false_eq_true, ↓reduceIte]
    omega
  simp only [binV, v16, intV, ↓reduceIte, e]
theorem bin_and_u16 (x y : UInt16) : binV .and (v16 x) (v16 y) = some (v16 (x &&& y)) := by
  simp only [binV, v16, intV, ↓reduceIte, bitV, bv_u16, Option.map_some]
  show some (Value.int .u16 (IntKind.wrap .u16 ((x &&& y).toNat : Int))) = _
  rw [wrap_u16 _ (x &&& y).toNat_lt]
theorem bin_or_u16 (x y : UInt16) : binV .or (v16 x) (v16 y) = some (v16 (x ||| y)) := by
  simp only [binV, v16, intV, ↓reduceIte, bitV, bv_u16, Option.map_some]
  show some (Value.int .u16 (IntKind.wrap .u16 ((x ||| y).toNat : Int))) = _
  rw [wrap_u16 _ (x ||| y).toNat_lt]
theorem bin_xor_u16 (x y : UInt16) : binV .xor (v16 x) (v16 y) = some (v16 (x ^^^ y)) := by
  simp only [binV, v16, intV, ↓reduceIte, bitV, bv_u16, Option.map_some]
  show some (Value.int .u16 (IntKind.wrap .u16 ((x ^^^ y).toNat : Int))) = _
  rw [wrap_u16 _ (x ^^^ y).toNat_lt]
theorem un_xor_u16 (x : UInt16) : unV .xor (v16 x) = some (v16 (~~~ x)) := by
  have hx := x.toNat_lt
  have e : (BitVec.ofInt (IntKind.bits .u16) (IntKind.max .u16)) = BitVec.allOnes 16 := rfl
  have e2 : (BitVec.allOnes 16 ^^^ x.toBitVec) = (~~~ x).toBitVec := by rw [UInt16.toBitVec_not]; exact BitVec.allOnes_xor
  simp only [unV, v16, bitV, bv_u16, IntKind.signed, Bool.false_eq_true, ↓reduceIte, e, Option.map_some]
  show some (Value.int .u16 (IntKind.wrap .u16 ((BitVec.allOnes 16 ^^^ x.toBitVec).toNat : Int))) = _
  rw [e2]
  show some (Value.int .u16 (IntKind.wrap .u16 ((~~~ x).toNat : Int))) = _
  rw [wrap_u16 _ (~~~ x).toNat_lt]
def shr_u16 (x : UInt16) (n : Nat) : UInt16 := UInt16.ofNat (x.toNat / 2 ^ n)
def shl_u16 (x : UInt16) (n : Nat) : UInt16 := UInt16.ofNat (x.toNat * 2 ^ n)
theorem bin_lss_u16 (x y : UInt16) : binV .lss (v16 x) (v16 y) = some (.bool (decide (x < y))) := by
  simp only [binV, v16, intV, ↓reduceIte, cmpV, UInt16.lt_iff_toNat_lt, Int.ofNat_lt, Int.ofNat_le]
theorem bin_leq_u16 (x y : UInt16) : binV .leq (v16 x) (v16 y) = some (.bool (decide (x ≤ y))) := by
  simp only [binV, v16, intV, ↓reduceIte, cmpV, UInt16.le_iff_toNat_le, Int.ofNat_lt, Int.ofNat_le]
theorem bin_gtr_u16 (x y : UInt16) : binV .gtr (v16 x) (v16 y) = some (.bool (decide (y < x))) := by
  simp only [binV, v16, intV, ↓reduceIte, cmpV, UInt16.lt_iff_toNat_lt, Int.ofNat_lt, Int.ofNat_le, gt_iff_lt, ge_iff_le]
theorem bin_geq_u16 (x y : UInt16) : binV .geq (v16 x) (v16 y) = some (.bool (decide (y ≤ x))) := by
  simp only [binV, v16, intV, ↓reduceIte, cmpV, UInt16.le_iff_toNat_le, Int.ofNat_lt, Int.ofNat_le, gt_iff_lt, ge_iff_le]
theorem beq_u16 (x y : UInt16) : ((x.toNat : Int) == (y.toNat : Int)) = (x == y) := by
  rw [Bool.eq_iff_iff, beq_iff_eq, beq_iff_eq, Int.ofNat_inj, UInt16.toNat_inj]
theorem bin_eql_u16 (x y : UInt16) : binV .eql (v16 x) (v16 y) = some (.bool (x == y)) := by
  simp only [binV, v16, intV, ↓reduceIte, cmpV, beq_u16]
theorem bin_neq_u16 (x y : UInt16) : binV .neq (v16 x) (v16 y) = some (.bool (x != y)) := by
  simp only [binV, v16, intV, ↓reduceIte, cmpV, bne, beq_u16]
theorem bin_quo_u16 (x y : UInt16) (h : 0 < y.toNat) : binV .quo (v16 x) (v16 y) = some (v16 (x / y)) := by
  have hx := x.toNat_lt
  have e : IntKind.wrap .u16 ((x.toNat : Int).tdiv (y.toNat : Int)) = ((x / y).toNat : Int) := by
    rw [UInt16.toNat_div, Int.tdiv_eq_ediv_of_nonneg (by omega), ← Int.natCast_ediv, wrap_u16_mod]
    congr 1
    exact Nat.mod_eq_of_lt (Nat.lt_of_le_of_lt (Nat.div_le_self _ _) hx)
  have h0 : ((y.toNat : Int) = 0) = False := by simp only [eq_iff_iff, iff_false]; omega
  simp only [binV, v16, intV, ↓reduceIte, h0, e]
theorem bin_rem_u16 (x y : UInt16) (h : 0 < y.toNat) : binV .rem (v16 x) (v16 y) = some (v16 (x % y)) := by
  have e : ((x.toNat : Int).tmod (y.toNat : Int)) = ((x % y).toNat : Int) := by
    rw [UInt16.toNat_mod, Int.tmod_eq_emod_of_nonneg (by omega), Int.natCast_emod]
  have h0 : ((y.toNat : Int) = 0) = False := by simp only [eq_iff_iff, iff_false]; omega
  simp only [binV, v16, intV, ↓reduceIte, h0, e]
theorem shr_u16_v (x : UInt16) (kk : IntKind) (c : Nat) : binV .shr (v16 x) (.int kk (c : Int)) = some (v16 (shr_u16 x c)) := by
  have hx := x.toNat_lt
  have h0 : ((c : Int) < 0) = False := by simp only [eq_iff_iff, iff_false]; omega
  have e : ((x.toNat : Int).fdiv (2 ^ (min c 16))) = ((shr_u16 x c).toNat : Int) := by
    have hp : (2 : Int) ^ (min c 16) = ((2 ^ (min c 16) : Nat) : Int) := by rw [Int.natCast_pow]; rfl
    rw [hp, Int.fdiv_eq_ediv_of_nonneg _ (Int.natCast_nonneg _), ← Int.natCast_ediv, shr_u16, UInt16.toNat_ofNat']
    congr 1
    rw [Nat.mod_eq_of_lt (Nat.lt_of_le_of_lt (Nat.div_le_self _ _) hx)]
    by_cases hc : c ≤ 16
    · rw [Nat.min_eq_left hc]
    · rw [Nat.min_eq_right (by omega), Nat.div_eq_of_lt (by simpa using hx), Nat.div_eq_of_lt]
      exact Nat.lt_of_lt_of_le (by simpa using hx) (Nat.pow_le_pow_right (by omega) (by omega : 16 ≤ c))
  simp only [binV, v16, shiftV, h0, ↓reduceIte, Int.toNat_natCast, IntKind.bits, e]
theorem shl_u16_v (x : UInt16) (kk : IntKind) (c : Nat) : binV .shl (v16 x) (.int kk (c : Int)) = some (v16 (shl_u16 x c)) := by
  have h0 : ((c : Int) < 0) = False := by simp only [eq_iff_iff, iff_false]; omega
  have e : IntKind.wrap .u16 ((x.toNat : Int) * (2 ^ (min c 16))) = ((shl_u16 x c).toNat : Int) := by
    have hp : (2 : Int) ^ (min c 16) = ((2 ^ (min c 16) : Nat) : Int) := by rw [Int.natCast_pow]; rfl
    rw [hp, ← Int.natCast_mul, wrap_u16_mod, shl_u16, UInt16.toNat_ofNat']
    congr 1
    by_cases hc : c ≤ 16
    · rw [Nat.min_eq_left hc]
    · rw [Nat.min_eq_right (by omega)]
      have : 2 ^ c = 2 ^ 16 * 2 ^ (c - 16) := by rw [← Nat.pow_add]; congr 1; omega
      rw [this, ← Nat.mul_assoc, Nat.mul_right_comm]
      simp [Nat.mul_mod_left]
  simp only [binV, v16, shiftV, h0, ↓reduceIte, Int.toNat_natCast, IntKind.bits, e]

/-! ### UInt32 -/
def v32 (x : UInt32) : Value := .int .u32 (x.toNat : Int)
theorem wrap_u32 (n : Nat) (h : n < 4294967296) : IntKind.wrap .u32 (n : Int) = (n : Int) := by
  simp only [IntKind.wrap, IntKind.bits, IntKind.signed, Bool.false_and, Bool.false_eq_true, ↓reduceIte]
  omega
theorem wrap_u32_mod (n : Nat) : IntKind.wrap .u32 (n : Int) = ((n % 4294967296 : Nat) : Int) := by
  simp only [IntKind.wrap, IntKind.bits, IntKind.signed, Bool.false_and, Bool.false_eq_true, ↓reduceIte]
  omega
theorem v32_lt (x : UInt32) : x.toNat < 4294967296 := x.toNat_lt
theorem bv_u32 (x : UInt32) : BitVec.ofInt (IntKind.bits .u32) (x.toNat : Int) = x.toBitVec := by
  apply BitVec.eq_of_toNat_eq
  simp only [IntKind.bits, BitVec.ofInt_natCast, BitVec.toNat_ofNat, UInt32.toNat_toBitVec]
  exact Nat.mod_eq_of_lt x.toNat_lt

theorem lit_u32 (n : Nat) (h : n < 4294967296) : Value.int .u32 (no_index (@OfNat.ofNat Int n _)) = v32 (@OfNat.ofNat UInt32 n _) := by
  have : ((@OfNat.ofNat UInt32 n _).toNat : Int) = (@OfNat.ofNat Int n _) := by
    have e : (@OfNat.ofNat UInt32 n _).toNat = n := by rw [UInt32.toNat_ofNat]; exact Nat.mod_eq_of_lt h
    rw [e]; rfl
  rw [v32, this]
theorem bin_add_u32 (x y : UInt32) : binV .add (v32 x) (v32 y) = some (v32 (x + y)) := by
  simp only [binV, v32, intV, ↓reduceIte, UInt32.toNat_add]
  rw [← Int.natCast_add, wrap_u32_mod]
theorem bin_mul_u32 (x y : UInt32) : binV .mul (v32 x) (v32 y) = some (v32 (x * y)) := by
  simp only [binV, v32, intV, ↓reduceIte, UInt32.toNat_mul]
  rw [← Int.natCast_mul, wrap_u32_mod]
theorem bin_sub_u32 (x y : UInt32) : binV .sub (v32 x) (v32 y) = some (v32 (x - y)) := by
  have hx := x.toNat_lt; have hy := y.toNat_lt
  have e : IntKind.wrap .u32 ((x.toNat : Int) - (y.toNat : Int)) = ((x - y).toNat : Int) := by
    rw [UInt32.toNat_sub]
    simp only [IntKind.wrap, IntKind.bits, IntKind.signed, Bool.false_and, Bool.false_eq_true, ↓reduceIte]
    omega
  simp only [binV, v32, intV, ↓reduceIte, e]
theorem bin_and_u32 (x y : UInt32) : binV .and (v32 x) (v32 y) = some (v32 (x &&& y)) := by
  simp only [binV, v32, intV, ↓reduceIte, bitV, bv_u32, Option.map_some]
  show some (Value.int .u32 (IntKind.wrap .u32 ((x &&& y).toNat : Int))) = _
  rw [wrap_u32 _ (x &&& y).toNat_lt]
theorem bin_or_u32 (x y : UInt32) : binV .or (v32 x) (v32 y) = some (v32 (x ||| y)) := by
  simp only [binV, v32, intV, ↓reduceIte, bitV, bv_u32, Option.map_some]
  show some (Value.int .u32 (IntKind.wrap .u32 ((x ||| y).toNat : Int))) = _
  rw [wrap_u32 _ (x ||| y).toNat_lt]
theorem bin_xor_u32 (x y : UInt32) : binV .xor (v32 x) (v32 y) = some (v32 (x ^^^ y)) := by
  simp only [binV, v32, intV, ↓reduceIte, bitV, bv_u32, Option.map_some]
  show some (Value.int .u32 (IntKind.wrap .u32 ((x ^^^ y).toNat : Int))) = _
  rw [wrap_u32 _ (x ^^^ y).toNat_lt]
theorem un_xor_u32 (x : UInt32) : unV .xor (v32 x) = some (v32 (~~~ x)) := by
  have hx := x.toNat_lt
  have e : (BitVec.ofInt (IntKind.bits .u32) (IntKind.max .u32)) = BitVec.allOnes 32 := rfl
  have e2 : (BitVec.allOnes 32 ^^^ x.toBitVec) = (~~~ x).toBitVec := by rw [UInt32.toBitVec_not]; exact BitVec.allOnes_xor
  simp only [unV, v32, bitV, bv_u32, IntKind.signed, Bool.false_eq_true, ↓reduceIte, e, Option.map_some]
  show some (Value.int .u32 (IntKind.wrap .u32 ((BitVec.allOnes 32 ^^^ x.toBitVec).toNat : Int))) = _
  rw [e2]
  show some (Value.int .u32 (IntKind.wrap .u32 ((~~~ x).toNat : Int))) = _
  rw [wrap_u32 _ (~~~ x).toNat_lt]
def shr_u32 (x : UInt32) (n : Nat) : UInt32 := UInt32.ofNat (x.toNat / 2 ^ n)
def shl_u32 (x : UInt32) (n : Nat) : UInt32 := UInt32.ofNat (x.toNat * 2 ^ n)
theorem bin_lss_u32 (x y : UInt32) : binV .lss (v32 x) (v32 y) = some (.bool (decide (x < y))) := by
  simp only [binV, v32, intV, ↓reduceIte, cmpV, UInt32.lt_iff_toNat_lt, Int.ofNat_lt, Int.ofNat_le]
theorem bin_leq_u32 (x y : UInt32) : binV .leq (v32 x) (v32 y) = some (.bool (decide (x ≤ y))) := by
  simp only [binV, v32, intV, ↓reduceIte, cmpV, UInt32.le_iff_toNat_le, Int.ofNat_lt, Int.ofNat_le]
theorem bin_gtr_u32 (x y : UInt32) : binV .gtr (v32 x) (v32 y) = some (.bool (decide (y < x))) := by
  simp only [binV, v32, intV, ↓reduceIte, cmpV, UInt32.lt_iff_toNat_lt, Int.ofNat_lt, Int.ofNat_le, gt_iff_lt, ge_iff_le]
theorem bin_geq_u32 (x y : UInt32) : binV .geq (v32 x) (v32 y) = some (.bool (decide (y ≤ x))) := by
  simp only [binV, v32, intV, ↓reduceIte, cmpV, UInt32.le_iff_toNat_le, Int.ofNat_lt, Int.ofNat_le, gt_iff_lt, ge_iff_le]
theorem beq_u32 (x y : UInt32) : ((x.toNat : Int) == (y.toNat : Int)) = (x == y) := by
  rw [Bool.eq_iff_iff, beq_iff_eq, beq_iff_eq, Int.ofNat_inj, UInt32.toNat_inj]
theorem bin_eql_u32 (x y : UInt32) : binV .eql (v32 x) (v32 y) = some (.bool (x == y)) := by
  simp only [binV, v32, intV, ↓reduceIte, cmpV, beq_u32]
theorem bin_neq_u32 (x y : UInt32) : binV .neq (v32 x) (v32 y) = some (.bool (x != y)) := by
  simp only [binV, v32, intV, ↓reduceIte, cmpV, bne, beq_u32]
theorem bin_quo_u32 (x y : UInt32) (h : 0 < y.toNat) : binV .quo (v32 x) (v32 y) = some (v32 (x / y)) := by
  have hx := x.toNat_lt
  have e : IntKind.wrap .u32 ((x.toNat : Int).tdiv (y.toNat : Int)) = ((x / y).toNat : Int) := by
    rw [UInt32.toNat_div, Int.tdiv_eq_ediv_of_nonneg (by omega), ← Int.natCast_ediv, wrap_u32_mod]
    congr 1
    exact Nat.mod_eq_of_lt (Nat.lt_of_le_of_lt (Nat.div_le_self _ _) hx)
  have h0 : ((y.toNat : Int) = 0) = False := by simp only [eq_iff_iff, iff_false]; omega
  simp only [binV, v32, intV, ↓reduceIte, h0, e]
theorem bin_rem_u32 (x y : UInt32) (h : 0 < y.toNat) : binV .rem (v32 x) (v32 y) = some (v32 (x % y)) := by
  have e : ((x.toNat : Int).tmod (y.toNat : Int)) = ((x % y).toNat : Int) := by
    rw [UInt32.toNat_mod, Int.tmod_eq_emod_of_nonneg (by omega), Int.natCast_emod]
  have h0 : ((y.toNat : Int) = 0) = False := by simp only [eq_iff_iff, iff_false]; omega
  simp only [binV, v32, intV, ↓reduceIte, h0, e]
theorem shr_u32_v (x : UInt32) (kk : IntKind) (c : Nat) : binV .shr (v32 x) (.int kk (c : Int)) = some (v32 (shr_u32 x c)) := by
  have hx := x.toNat_lt
  have h0 : ((c : Int) < 0) = False := by simp only [eq_iff_iff, iff_false]; omega
  have e : ((x.toNat : Int).fdiv (2 ^ (min c 32))) = ((shr_u32 x c).toNat : Int) := by
    have hp : (2 : Int) ^ (min c 32) = ((2 ^ (min c 32) : Nat) : Int) := by rw [Int.natCast_pow]; rfl
    rw [hp, Int.fdiv_eq_ediv_of_nonneg _ (Int.natCast_nonneg _), ← Int.natCast_ediv, shr_u32, UInt32.toNat_ofNat']
    congr 1
    rw [Nat.mod_eq_of_lt (Nat.lt_of_le_of_lt (Nat.div_le_self _ _) hx)]
    by_cases hc : c ≤ 32
    · rw [Nat.min_eq_left hc]
    · rw [Nat.min_eq_right (by omega), Nat.div_eq_of_lt (by simpa using hx), Nat.div_eq_of_lt]
      exact Nat.lt_of_lt_of_le (by simpa using hx) (Nat.pow_le_pow_right (by omega) (by omega : 32 ≤ c))
  simp only [binV, v32, shiftV, h0, ↓reduceIte, Int.toNat_natCast, IntKind.bits, e]
theorem shl_u32_v (x : UInt32) (kk : IntKind) (c : Nat) : binV .shl (v32 x) (.int kk (c : Int)) = some (v32 (shl_u32 x c)) := by
  have h0 : ((c : Int) < 0) = False := by simp only [eq_iff_iff, iff_false]; omega
  have e : IntKind.wrap .u32 ((x.toNat : Int) * (2 ^ (min c 32))) = ((shl_u32 x c).toNat : Int) := by
    have hp : (2 : Int) ^ (min c 32) = ((2 ^ (min c 32) : Nat) : Int) := by rw [Int.natCast_pow]; rfl
    rw [hp, ← Int.natCast_mul, wrap_u32_mod, shl_u32, UInt32.toNat_ofNat']
    congr 1
    by_cases hc : c ≤ 32
    · rw [Nat.min_eq_left hc]
    · rw [Nat.min_eq_right (by omega)]
      have : 2 ^ c = 2 ^ 32 * 2 ^ (c - 32) := by rw [← Nat.pow_add]; congr 1; omega
      rw [this, ← Nat.mul_assoc, Nat.mul_right_comm]
      simp [Nat.mul_mod_left]
  simp only [binV, v32, shiftV, h0, ↓reduceIte, Int.toNat_natCast, IntKind.bits, e]

/-! ### UInt64 -/
def v64 (x : UInt64) : Value := .int .u64 (x.toNat : Int)
theorem wrap_u64 (n : Nat) (h : n < 18446744073709551616) : IntKind.wrap .u64 (n : Int) = (n : Int) := by
  simp only [IntKind.wrap, IntKind.bits, IntKind.signed, Bool.false_and, Bool.false_eq_true, ↓reduceIte]
  omega
theorem wrap_u64_mod (n : Nat) : IntKind.wrap .u64 (n : Int) = ((n % 18446744073709551616 : Nat) : Int) := by
  simp only [IntKind.wrap, IntKind.bits, IntKind.signed, Bool.false_and, Bool.false_eq_true, ↓reduceIte]
  omega
theorem v64_lt (x : UInt64) : x.toNat < 18446744073709551616 := x.toNat_lt
theorem bv_u64 (x : UInt64) : BitVec.ofInt (IntKind.bits .u64) (x.toNat : Int) = x.toBitVec := by
  apply BitVec.eq_of_toNat_eq
  simp only [IntKind.bits, BitVec.ofInt_natCast, BitVec.toNat_ofNat, UInt64.toNat_toBitVec]
  exact Nat.mod_eq_of_lt x.toNat_lt

theorem lit_u64 (n : Nat) (h : n < 18446744073709551616) : Value.int .u64 (no_index (@OfNat.ofNat Int n _)) = v64 (@OfNat.ofNat UInt64 n _) := by
  have : ((@OfNat.ofNat UInt64 n _).toNat : Int) = (@OfNat.ofNat Int n _) := by
    have e : (@OfNat.ofNat UInt64 n _).toNat = n := by rw [UInt64.toNat_ofNat]; exact Nat.mod_eq_of_lt h
    rw [e]; rfl
  rw [v64, this]
theorem bin_add_u64 (x y : UInt64) : binV .add (v64 x) (v64 y) = some (v64 (x + y)) := by
  simp only [binV, v64, intV, ↓reduceIte, UInt64.toNat_add]
  rw [← Int.natCast_add, wrap_u64_mod]
theorem bin_mul_u64 (x y : UInt64) : binV .mul (v64 x) (v64 y) = some (v64 (x * y)) := by
  simp only [binV, v64, intV, ↓reduceIte, UInt64.toNat_mul]
  rw [← Int.natCast_mul, wrap_u64_mod]
theorem bin_sub_u64 (x y : UInt64) : binV .sub (v64 x) (v64 y) = some (v64 (x - y)) := by
  have hx := x.toNat_lt; have hy := y.toNat_lt
  have e : IntKind.wrap .u64 ((x.toNat : Int) - (y.toNat : Int)) = ((x - y).toNat : Int) := by
    rw [UInt64.toNat_sub]
    simp only [IntKind.wrap, IntKind.bits, IntKind.signed, Bool.false_and, Bool.false_eq_true, ↓reduceIte]
    omega
  simp only [binV, v64, intV, ↓reduceIte, e]
theorem bin_and_u64 (x y : UInt64) : binV .and (v64 x) (v64 y) = some (v64 (x &&& y)) := by
  simp only [binV, v64, intV, ↓reduceIte, bitV, bv_u64, Option.map_some]
  show some (Value.int .u64 (IntKind.wrap .u64 ((x &&& y).toNat : Int))) = _
  rw [wrap_u64 _ (x &&& y).toNat_lt]
theorem bin_or_u64 (x y : UInt64) : binV .or (v64 x) (v64 y) = some (v64 (x ||| y)) := by
  simp only [binV, v64, intV, ↓reduceIte, bitV, bv_u64, Option.map_some]
  show some (Value.int .u64 (IntKind.wrap .u64 ((x ||| y).toNat : Int))) = _
  rw [wrap_u64 _ (x ||| y).toNat_lt]
theorem bin_xor_u64 (x y : UInt64) : binV .xor (v64 x) (v64 y) = some (v64 (x ^^^ y)) := by
  simp only [binV, v64, intV, ↓reduceIte, bitV, bv_u64, Option.map_some]
  show some (Value.int .u64 (IntKind.wrap .u64 ((x ^^^ y).toNat : Int))) = _
  rw [wrap_u64 _ (x ^^^ y).toNat_lt]
theorem un_xor_u64 (x : UInt64) : unV .xor (v64 x) = some (v64 (~~~ x)) := by
  have hx := x.toNat_lt
  have e : (BitVec.ofInt (IntKind.bits .u64) (IntKind.max .u64)) = BitVec.allOnes 64 := rfl
  have e2 : (BitVec.allOnes 64 ^^^ x.toBitVec) = (~~~ x).toBitVec := by rw [UInt64.toBitVec_not]; exact BitVec.allOnes_xor
  simp only [unV, v64, bitV, bv_u64, IntKind.signed, Bool.false_eq_true, ↓reduceIte, e, Option.map_some]
  show some (Value.int .u64 (IntKind.wrap .u64 ((BitVec.allOnes 64 ^^^ x.toBitVec).toNat : Int))) = _
  rw [e2]
  show some (Value.int .u64 (IntKind.wrap .u64 ((~~~ x).toNat : Int))) = _
  rw [wrap_u64 _ (~~~ x).toNat_lt]
def shr_u64 (x : UInt64) (n : Nat) : UInt64 := UInt64.ofNat (x.toNat / 2 ^ n)
def shl_u64 (x : UInt64) (n : Nat) : UInt64 := UInt64.ofNat (x.toNat * 2 ^ n)
theorem bin_lss_u64 (x y : UInt64) : binV .lss (v64 x) (v64 y) = some (.bool (decide (x < y))) := by
  simp only [binV, v64, intV, ↓reduceIte, cmpV, UInt64.lt_iff_toNat_lt, Int.ofNat_lt, Int.ofNat_le]
theorem bin_leq_u64 (x y : UInt64) : binV .leq (v64 x) (v64 y) = some (.bool (decide (x ≤ y))) := by
  simp only [binV, v64, intV, ↓reduceIte, cmpV, UInt64.le_iff_toNat_le, Int.ofNat_lt, Int.ofNat_le]
theorem bin_gtr_u64 (x y : UInt64) : binV .gtr (v64 x) (v64 y) = some (.bool (decide (y < x))) := by
  simp only [binV, v64, intV, ↓reduceIte, cmpV, UInt64.lt_iff_toNat_lt, Int.ofNat_lt, Int.ofNat_le, gt_iff_lt, ge_iff_le]
theorem bin_geq_u64 (x y : UInt64) : binV .geq (v64 x) (v64 y) = some (.bool (decide (y ≤ x))) := by
  simp only [binV, v64, intV, ↓reduceIte, cmpV, UInt64.le_iff_toNat_le, Int.ofNat_lt, Int.ofNat_le, gt_iff_lt, ge_iff_le]
theorem beq_u64 (x y : UInt64) : ((x.toNat : Int) == (y.toNat : Int)) = (x == y) := by
  rw [Bool.eq_iff_iff, beq_iff_eq, beq_iff_eq, Int.ofNat_inj, UInt64.toNat_inj]
theorem bin_eql_u64 (x y : UInt64) : binV .eql (v64 x) (v64 y) = some (.bool (x == y)) := by
  simp only [binV, v64, intV, ↓reduceIte, cmpV, beq_u64]
theorem bin_neq_u64 (x y : UInt64) : binV .neq (v64 x) (v64 y) = some (.bool (x != y)) := by
  simp only [binV, v64, intV, ↓reduceIte, cmpV, bne, beq_u64]
theorem bin_quo_u64 (x y : UInt64) (h : 0 < y.toNat) : binV .quo (v64 x) (v64 y) = some (v64 (x / y)) := by
  have hx := x.toNat_lt
  have e : IntKind.wrap .u64 ((x.toNat : Int).tdiv (y.toNat : Int)) = ((x / y).toNat : Int) := by
    rw [UInt64.toNat_div, Int.tdiv_eq_ediv_of_nonneg (by omega), ← Int.natCast_ediv, wrap_u64_mod]
    congr 1
    exact Nat.mod_eq_of_lt (Nat.lt_of_le_of_lt (Nat.div_le_self _ _) hx)
  have h0 : ((y.toNat : Int) = 0) = False := by simp only [eq_iff_iff, iff_false]; omega
  simp only [binV, v64, intV, ↓reduceIte, h0, e]
theorem bin_rem_u64 (x y : UInt64) (h : 0 < y.toNat) : binV .rem (v64 x) (v64 y) = some (v64 (x % y)) := by
  have e : ((x.toNat : Int).tmod (y.toNat : Int)) = ((x % y).toNat : Int) := by
    rw [UInt64.toNat_mod, Int.tmod_eq_emod_of_nonneg (by omega), Int.natCast_emod]
  have h0 : ((y.toNat : Int) = 0) = False := by simp only [eq_iff_iff, iff_false]; omega
  simp only [binV, v64, intV, ↓reduceIte, h0, e]
theorem shr_u64_v (x : UInt64) (kk : IntKind) (c : Nat) : binV .shr (v64 x) (.int kk (c : Int)) = some (v64 (shr_u64 x c)) := by
  have hx := x.toNat_lt
  have h0 : ((c : Int) < 0) = False := by simp only [eq_iff_iff, iff_false]; omega
  have e : ((x.toNat : Int).fdiv (2 ^ (min c 64))) = ((shr_u64 x c).toNat : Int) := by
    have hp : (2 : Int) ^ (min c 64) = ((2 ^ (min c 64) : Nat) : Int) := by rw [Int.natCast_pow]; rfl
    rw [hp, Int.fdiv_eq_ediv_of_nonneg _ (Int.natCast_nonneg _), ← Int.natCast_ediv, shr_u64, UInt64.toNat_ofNat']
    congr 1
    rw [Nat.mod_eq_of_lt (Nat.lt_of_le_of_lt (Nat.div_le_self _ _) hx)]
    by_cases hc : c ≤ 64
    · rw [Nat.min_eq_left hc]
    · rw [Nat.min_eq_right (by omega), Nat.div_eq_of_lt (by simpa using hx), Nat.div_eq_of_lt]
      exact Nat.lt_of_lt_of_le (by simpa using hx) (Nat.pow_le_pow_right (by omega) (by omega : 64 ≤ c))
  simp only [binV, v64, shiftV, h0, ↓reduceIte, Int.toNat_natCast, IntKind.bits, e]
theorem shl_u64_v (x : UInt64) (kk : IntKind) (c : Nat) : binV .shl (v64 x) (.int kk (c : Int)) = some (v64 (shl_u64 x c)) := by
  have h0 : ((c : Int) < 0) = False := by simp only [eq_iff_iff, iff_false]; omega
  have e : IntKind.wrap .u64 ((x.toNat : Int) * (2 ^ (min c 64))) = ((shl_u64 x c).toNat : Int) := by
    have hp : (2 : Int) ^ (min c 64) = ((2 ^ (min c 64) : Nat) : Int) := by rw [Int.natCast_pow]; rfl
    rw [hp, ← Int.natCast_mul, wrap_u64_mod, shl_u64, UInt64.toNat_ofNat']
    congr 1
    by_cases hc : c ≤ 64
    · rw [Nat.min_eq_left hc]
    · rw [Nat.min_eq_right (by omega)]
      have : 2 ^ c = 2 ^ 64 * 2 ^ (c - 64) := by rw [← Nat.pow_add]; congr 1; omega
      rw [this, ← Nat.mul_assoc, Nat.mul_right_comm]
      simp [Nat.mul_mod_left]
  simp only [binV, v64, shiftV, h0, ↓reduceIte, Int.toNat_natCast, IntKind.bits, e]
theorem bin_shr_u8_u8 (x : UInt8) (c : UInt8) : binV .shr (v8 x) (v8 c) = some (v8 (shr_u8 x c.toNat)) := shr_u8_v x _ _
theorem bin_shl_u8_u8 (x : UInt8) (c : UInt8) : binV .shl (v8 x) (v8 c) = some (v8 (shl_u8 x c.toNat)) := shl_u8_v x _ _
theorem conv_u8_u8 (x : UInt8) : convI .u8 (v8 x) = some (v8 (UInt8.ofNat x.toNat)) := by
  simp only [convI, v8, v8, wrap_u8_mod, UInt8.toNat_ofNat']
theorem bin_shr_u8_u16 (x : UInt8) (c : UInt16) : binV .shr (v8 x) (v16 c) = some (v8 (shr_u8 x c.toNat)) := shr_u8_v x _ _
theorem bin_shl_u8_u16 (x : UInt8) (c : UInt16) : binV .shl (v8 x) (v16 c) = some (v8 (shl_u8 x c.toNat)) := shl_u8_v x _ _
theorem conv_u8_u16 (x : UInt8) : convI .u16 (v8 x) = some (v16 (UInt16.ofNat x.toNat)) := by
  simp only [convI, v8, v16, wrap_u16_mod, UInt16.toNat_ofNat']
theorem bin_shr_u8_u32 (x : UInt8) (c : UInt32) : binV .shr (v8 x) (v32 c) = some (v8 (shr_u8 x c.toNat)) := shr_u8_v x _ _
theorem bin_shl_u8_u32 (x : UInt8) (c : UInt32) : binV .shl (v8 x) (v32 c) = some (v8 (shl_u8 x c.toNat)) := shl_u8_v x _ _
theorem conv_u8_u32 (x : UInt8) : convI .u32 (v8 x) = some (v32 (UInt32.ofNat x.toNat)) := by
  simp only [convI, v8, v32, wrap_u32_mod, UInt32.toNat_ofNat']
theorem bin_shr_u8_u64 (x : UInt8) (c : UInt64) : binV .shr (v8 x) (v64 c) = some (v8 (shr_u8 x c.toNat)) := shr_u8_v x _ _
theorem bin_shl_u8_u64 (x : UInt8) (c : UInt64) : binV .shl (v8 x) (v64 c) = some (v8 (shl_u8 x c.toNat)) := shl_u8_v x _ _
theorem conv_u8_u64 (x : UInt8) : convI .u64 (v8 x) = some (v64 (UInt64.ofNat x.toNat)) := by
  simp only [convI, v8, v64, wrap_u64_mod, UInt64.toNat_ofNat']
theorem bin_shr_u8_i (x : UInt8) (kk : IntKind) (c : Int) (h : 0 ≤ c) : binV .shr (v8 x) (.int kk c) = some (v8 (shr_u8 x c.toNat)) := by
  obtain ⟨n, rfl⟩ := Int.eq_ofNat_of_zero_le h; exact shr_u8_v x _ _
theorem bin_shl_u8_i (x : UInt8) (kk : IntKind) (c : Int) (h : 0 ≤ c) : binV .shl (v8 x) (.int kk c) = some (v8 (shl_u8 x c.toNat)) := by
  obtain ⟨n, rfl⟩ := Int.eq_ofNat_of_zero_le h; exact shl_u8_v x _ _
theorem conv_u8_i64 (x : UInt8) : convI .i64 (v8 x) = some (.int .i64 ((x.toNat : Int))) := by
  have hx := x.toNat_lt
  simp only [convI, v8]
  rw [wrap_i64 _ (by omega)]
theorem conv_i64_u8 (kk : IntKind) (n : Int) : convI .u8 (.int kk n) = some (v8 (UInt8.ofInt n)) := by
  simp only [convI, v8, wrap_u8_ofInt]
theorem bin_shr_u16_u8 (x : UInt16) (c : UInt8) : binV .shr (v16 x) (v8 c) = some (v16 (shr_u16 x c.toNat)) := shr_u16_v x _ _
theorem bin_shl_u16_u8 (x : UInt16) (c : UInt8) : binV .shl (v16 x) (v8 c) = some (v16 (shl_u16 x c.toNat)) := shl_u16_v x _ _
theorem conv_u16_u8 (x : UInt16) : convI .u8 (v16 x) = some (v8 (UInt8.ofNat x.toNat)) := by
  simp only [convI, v16, v8, wrap_u8_mod, UInt8.toNat_ofNat']
theorem bin_shr_u16_u16 (x : UInt16) (c : UInt16) : binV .shr (v16 x) (v16 c) = some (v16 (shr_u16 x c.toNat)) := shr_u16_v x _ _
theorem bin_shl_u16_u16 (x : UInt16) (c : UInt16) : binV .shl (v16 x) (v16 c) = some (v16 (shl_u16 x c.toNat)) := shl_u16_v x _ _
theorem conv_u16_u16 (x : UInt16) : convI .u16 (v16 x) = some (v16 (UInt16.ofNat x.toNat)) := by
  simp only [convI, v16, v16, wrap_u16_mod, UInt16.toNat_ofNat']
theorem bin_shr_u16_u32 (x : UInt16) (c : UInt32) : binV .shr (v16 x) (v32 c) = some (v16 (shr_u16 x c.toNat)) := shr_u16_v x _ _
theorem bin_shl_u16_u32 (x : UInt16) (c : UInt32) : binV .shl (v16 x) (v32 c) = some (v16 (shl_u16 x c.toNat)) := shl_u16_v x _ _
theorem conv_u16_u32 (x : UInt16) : convI .u32 (v16 x) = some (v32 (UInt32.ofNat x.toNat)) := by
  simp only [convI, v16, v32, wrap_u32_mod, UInt32.toNat_ofNat']
theorem bin_shr_u16_u64 (x : UInt16) (c : UInt64) : binV .shr (v16 x) (v64 c) = some (v16 (shr_u16 x c.toNat)) := shr_u16_v x _ _
theorem bin_shl_u16_u64 (x : UInt16) (c : UInt64) : binV .shl (v16 x) (v64 c) = some (v16 (shl_u16 x c.toNat)) := shl_u16_v x _ _
theorem conv_u16_u64 (x : UInt16) : convI .u64 (v16 x) = some (v64 (UInt64.ofNat x.toNat)) := by
  simp only [convI, v16, v64, wrap_u64_mod, UInt64.toNat_ofNat']
theorem bin_shr_u16_i (x : UInt16) (kk : IntKind) (c : Int) (h : 0 ≤ c) : binV .shr (v16 x) (.int kk c) = some (v16 (shr_u16 x c.toNat)) := by
  obtain ⟨n, rfl⟩ := Int.eq_ofNat_of_zero_le h; exact shr_u16_v x _ _
theorem bin_shl_u16_i (x : UInt16) (kk : IntKind) (c : Int) (h : 0 ≤ c) : binV .shl (v16 x) (.int kk c) = some (v16 (shl_u16 x c.toNat)) := by
  obtain ⟨n, rfl⟩ := Int.eq_ofNat_of_zero_le h; exact shl_u16_v x _ _
theorem conv_u16_i64 (x : UInt16) : convI .i64 (v16 x) = some (.int .i64 ((x.toNat : Int))) := by
  have hx := x.toNat_lt
  simp only [convI, v16]
  rw [wrap_i64 _ (by omega)]
theorem conv_i64_u16 (kk : IntKind) (n : Int) : convI .u16 (.int kk n) = some (v16 (UInt16.ofInt n)) := by
  simp only [convI, v16, wrap_u16_ofInt]
theorem bin_shr_u32_u8 (x : UInt32) (c : UInt8) : binV .shr (v32 x) (v8 c) = some (v32 (shr_u32 x c.toNat)) := shr_u32_v x _ _
theorem bin_shl_u32_u8 (x : UInt32) (c : UInt8) : binV .shl (v32 x) (v8 c) = some (v32 (shl_u32 x c.toNat)) := shl_u32_v x _ _
theorem conv_u32_u8 (x : UInt32) : convI .u8 (v32 x) = some (v8 (UInt8.ofNat x.toNat)) := by
  simp only [convI, v32, v8, wrap_u8_mod, UInt8.toNat_ofNat']
theorem bin_shr_u32_u16 (x : UInt32) (c : UInt16) : binV .shr (v32 x) (v16 c) = some (v32 (shr_u32 x c.toNat)) := shr_u32_v x _ _
theorem bin_shl_u32_u16 (x : UInt32) (c : UInt16) : binV .shl (v32 x) (v16 c) = some (v32 (shl_u32 x c.toNat)) := shl_u32_v x _ _
theorem conv_u32_u16 (x : UInt32) : convI .u16 (v32 x) = some (v16 (UInt16.ofNat x.toNat)) := by
  simp only [convI, v32, v16, wrap_u16_mod, UInt16.toNat_ofNat']
theorem bin_shr_u32_u32 (x : UInt32) (c : UInt32) : binV .shr (v32 x) (v32 c) = some (v32 (shr_u32 x c.toNat)) := shr_u32_v x _ _
theorem bin_shl_u32_u32 (x : UInt32) (c : UInt32) : binV .shl (v32 x) (v32 c) = some (v32 (shl_u32 x c.toNat)) := shl_u32_v x _ _
theorem conv_u32_u32 (x : UInt32) : convI .u32 (v32 x) = some (v32 (UInt32.ofNat x.toNat)) := by
  simp only [convI, v32, v32, wrap_u32_mod, UInt32.toNat_ofNat']
theorem bin_shr_u32_u64 (x : UInt32) (c : UInt64) : binV .shr (v32 x) (v64 c) = some (v32 (shr_u32 x c.toNat)) := shr_u32_v x _ _
theorem bin_shl_u32_u64 (x : UInt32) (c : UInt64) : binV .shl (v32 x) (v64 c) = some (v32 (shl_u32 x c.toNat)) := shl_u32_v x _ _
theorem conv_u32_u64 (x : UInt32) : convI .u64 (v32 x) = some (v64 (UInt64.ofNat x.toNat)) := by
  simp only [convI, v32, v64, wrap_u64_mod, UInt64.toNat_ofNat']
theorem bin_shr_u32_i (x : UInt32) (kk : IntKind) (c : Int) (h : 0 ≤ c) : binV .shr (v32 x) (.int kk c) = some (v32 (shr_u32 x c.toNat)) := by
  obtain ⟨n, rfl⟩ := Int.eq_ofNat_of_zero_le h; exact shr_u32_v x _ _
theorem bin_shl_u32_i (x : UInt32) (kk : IntKind) (c : Int) (h : 0 ≤ c) : binV .shl (v32 x) (.int kk c) = some (v32 (shl_u32 x c.toNat)) := by
  obtain ⟨n, rfl⟩ := Int.eq_ofNat_of_zero_le h; exact shl_u32_v x _ _
theorem conv_u32_i64 (x : UInt32) : convI .i64 (v32 x) = some (.int .i64 ((x.toNat : Int))) := by
  have hx := x.toNat_lt
  simp only [convI, v32]
  rw [wrap_i64 _ (by omega)]
theorem conv_i64_u32 (kk : IntKind) (n : Int) : convI .u32 (.int kk n) = some (v32 (UInt32.ofInt n)) := by
  simp only [convI, v32, wrap_u32_ofInt]
theorem bin_shr_u64_u8 (x : UInt64) (c : UInt8) : binV .shr (v64 x) (v8 c) = some (v64 (shr_u64 x c.toNat)) := shr_u64_v x _ _
theorem bin_shl_u64_u8 (x : UInt64) (c : UInt8) : binV .shl (v64 x) (v8 c) = some (v64 (shl_u64 x c.toNat)) := shl_u64_v x _ _
theorem conv_u64_u8 (x : UInt64) : convI .u8 (v64 x) = some (v8 (UInt8.ofNat x.toNat)) := by
  simp only [convI, v64, v8, wrap_u8_mod, UInt8.toNat_ofNat']
theorem bin_shr_u64_u16 (x : UInt64) (c : UInt16) : binV .shr (v64 x) (v16 c) = some (v64 (shr_u64 x c.toNat)) := shr_u64_v x _ _
theorem bin_shl_u64_u16 (x : UInt64) (c : UInt16) : binV .shl (v64 x) (v16 c) = some (v64 (shl_u64 x c.toNat)) := shl_u64_v x _ _
theorem conv_u64_u16 (x : UInt64) : convI .u16 (v64 x) = some (v16 (UInt16.ofNat x.toNat)) := by
  simp only [convI, v64, v16, wrap_u16_mod, UInt16.toNat_ofNat']
theorem bin_shr_u64_u32 (x : UInt64) (c : UInt32) : binV .shr (v64 x) (v32 c) = some (v64 (shr_u64 x c.toNat)) := shr_u64_v x _ _
theorem bin_shl_u64_u32 (x : UInt64) (c : UInt32) : binV .shl (v64 x) (v32 c) = some (v64 (shl_u64 x c.toNat)) := shl_u64_v x _ _
theorem conv_u64_u32 (x : UInt64) : convI .u32 (v64 x) = some (v32 (UInt32.ofNat x.toNat)) := by
  simp only [convI, v64, v32, wrap_u32_mod, UInt32.toNat_ofNat']
theorem bin_shr_u64_u64 (x : UInt64) (c : UInt64) : binV .shr (v64 x) (v64 c) = some (v64 (shr_u64 x c.toNat)) := shr_u64_v x _ _
theorem bin_shl_u64_u64 (x : UInt64) (c : UInt64) : binV .shl (v64 x) (v64 c) = some (v64 (shl_u64 x c.toNat)) := shl_u64_v x _ _
theorem conv_u64_u64 (x : UInt64) : convI .u64 (v64 x) = some (v64 (UInt64.ofNat x.toNat)) := by
  simp only [convI, v64, v64, wrap_u64_mod, UInt64.toNat_ofNat']
theorem bin_shr_u64_i (x : UInt64) (kk : IntKind) (c : Int) (h : 0 ≤ c) : binV .shr (v64 x) (.int kk c) = some (v64 (shr_u64 x c.toNat)) := by
  obtain ⟨n, rfl⟩ := Int.eq_ofNat_of_zero_le h; exact shr_u64_v x _ _
theorem bin_shl_u64_i (x : UInt64) (kk : IntKind) (c : Int) (h : 0 ≤ c) : binV .shl (v64 x) (.int kk c) = some (v64 (shl_u64 x c.toNat)) := by
  obtain ⟨n, rfl⟩ := Int.eq_ofNat_of_zero_le h; exact shl_u64_v x _ _
theorem conv_u64_i64 (x : UInt64) : convI .i64 (v64 x) = some (.int .i64 (IntKind.wrap .i64 (x.toNat : Int))) := by
  have hx := x.toNat_lt
  simp only [convI, v64]
theorem conv_i64_u64 (kk : IntKind) (n : Int) : convI .u64 (.int kk n) = some (v64 (UInt64.ofInt n)) := by
  simp only [convI, v64, wrap_u64_ofInt]
theorem conv_vi_u8 (n : Int) : convI .u8 (vi n) = some (v8 (UInt8.ofInt n)) := conv_i64_u8 _ n
theorem conv_vi_u16 (n : Int) : convI .u16 (vi n) = some (v16 (UInt16.ofInt n)) := conv_i64_u16 _ n
theorem conv_vi_u32 (n : Int) : convI .u32 (vi n) = some (v32 (UInt32.ofInt n)) := conv_i64_u32 _ n
theorem conv_vi_u64 (n : Int) : convI .u64 (vi n) = some (v64 (UInt64.ofInt n)) := conv_i64_u64 _ n
theorem bin_shr_u8_vi (x : UInt8) (c : Int) (h : 0 ≤ c) : binV .shr (v8 x) (vi c) = some (v8 (shr_u8 x c.toNat)) := bin_shr_u8_i x _ c h
theorem bin_shl_u8_vi (x : UInt8) (c : Int) (h : 0 ≤ c) : binV .shl (v8 x) (vi c) = some (v8 (shl_u8 x c.toNat)) := bin_shl_u8_i x _ c h
theorem bin_shr_u16_vi (x : UInt16) (c : Int) (h : 0 ≤ c) : binV .shr (v16 x) (vi c) = some (v16 (shr_u16 x c.toNat)) := bin_shr_u16_i x _ c h
theorem bin_shl_u16_vi (x : UInt16) (c : Int) (h : 0 ≤ c) : binV .shl (v16 x) (vi c) = some (v16 (shl_u16 x c.toNat)) := bin_shl_u16_i x _ c h
theorem bin_shr_u32_vi (x : UInt32) (c : Int) (h : 0 ≤ c) : binV .shr (v32 x) (vi c) = some (v32 (shr_u32 x c.toNat)) := bin_shr_u32_i x _ c h
theorem bin_shl_u32_vi (x : UInt32) (c : Int) (h : 0 ≤ c) : binV .shl (v32 x) (vi c) = some (v32 (shl_u32 x c.toNat)) := bin_shl_u32_i x _ c h
theorem bin_shr_u64_vi (x : UInt64) (c : Int) (h : 0 ≤ c) : binV .shr (v64 x) (vi c) = some (v64 (shr_u64 x c.toNat)) := bin_shr_u64_i x _ c h
theorem bin_shl_u64_vi (x : UInt64) (c : Int) (h : 0 ≤ c) : binV .shl (v64 x) (vi c) = some (v64 (shl_u64 x c.toNat)) := bin_shl_u64_i x _ c h
end Go.Sx
