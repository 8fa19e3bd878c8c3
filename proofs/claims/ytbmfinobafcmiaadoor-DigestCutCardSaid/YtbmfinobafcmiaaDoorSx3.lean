/-
  The third part: the evaluator of operations over a frame and known blocks.
  No conditions.
-/
import Derived.Test.YtbmfinobafcmiaaDoorSx1
import Derived.Test.YtbmfinobafcmiaaDoorSx2
namespace Go.Sx
open Go
set_option linter.unusedSimpArgs false

/-! ### What is asked of the types -/
def isAggD : TypeDesc → Bool
  | .struct _ => true
  | .array _ _ => true
  | _ => false

/-- Is a type a struct or an array, and how many cells has it? -/
def aggT (P : Program) (t : TypeId) : Option (Bool × Nat) :=
  match P.underlying t, P.info? t with
  | some d, some i => some (isAggD d, i.size)
  | _, _ => none

inductive Ix where
  | arr (n : Nat) (m : Bool × Nat)
  | sl (m : Bool × Nat)
  | str
  | no

def ixT (P : Program) (t : TypeId) : Ix :=
  match P.underlying t with
  | some (.array n e) => match aggT P e with | some m => .arr n m | none => .no
  | some (.slice e) => match aggT P e with | some m => .sl m | none => .no
  | some .string => .str
  | _ => .no

/-- A field: where it lies, and what it is. -/
def fldT (P : Program) (t : TypeId) (i : Nat) : Option (Nat × (Bool × Nat)) :=
  match P.underlying t with
  | some (.struct fs) => match fs[i]? with
    | some fd => match aggT P fd.type with
      | some m => some (fd.offset, m)
      | none => none
    | none => none
  | _ => none

inductive Cv where
  | int (k : IntKind)
  | str
  | bytesStr
  | strBytes (e : TypeId)
  | no

/-- What a conversion is. -/
def cvT (P : Program) (s d : TypeId) : Cv :=
  match P.underlying s, P.underlying d with
  | some (.int _), some (.int k) => .int k
  | some .string, some .string => .str
  | some (.slice e), some .string => match P.underlying e with | some (.int .u8) => .bytesStr | _ => .no
  | some .string, some (.slice e) => match P.underlying e with | some (.int .u8) => .strBytes e | _ => .no
  | _, _ => .no

section
variable {P : Program}
theorem aggT_spec {t : TypeId} {m : Bool × Nat} (h : aggT P t = some m) : ∃ d i, P.underlying t = some d ∧ P.info? t = some i ∧ isAggD d = m.1 ∧ i.size = m.2 := by
  unfold aggT at h
  split at h
  · rename_i d i hd hi
    cases h
    exact ⟨d, i, hd, hi, rfl, rfl⟩
  · cases h

theorem run_isAgg {t : TypeId} {m : Bool × Nat} (h : aggT P t = some m) (w : World) : (isAgg t).run P w = .ok m.1 w := by
  obtain ⟨d, i, hd, hi, h1, _⟩ := aggT_spec h
  unfold isAgg
  rw [Sem.run_bind, run_underlying hd w, ← h1]
  cases d <;> rfl

theorem run_sizeOf {t : TypeId} {m : Bool × Nat} (h : aggT P t = some m) (w : World) : (sizeOf t).run P w = .ok m.2 w := by
  obtain ⟨d, i, hd, hi, _, h2⟩ := aggT_spec h
  simp [sizeOf, typeInfo, hi, h2]

def partV (m : Bool × Nat) (cs : Array Value) (off : Nat) : Option Value :=
  if m.1 then some (.agg (cs.extract off (off + m.2))) else cs[off]?

theorem run_part {t : TypeId} {m : Bool × Nat} (h : aggT P t = some m) {cs : Array Value} {off : Nat} {v : Value} (hv : partV m cs off = some v) (w : World) : (part t cs off).run P w = .ok v w := by
  unfold part
  rw [Sem.run_bind, run_isAgg h w]
  simp only [Result.andThen_ok]
  unfold partV at hv
  cases hm : m.1 with
  | true =>
    rw [hm] at hv
    simp only [↓reduceIte, Option.some.injEq] at hv
    simp only [↓reduceIte]
    rw [Sem.run_bind, run_sizeOf h w]
    simp only [Result.andThen_ok, Sem.run_pure, hv]
  | false =>
    rw [hm] at hv
    simp only [Bool.false_eq_true, ↓reduceIte] at hv
    simp only [Bool.false_eq_true, ↓reduceIte, hv, Sem.run_pure]
end

/-! ### Values -/
def vp (b off : Nat) : Value := .pointer (some ⟨b, off, none⟩)
def vsl (b off n c : Nat) : Value := .slice (some ⟨b, off, none⟩) n c
def vs (l : List UInt8) : Value := .string ⟨l.toArray⟩

theorem add_spot (b o n : Nat) : (Addr.mk b o none).add n = ⟨b, o + n, none⟩ := by
  unfold Addr.add; split <;> simp_all

def ixI : Value → Option Int
  | .int _ n => some n
  | _ => none

def indexV (x : Ix) (v : Value) (i : Option Int) : Option Value :=
  match x, v, i with
  | .arr n m, .agg cs, some k => if 0 ≤ k ∧ k < n then partV m cs (k.toNat * m.2) else none
  | .str, .string s, some k => if 0 ≤ k then (s[k.toNat]?).map fun b => .int .u8 (b.toNat : Int) else none
  | _, _, _ => none

def indexAddrV (x : Ix) (v : Value) (i : Option Int) : Option Value :=
  match x, v, i with
  | .arr n m, .pointer (some a), some k => if 0 ≤ k ∧ k < n then some (.pointer (some (a.add (k.toNat * m.2)))) else none
  | .sl m, .slice (some a) n _, some k => if 0 ≤ k ∧ k < n then some (.pointer (some (a.add (k.toNat * m.2)))) else none
  | _, _, _ => none

def fieldAddrV (x : Option (Nat × (Bool × Nat))) (v : Value) : Option Value :=
  match x, v with
  | some (off, m), .pointer (some a) => if m.2 = 0 then none else some (.pointer (some (a.add off)))
  | _, _ => none

def fieldV (x : Option (Nat × (Bool × Nat))) (v : Value) : Option Value :=
  match x, v with
  | some (off, m), .agg cs => partV m cs off
  | _, _ => none

def nilV (v : Value) : Option Value :=
  match v with
  | .pointer (some a) => some (.pointer (some a))
  | .func (.func k) a b => some (.func (.func k) a b)
  | _ => none

def extractV (v : Value) (i : Nat) : Option Value :=
  match v with
  | .tuple vs => vs[i]?
  | _ => none

def lenV (x : Ix) (v : Value) : Option Value :=
  match x, v with
  | .str, .string s => some (.int .i64 s.size)
  | .arr n _, _ => some (.int .i64 n)
  | .sl _, .slice _ n _ => some (.int .i64 n)
  | _, _ => none

def capV (x : Ix) (v : Value) : Option Value :=
  match x, v with
  | .arr n _, _ => some (.int .i64 n)
  | .sl _, .slice _ _ c => some (.int .i64 c)
  | _, _ => none

def pickV (c a b : Value) : Option Value :=
  match c with
  | .bool true => some a
  | .bool false => some b
  | _ => none

/-- The bounds of a slice of n, of c: none: not given. -/
def bndV (n c : Nat) (lo hi : Option (Option Int)) : Option (Nat × Nat) :=
  match lo, hi with
  | none, none => some (0, n)
  | some (some l), none => if 0 ≤ l ∧ l ≤ n then some (l.toNat, n) else none
  | none, some (some h) => if 0 ≤ h ∧ h ≤ c then some (0, h.toNat) else none
  | some (some l), some (some h) => if 0 ≤ l ∧ l ≤ h ∧ h ≤ c then some (l.toNat, h.toNat) else none
  | _, _ => none

def sliceV (x : Ix) (v : Value) (lo hi : Option (Option Int)) : Option Value :=
  match x, v with
  | .str, .string s => match bndV s.size s.size lo hi with
    | some (l, h) => some (.string (s.extract l h))
    | none => none
  | .sl m, .slice a n c => match bndV n c lo hi with
    | some (l, h) => some (.slice (if c = l then a else a.map (·.add (l * m.2))) (h - l) (c - l))
    | none => none
  | .arr n m, .pointer (some a) => match bndV n n lo hi with
    | some (l, h) => some (.slice (some (if n = l then a else a.add (l * m.2))) (h - l) (n - l))
    | none => none
  | _, _ => none

def loadV (m : Option (Bool × Nat)) (o : Option Obj) (off : Nat) : Option Value :=
  match m, o with
  | some (true, n), some (.cells cs _ _) => if off + n ≤ cs.size then some (.agg (cs.extract off (off + n))) else none
  | some (false, _), some (.cells cs _ _) => cs[off]?
  | _, _ => none

def loadAtV (m : Option (Bool × Nat)) (w0 : World) (L : Heap) (v : Value) : Option Value :=
  match v with
  | .pointer (some ⟨b, off, none⟩) => loadV m (readB w0 L b) off
  | _ => none

/-- The bytes that some cells hold. -/
def bytesOf : List Value → Option (List UInt8)
  | [] => some []
  | .int .u8 n :: r => match bytesOf r with
    | some l => some (UInt8.ofNat n.toNat :: l)
    | none => none
  | _ => none

def textV (o : Option Obj) (off n : Nat) : Option Value :=
  match o with
  | some (.cells cs _ _) => if off + n ≤ cs.size then (bytesOf (cs.extract off (off + n)).toList).map fun l => .string ⟨l.toArray⟩ else none
  | _ => none

def textAtV (w0 : World) (L : Heap) (v : Value) : Option Value :=
  match v with
  | .slice none _ _ => some (.string .empty)
  | .slice (some ⟨b, off, none⟩) n _ => textV (readB w0 L b) off n
  | _ => none

def convV (w0 : World) (L : Heap) (c : Cv) (v : Value) : Option Value :=
  match c with
  | .int k => convI k v
  | .str => match v with | .string s => some (.string s) | _ => none
  | .bytesStr => textAtV w0 L v
  | _ => none

/-- '==' of pointers, slices, maps and functions with nil. -/
def eqNilV (d : Option TypeDesc) (x y : Value) : Option Bool :=
  match d, x, y with
  | some (.pointer _), .pointer none, .pointer b => some b.isNone
  | some (.pointer _), .pointer (some _), .pointer none => some false
  | some (.slice _), .slice none _ _, .slice b _ _ => some b.isNone
  | some (.slice _), .slice (some _) _ _, .slice none _ _ => some false
  | some (.map _ _), .map none, .map b => some b.isNone
  | some (.map _ _), .map (some _), .map none => some false
  | some (.func _ _ _), .nilFunc, .nilFunc => some true
  | some (.func _ _ _), .nilFunc, .func _ _ _ => some false
  | some (.func _ _ _), .func _ _ _, .nilFunc => some false
  | some .bool, .bool a, .bool b => some (a == b)
  | _, _, _ => none

/-- Is it a value of which the operators on numbers and texts speak? -/
def plainV : Value → Bool
  | .int _ _ => true
  | .string _ => true
  | _ => false

def eqItemsV (f : Nat → Option Bool) : List Nat → Option Bool
  | [] => some true
  | i :: r => match f i with
    | some true => eqItemsV f r
    | some false => some false
    | none => none
def eqFieldsV (f : Field → Option Bool) : List Field → Option Bool
  | [] => some true
  | x :: r => if x.name ≠ "_" then (match f x with
    | some true => eqFieldsV f r
    | some false => some false
    | none => none) else eqFieldsV f r
def eqPartV (m : Option (Bool × Nat)) (f : Value → Value → Option Bool) (xs ys : Array Value) (off : Nat) : Option Bool :=
  match m with
  | some m => match partV m xs off, partV m ys off with
    | some a, some b => f a b
    | _, _ => none
  | none => none
/-- '==' of what holds numbers, texts and addresses that are nil. -/
def eqD (P : Program) : Nat → TypeId → Value → Value → Option Bool
  | 0, _, _, _ => none
  | d + 1, t, x, y => match P.underlying t, x, y with
    | some (.int _), .int k a, .int k' b => if k = k' then some (a == b) else none
    | some .string, .string a, .string b => some (a == b)
    | some (.array n e), .agg xs, .agg ys => match aggT P e with
      | some m => eqItemsV (fun i => eqPartV (some m) (eqD P d e) xs ys (i * m.2)) (List.range n)
      | none => none
    | some (.struct fs), .agg xs, .agg ys => if P.stoodInHeld t then none else
      eqFieldsV (fun f => eqPartV (aggT P f.type) (eqD P d f.type) xs ys f.offset) fs.toList
    | D, x, y => eqNilV D x y
def eqX (P : Program) (t : TypeId) (x y : Value) : Option Bool :=
  match x, y with
  | .agg xs, .agg ys => if P.eqGuardType P.depth t then none else eqD P 8 t (.agg xs) (.agg ys)
  | x, y => eqNilV (P.underlying t) x y

def binX (P : Program) (op : BinOp) (t : TypeId) (x y : Value) : Option Value :=
  if plainV x && plainV y then binV op x y
  else match op with
    | .eql => (eqX P t x y).map fun b => .bool b
    | .neq => (eqX P t x y).map fun b => .bool (!b)
    | _ => none

/-- The value of an operation that reads at most. -/
def evalV (P : Program) (w0 : World) (L : Heap) (f : Fr) : Op → Option Value
  | .move x => some (ev f x)
  | .assign x => some (ev f x)
  | .pick c a b => pickV (ev f c) (ev f a) (ev f b)
  | .binOp op t x y _ => binX P op t (ev f x) (ev f y)
  | .unOp op _ x => unV op (ev f x)
  | .convert s d x => convV w0 L (cvT P s d) (ev f x)
  | .nilCheck x => nilV (ev f x)
  | .fieldAddr s x i => fieldAddrV (fldT P s i) (ev f x)
  | .field s x i => fieldV (fldT P s i) (ev f x)
  | .indexAddr t x i => indexAddrV (ixT P t) (ev f x) (ixI (ev f i))
  | .index t x i => indexV (ixT P t) (ev f x) (ixI (ev f i))
  | .load t x => loadAtV (aggT P t) w0 L (ev f x)
  | .extract x i => extractV (ev f x) i
  | .slice t x lo hi none => sliceV (ixT P t) (ev f x) (lo.map fun o => ixI (ev f o)) (hi.map fun o => ixI (ev f o))
  | .makeFunc fn a b => some (.func fn (a.map (ev f)) (b.map (ev f)))
  | .call ⟨.builtin .len, args, ts⟩ => match args[0]?, ts[0]? with
    | some x, some t => lenV (ixT P t) (ev f x)
    | _, _ => none
  | .call ⟨.builtin .cap, args, ts⟩ => match args[0]?, ts[0]? with
    | some x, some t => capV (ixT P t) (ev f x)
    | _, _ => none
  | _ => none

theorem mem_of_look {w0 w : World} {L : Heap} (h : Hp w0 L w) {b : Nat} {cs : Array Value} {E : TypeId} {fz : Nat × Nat} (hr : readB w0 L b = some (.cells cs E fz)) (off : Nat) : w.cell? ⟨b, off, none⟩ = cs[off]? :=
  cell_of_row w b off cs E fz (h.read hr)

section
variable {P : Program} {w0 w : World} {L : Heap}

theorem run_loadCells_row {b : Nat} {cs : Array Value} {E : TypeId} {fz : Nat × Nat} (hb : w.heap[b]? = some (.cells cs E fz)) (off n : Nat) (hn : off + n ≤ cs.size) :
    (loadCells ⟨b, off, none⟩ n).run P w = .ok (cs.extract off (off + n)) w := by
  have h := run_loadCells_list (P := P) w ⟨b, off, none⟩ (cs.extract off (off + n)).toList (by
    intro j v hv
    rw [add_spot, cell_of_row w b _ cs E fz hb]
    simp only [Array.getElem?_toList, Array.getElem?_extract] at hv
    split at hv
    · exact hv
    · cases hv)
  have e : (cs.extract off (off + n)).toList.length = n := by simp; omega
  rw [e, Array.toArray_toList] at h
  exact h

theorem run_loadVar {t : TypeId} {b off : Nat} {v : Value} (hw : Hp w0 L w) (h : loadV (aggT P t) (readB w0 L b) off = some v) : (loadVar t ⟨b, off, none⟩).run P w = .ok v w := by
  unfold loadV at h
  split at h
  · rename_i n cs E fz hm ho
    split at h
    · rename_i hn
      simp only [Option.some.injEq] at h; subst h
      unfold loadVar
      rw [Sem.run_bind, run_isAgg hm w]
      simp only [Result.andThen_ok, ↓reduceIte, Sem.run_bind, run_sizeOf hm w, run_loadCells_row (hw.read ho) off n hn, Sem.run_pure]
    · cases h
  · rename_i n cs E fz hm ho
    unfold loadVar
    rw [Sem.run_bind, run_isAgg hm w]
    simp only [Result.andThen_ok, Bool.false_eq_true, ↓reduceIte, run_load, mem_of_look hw ho, h]
  · cases h

theorem forIn_bytes (f : Value → ByteArray → Sem (ForInStep ByteArray)) (hf : ∀ (n : Int) s, f (.int .u8 n) s = pure (.yield (s.push (UInt8.ofNat n.toNat)))) :
    ∀ (l : List Value) (bs : List UInt8) (s : ByteArray) (w : World), bytesOf l = some bs → (forIn l s f).run P w = .ok ⟨s.data ++ bs.toArray⟩ w
  | [], bs, s, w, h => by
    simp only [bytesOf, Option.some.injEq] at h; subst h
    simp
  | v :: r, bs, s, w, h => by
    unfold bytesOf at h
    split at h
    · cases ‹v :: r = []›
    · rename_i n r' e
      cases e
      split at h
      · rename_i l hl
        simp only [Option.some.injEq] at h; subst h
        have ih := forIn_bytes f hf r l (s.push (UInt8.ofNat n.toNat)) w hl
        rw [List.forIn_cons, hf]
        simp only [pure_bind]
        rw [ih]
        congr 1
        apply congrArg
        apply Array.ext'
        simp [ByteArray.push]
      · cases h
    · cases h

theorem run_bytesToString {b off n c : Nat} {v : Value} (hw : Hp w0 L w) (h : textV (readB w0 L b) off n = some v) : (Conv.bytesToString (.slice (some ⟨b, off, none⟩) n c)).run P w = .ok v w := by
  unfold textV at h
  split at h
  · rename_i cs E fz ho
    split at h
    · rename_i hn
      cases hl : bytesOf (cs.extract off (off + n)).toList with
      | none => rw [hl] at h; cases h
      | some l =>
        rw [hl] at h
        simp only [Option.map_some, Option.some.injEq] at h; subst h
        unfold Conv.bytesToString
        simp only [Sem.run_bind, run_loadCells_row (hw.read ho) off n hn, Result.andThen_ok]
        rw [← Array.forIn_toList, forIn_bytes _ (fun n s => rfl) _ _ _ w hl]
        simp [ByteArray.empty, ByteArray.emptyWithCapacity]
        rfl
    · cases h
  · cases h
end
end Go.Sx
