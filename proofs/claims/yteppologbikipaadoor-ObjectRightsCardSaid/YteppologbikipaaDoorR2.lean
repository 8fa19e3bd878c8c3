/-
  Part 2 of the walk: contracts of the functions that the law reaches, and the calculus they stand on.
  No conditions.
-/
import Derived.Test.YteppologbikipaaDoorR1
import Derived.RangeFuncLeaves
import Derived.RangeFuncIn
import Derived.RangeFuncSeq
import Derived.RangeFuncRecord
import Derived.TacticsIn
namespace Go.Sx
open Go
/-- A slice of elements. -/
def SlV {α : Type} (m : Nat) (enc : α → List Value) (z : α) (w : World) (v : Value) (l : List α) : Prop :=
  ∃ b off c arr E fz, RowS m enc z w v l b off arr E fz ∧ l.length ≤ c ∧ ((v = .slice none 0 0 ∧ l = [] ∧ c = 0) ∨ (v = vsl b off l.length c ∧ w.heap[b]? = some (.cells arr E fz) ∧ off + l.length * m ≤ arr.size))
section
variable {α : Type} {m : Nat} {enc : α → List Value} {z : α} {w : World} {v : Value} {l : List α}
theorem RowS.sl' {b off n c : Nat} {arr : Array Value} {E : TypeId} {fz : Nat × Nat} (hn : n = l.length)
    (has : 0 < l.length → w.heap[b]? = some (.cells arr E fz)) (get : ∀ k, k < l.length → ∀ j, j < m → arr[off + k * m + j]? = (enc (l.getD k z))[j]?) : RowS m enc z w (vsl b off n c) l b off arr E fz := by
  subst hn
  exact ⟨fun x => rfl, fun a k hk => indexAddr_sl _ _ _ _ _ _ ⟨by omega, by omega⟩, has, get⟩
theorem SlV.nil (w : World) : SlV m enc z w (.slice none 0 0) [] := ⟨0, 0, 0, #[], 0, (0, 0), RowS.nil w 0 0 rfl, Nat.le_refl _, .inl ⟨rfl, rfl, rfl⟩⟩
theorem SlV.row (h : SlV m enc z w v l) : ∃ b off arr E fz, RowS m enc z w v l b off arr E fz := by
  obtain ⟨b, off, c, arr, E, fz, hr, -⟩ := h; exact ⟨b, off, arr, E, fz, hr⟩
theorem SlV.sl {b off c : Nat} {arr : Array Value} {E : TypeId} {fz : Nat × Nat} (has : w.heap[b]? = some (.cells arr E fz)) (get : ∀ k, k < l.length → ∀ j, j < m → arr[off + k * m + j]? = (enc (l.getD k z))[j]?) (hc : l.length ≤ c) (hs : off + l.length * m ≤ arr.size) : SlV m enc z w (vsl b off l.length c) l :=
  ⟨b, off, c, arr, E, fz, RowS.sl rfl has get, hc, .inr ⟨rfl, has, hs⟩⟩
theorem RowS.old {w' : World} {b off : Nat} {arr : Array Value} {E : TypeId} {fz : Nat × Nat} {L : Heap} (h : RowS m enc z w v l b off arr E fz) (hw : Hp w L w') (hb : 0 < l.length → b ∉ keys L) : RowS m enc z w' v l b off arr E fz :=
  ⟨h.len, h.idx, fun hl => by have hh := h.has hl; rw [hw.old b (Array.getElem?_eq_some_iff.1 hh).1 (hb hl)]; exact hh, h.get⟩
theorem RowS.lt {b off : Nat} {arr : Array Value} {E : TypeId} {fz : Nat × Nat} (h : RowS m enc z w v l b off arr E fz) (hl : 0 < l.length) : b < w.heap.size := (Array.getElem?_eq_some_iff.1 (h.has hl)).1
/-- Where no old block is turned, it is as it was. -/
theorem SlV.old {w' : World} {L : Heap} (h : SlV m enc z w v l) (hw : Hp w L w') (hb : ∀ b, slB v = some b → b < w.heap.size → b ∉ keys L) : SlV m enc z w' v l := by
  obtain ⟨b, off, c, arr, E, fz, hr, hc, hv⟩ := h
  rcases hv with ⟨rfl, rfl, rfl⟩ | ⟨rfl, hhas, hsz⟩
  · exact SlV.nil w'
  · have hnb := hb b rfl (Array.getElem?_eq_some_iff.1 hhas).1
    refine ⟨b, off, c, arr, E, fz, hr.old hw (fun _ => hnb), hc, .inr ⟨rfl, ?_, hsz⟩⟩
    rw [hw.old b (Array.getElem?_eq_some_iff.1 hhas).1 hnb]; exact hhas
theorem New.not {L : Heap} {n b : Nat} (h : New n L) (hb : b < n) : b ∉ keys L := fun hm => by have := h.le b hm; omega
theorem SlV.oldN {w' : World} {L : Heap} (h : SlV m enc z w v l) (hw : Hp w L w') (hn : New w.heap.size L) : SlV m enc z w' v l := h.old hw fun _ _ hb => hn.not hb
theorem SlV.len (h : SlV m enc z w v l) (x : Bool × Nat) : lenV (.sl x) v = some (vi l.length) := by
  obtain ⟨b, off, arr, E, fz, hr⟩ := h.row
  exact hr.len x
/-- The first ones. -/
theorem SlV.take (h : SlV m enc z w v l) {k : Nat} (hk : k ≤ l.length) (a : Bool) : ∃ v', sliceV (.sl (a, m)) v none (some (some (k : Int))) = some v' ∧ SlV m enc z w v' (l.take k) ∧ (∀ b, slB v' = some b → slB v = some b) := by
  obtain ⟨b, off, c, arr, E, fz, hr, hc, hv⟩ := h
  have hl : (l.take k).length = k := by simp; omega
  rcases hv with ⟨rfl, rfl, rfl⟩ | ⟨rfl, hhas, hsz⟩
  · obtain rfl : k = 0 := by simpa using hk
    refine ⟨.slice none 0 0, rfl, SlV.nil w, fun b hb => hb⟩
  · refine ⟨vsl b off k c, ?_, ?_, fun b hb => hb⟩
    · unfold sliceV vsl
      simp only [bnd_hi _ _ _ (⟨by omega, by omega⟩ : (0 : Int) ≤ (k : Int) ∧ (k : Int) ≤ (c : Int)), Int.toNat_natCast, Nat.zero_mul, Nat.sub_zero, Option.map_some, add_spot, Nat.add_zero]
      split <;> rfl
    · refine ⟨b, off, c, arr, E, fz, RowS.sl' hl.symm (fun h0 => hr.has (by omega)) ?_, by omega, .inr ⟨by rw [hl], hhas, by rw [hl]; have : k * m ≤ l.length * m := Nat.mul_le_mul_right _ hk; omega⟩⟩
      · intro i hi j hj
        rw [hl] at hi
        rw [hr.get i (by omega) j hj]
        congr 2
        rw [List.getD_eq_getElem?_getD, List.getD_eq_getElem?_getD, List.getElem?_take_of_lt hi]
/-- What a growing slice is in a world. -/
theorem Buf.slM {L : Heap} {E : TypeId} {n : Nat} {cs : List Value} (h : Buf L E m v n cs) (hw : ∀ b o, (b, o) ∈ L → w.heap[b]? = some o) (hl : l.length = n) (hcs : cs = (l.map enc).flatten) (hm : ∀ x, (enc x).length = m) : SlV m enc z w v l := by
  rcases h.inv with ⟨rfl, rfl, rfl⟩ | ⟨b, c, rest, rfl, hlk, hlen, hnc, h0, hrest⟩
  · have : l = [] := by simpa using hl
    subst this; exact SlV.nil w
  · subst hl
    refine SlV.sl (hw _ _ (look_mem hlk)) ?_ hnc (by rw [List.size_toArray, List.length_append, hlen]; omega)
    intro k hk j hj
    rw [Nat.zero_add, List.getElem?_toArray, List.getElem?_append_left (by rw [hlen]; have : (k + 1) * m ≤ l.length * m := Nat.mul_le_mul_right _ hk; rw [Nat.add_mul, Nat.one_mul] at this; omega), hcs]
    clear hlen hrest hlk hcs hnc h
    induction l generalizing k with
    | nil => simp at hk
    | cons x r ih =>
      rw [List.map_cons, List.flatten_cons]
      cases k with
      | zero =>
        rw [Nat.zero_mul, Nat.zero_add, List.getElem?_append_left (by rw [hm]; exact hj), List.getD_cons_zero]
      | succ k =>
        rw [List.getElem?_append_right (by rw [hm, Nat.add_mul, Nat.one_mul]; omega), hm, List.getD_cons_succ]
        have := ih (k := k) (by simpa using hk)
        rw [← this]
        congr 1
        rw [Nat.add_mul, Nat.one_mul]; omega
end
end Go.Sx
namespace Go.Sx
open Go
section
variable {P : Program} {w0 : World} {f : Fr} {L : Heap} {N : Fr → Heap → Prop} {ops : Array Oper} {rest : List Oper} {md : Md}
  {d : Option Tmp} {ty : TypeId} {ps : String} {af : Array Edge} {g : Option (Nat × Bool)}
def v32i (n : Int) : Value := .int .i32 n
theorem binX_i32 (op : BinOp) (t : TypeId) (a b : Int) : binX P op t (v32i a) (v32i b) = binV op (v32i a) (v32i b) := (rfl)
theorem bin_lss_i32 (a b : Int) : binV .lss (v32i a) (v32i b) = some (.bool (decide (a < b))) := by simp [binV, v32i, intV, cmpV]
theorem bin_gtr_i32 (a b : Int) : binV .gtr (v32i a) (v32i b) = some (.bool (decide (b < a))) := by simp [binV, v32i, intV, cmpV]
theorem bin_eql_i32 (a b : Int) : binV .eql (v32i a) (v32i b) = some (.bool (a == b)) := by simp [binV, v32i, intV, cmpV]
theorem lit_i32 (n : Int) : Value.int .i32 n = v32i n := (rfl)

/-- A function value with one argument, whose callee leaves nothing but garbage. -/
theorem Ow.callFn1 {x y : Operand} {ts : Array TypeId} {k : FuncId} {v a : Value} (hs : skipped ops f ⟨d, .call ⟨.value x, #[y], ts⟩, ty, ps, af, g⟩ = false) (hx : ev f x = .func (.func k) #[] #[]) (hy : ev f y = a)
    (hk : ∀ a w, (callFunc k a).run P w = .ok (.enter k a) w) (hc : ∀ w, Hp w0 L w → Rets P k #[a] w (fun v' D => v' = v ∧ D = [])) (hn : Ow P w0 ops md.next rest (putF f d v) L N) :
    Ow P w0 ops md (⟨d, .call ⟨.value x, #[y], ts⟩, ty, ps, af, g⟩ :: rest) f L N :=
  Ow.callV hs hx hk (fun w hw => by simpa [hy] using hc w hw) hn
/-- A text's byte iterator. -/
theorem Ow.rangeText {t : TypeId} {x : Operand} {l : List UInt8} {md' : Md} (he : md.turn = some md') (hs : skipped ops f ⟨d, .range t x, ty, ps, af, g⟩ = false) (hu : P.underlying t = some .string) (hx : ev f x = vs l)
    (hn : ∀ b, Above L b → w0.heap.size ≤ b → Ow P w0 ops md' rest (putF f d (vp b 0)) (L ++ [(b, .stringIter ⟨l.toArray⟩ 0)]) N) :
    Ow P w0 ops md (⟨d, .range t x, ty, ps, af, g⟩ :: rest) f L N := by
  refine Ow.step he rfl hs fun w hw => .inl ⟨vp w.heap.size 0, w.alloc (.stringIter ⟨l.toArray⟩ 0), _, ?_, hw.alloc _, hn _ (above_of fun b hb => hw.lt hb) hw.size⟩
  simp only [execOp, Instr.range, Sem.run_bind, run_underlying hu w, Result.andThen_ok, hx, vs]
  rfl
theorem Ow.nextText {x : Operand} {b : Nat} {l : List UInt8} {pos : Nat} {md' : Md} (he : md.turn = some md') (hs : skipped ops f ⟨d, .next x true, ty, ps, af, g⟩ = false) (hx : ev f x = vp b 0) (hl : look L b = some (.stringIter ⟨l.toArray⟩ pos)) (hp : pos < l.length)
    (hn : Ow P w0 ops md' rest (putF f d (.tuple #[.bool true, vi pos, v32i (Utf8.decode ⟨l.toArray⟩ pos).1])) (setB L b (.stringIter ⟨l.toArray⟩ (pos + (Utf8.decode ⟨l.toArray⟩ pos).2))) N) :
    Ow P w0 ops md (⟨d, .next x true, ty, ps, af, g⟩ :: rest) f L N := by
  refine Ow.step he rfl hs fun w hw => ?_
  have hb := hw.has _ _ (look_mem hl)
  refine .inl ⟨_, { w with heap := w.heap.setIfInBounds b (.stringIter ⟨l.toArray⟩ (pos + (Utf8.decode ⟨l.toArray⟩ pos).2)) }, _, ?_, hw.set (key_of_look hl) rfl rfl rfl rfl, hn⟩
  have hg : (getObj b).run P w = .ok (.stringIter ⟨l.toArray⟩ pos) w := by
    simp only [getObj, Sem.run, hb]
  have hst : ∀ o, (setObj b o).run P w = .ok () { w with heap := w.heap.setIfInBounds b o } := by
    intro o; simp only [setObj, Sem.run, hb]
  have hsz : pos < (ByteArray.mk l.toArray).size := by rw [size_mk]; exact hp
  have : (Instr.next (vp b 0) true ty).run P w = .ok (.tuple #[.bool true, vi pos, v32i (Utf8.decode ⟨l.toArray⟩ pos).1]) { w with heap := w.heap.setIfInBounds b (.stringIter ⟨l.toArray⟩ (pos + (Utf8.decode ⟨l.toArray⟩ pos).2)) } := by
    simp only [Instr.next, vp, Sem.run_bind, hg, Result.andThen_ok, hsz, ↓reduceIte, hst]
    rfl
  simp only [execOp, Sem.run_bind, hx]
  rw [this]
  rfl
theorem Ow.nextOver {x : Operand} {b : Nat} {l : List UInt8} {pos : Nat} {md' : Md} (he : md.turn = some md') (hs : skipped ops f ⟨d, .next x true, ty, ps, af, g⟩ = false) (hx : ev f x = vp b 0) (hl : look L b = some (.stringIter ⟨l.toArray⟩ pos)) (hp : ¬ pos < l.length)
    (hn : Ow P w0 ops md' rest (putF f d (.tuple #[.bool false])) L N) :
    Ow P w0 ops md (⟨d, .next x true, ty, ps, af, g⟩ :: rest) f L N := by
  refine Ow.step he rfl hs fun w hw => ?_
  have hb := hw.has _ _ (look_mem hl)
  refine .inl ⟨.tuple #[.bool false], w, _, ?_, hw, hn⟩
  have hg : (getObj b).run P w = .ok (.stringIter ⟨l.toArray⟩ pos) w := by
    simp only [getObj, Sem.run, hb]
  have hsz : ¬ pos < (ByteArray.mk l.toArray).size := by rw [size_mk]; exact hp
  have : (Instr.next (vp b 0) true ty).run P w = .ok (.tuple #[.bool false]) w := by
    simp only [Instr.next, vp, Sem.run_bind, hg, Result.andThen_ok, hsz, ↓reduceIte]
    rfl
  simp only [execOp, Sem.run_bind, hx]
  rw [this]
  rfl
end
/-- The rune at a place: the byte itself, if it is below 128; else one above. -/
theorem decode_rune (l : List UInt8) (i : Nat) (h : i < l.length) : 0 < (Utf8.decode ⟨l.toArray⟩ i).2 ∧
    ((l.getD i 0).toNat < 128 → Utf8.decode ⟨l.toArray⟩ i = ((l.getD i 0).toNat, 1)) ∧ (128 ≤ (l.getD i 0).toNat → 128 ≤ (Utf8.decode ⟨l.toArray⟩ i).1) := by
  have hb : ((ByteArray.mk l.toArray).get! (i + 0)) = l.getD i 0 := by
    simp [ByteArray.get!, h]
  unfold Utf8.decode
  simp only [hb]
  generalize (l.getD i 0).toNat = b0
  refine ⟨?_, fun h1 => ?_, fun h1 => ?_⟩
  · (repeat' split) <;> simp
  · rw [if_pos h1]
  · rw [if_neg (by omega)]
    (repeat' split) <;> first
      | (simp only [Utf8.runeError]; omega)
      | (rename_i hc; simp only [Bool.and_eq_true, decide_eq_true_eq, ge_iff_le] at hc; omega)
      | (rename_i hc; simp only [ge_iff_le] at hc; omega)
end Go.Sx
namespace Go.Sx
open Go
abbrev Vals := List (List UInt8 × List UInt8)
/-- The first place of a name. -/
def fnd (k : List UInt8) : Vals → Nat → Option (Nat × List UInt8)
  | [], _ => none
  | p :: r, i => if k == p.1 then some (i, p.2) else fnd k r (i + 1)
/-- A name is given a value. -/
def updV (k v : List UInt8) : Vals → Vals
  | [] => [(k, v)]
  | p :: r => if k == p.1 then (p.1, v) :: r else p :: updV k v r
/-- A name is taken away. -/
def delV (k : List UInt8) : Vals → Vals
  | [] => []
  | p :: r => if k == p.1 then r else p :: delV k r
def pairV (p : List UInt8 × List UInt8) : Value × Value := (vs p.1, .agg (a8 p.2))
/-- What a map holds. -/
def MapR (o : Obj) (m : Vals) : Prop := ∃ es clock, o = .map es clock ∧ es.toList.map (fun e => (e.key, e.val)) = m.map pairV

theorem bs_beq (a b : List UInt8) : ((ByteArray.mk a.toArray) == (ByteArray.mk b.toArray)) = (a == b) := by
  show (a.toArray == b.toArray) = (a == b)
  simp
theorem findNow_eq (k : List UInt8) : ∀ (es : List MapEntry) (m : Vals) (i : Nat), es.map (fun e => (e.key, e.val)) = m.map pairV →
    Instr.findNow .string (vs k) es i = some ((fnd k m i).map fun p => (p.1, .agg (a8 p.2)))
  | [], [], i, _ => rfl
  | [], _ :: _, _, h => by cases h
  | _ :: _, [], _, h => by cases h
  | e :: es, p :: m, i, h => by
    simp only [List.map_cons, List.cons.injEq, pairV, Prod.mk.injEq] at h
    obtain ⟨⟨h1, h2⟩, h3⟩ := h
    unfold Instr.findNow
    have hs : Instr.sameNow .string (vs k) e.key = some (k == p.1) := by
      rw [h1]
      simp only [vs, Instr.sameNow, bs_beq]
    rw [hs]
    unfold fnd
    cases hk : (k == p.1)
    · simp only [Bool.false_eq_true, ↓reduceIte]
      exact findNow_eq k es m (i + 1) h3
    · simp [h2]

theorem fnd_spec (k : List UInt8) : ∀ (m : Vals) (i j : Nat) (v : List UInt8), fnd k m i = some (j, v) → i ≤ j ∧ ∃ a, m[j - i]? = some (k, a) ∧ a = v
  | [], _, _, _, h => by cases h
  | p :: r, i, j, v, h => by
    unfold fnd at h
    split at h
    · rename_i hk
      cases h
      refine ⟨Nat.le_refl _, p.2, ?_, rfl⟩
      rw [Nat.sub_self, List.getElem?_cons_zero, eq_of_beq hk]
    · obtain ⟨h1, a, h2, h3⟩ := fnd_spec k r (i + 1) j v h
      refine ⟨by omega, a, ?_, h3⟩
      rw [show j - i = (j - (i + 1)) + 1 by omega, List.getElem?_cons_succ]; exact h2

theorem updV_some (k v : List UInt8) : ∀ (es : List MapEntry) (m : Vals) (i j : Nat) (a : List UInt8), es.map (fun e => (e.key, e.val)) = m.map pairV → fnd k m i = some (j, a) →
    (es.modify (j - i) fun e => { e with key := vs k, val := .agg (a8 v) }).map (fun e => (e.key, e.val)) = (updV k v m).map pairV
  | [], [], _, _, _, _, h => by cases h
  | [], _ :: _, _, _, _, h, _ => by cases h
  | _ :: _, [], _, _, _, h, _ => by cases h
  | e :: es, p :: m, i, j, a, h, hf => by
    simp only [List.map_cons, List.cons.injEq, pairV, Prod.mk.injEq] at h
    obtain ⟨⟨h1, h2⟩, h3⟩ := h
    unfold fnd at hf
    unfold updV
    split at hf
    · rename_i hk
      cases hf
      rw [if_pos hk, Nat.sub_self]
      simp only [List.modify_zero_cons, List.map_cons, pairV, eq_of_beq hk]
      rw [h3]
    · rename_i hk
      have hle := (fnd_spec k m (i + 1) j a hf).1
      rw [if_neg hk, show j - i = (j - (i + 1)) + 1 by omega]
      simp only [List.modify_succ_cons, List.map_cons, pairV]
      rw [updV_some k v es m (i + 1) j a h3 hf, h1, h2]
theorem updV_none (k v : List UInt8) : ∀ (m : Vals) (i : Nat), fnd k m i = none → updV k v m = m ++ [(k, v)]
  | [], _, _ => rfl
  | p :: r, i, h => by
    unfold fnd at h
    split at h
    · cases h
    · rename_i hk
      unfold updV
      rw [if_neg hk, updV_none k v r (i + 1) h]; rfl
section
variable {P : Program} {w0 : World} {f : Fr} {L : Heap} {N : Fr → Heap → Prop} {ops : Array Oper} {rest : List Oper} {md : Md}
  {d : Option Tmp} {ty : TypeId} {ps : String} {af : Array Edge} {g : Option (Nat × Bool)}

theorem run_findKey {w : World} {t : TypeId} (hu : P.underlying t = some .string) (k : List UInt8) (es : List MapEntry) (m : Vals) (h : es.map (fun e => (e.key, e.val)) = m.map pairV) :
    (Instr.findKey t (vs k) es).run P w = .ok ((fnd k m 0).map fun p => (p.1, .agg (a8 p.2))) w := by
  simp only [Instr.findKey, Sem.run_bind, run_underlying hu w, Result.andThen_ok, findNow_eq k es m 0 h]
  rfl
theorem run_checkKey {w : World} {t : TypeId} (hu : P.underlying t = some .string) (e : Bool) (k : List UInt8) : (Instr.checkKey e 10000 t (vs k)).run P w = .ok () w := by
  unfold Instr.checkKey
  simp only [Sem.run_bind, run_underlying hu w, Result.andThen_ok, vs]
  rfl
theorem run_getMap {w : World} {b : Nat} {es : Array MapEntry} {c : Nat} (hb : w.heap[b]? = some (.map es c)) : (getObj b).run P w = .ok (.map es c) w := by
  simp only [getObj, Sem.run, hb]
theorem run_setMap {w : World} {b : Nat} {es : Array MapEntry} {c : Nat} (hb : w.heap[b]? = some (.map es c)) (o : Obj) : (setObj b o).run P w = .ok () { w with heap := w.heap.setIfInBounds b o } := by
  simp only [setObj, Sem.run, hb]

def vm (b : Nat) : Value := .map (some b)

/-- A new map. -/
theorem Ow.makeMap {t : TypeId} {md' : Md} (he : md.turn = some md') (hs : skipped ops f ⟨d, .makeMap t none, ty, ps, af, g⟩ = false)
    (hn : ∀ b o, Above L b → w0.heap.size ≤ b → MapR o [] → Ow P w0 ops md' rest (putF f d (vm b)) (L ++ [(b, o)]) N) :
    Ow P w0 ops md (⟨d, .makeMap t none, ty, ps, af, g⟩ :: rest) f L N := by
  refine Ow.step he rfl hs fun w hw => .inl ⟨vm w.heap.size, w.alloc (.map #[] 0), _, ?_, hw.alloc _, hn _ _ (above_of fun b hb => hw.lt hb) hw.size ⟨#[], 0, rfl, rfl⟩⟩
  simp only [execOp, Instr.makeMap, Sem.run_bind, Option.map_none]
  rfl

theorem fnd_key {k : List UInt8} {m : Vals} {es : List MapEntry} {j : Nat} {a : List UInt8} (h : es.map (fun e => (e.key, e.val)) = m.map pairV) (hf : fnd k m 0 = some (j, a)) : ∃ e, es[j]? = some e ∧ e.key = vs k := by
  obtain ⟨-, a', h1, rfl⟩ := fnd_spec k m 0 j a hf
  rw [Nat.sub_zero] at h1
  have := congrArg (·[j]?) h
  simp only [List.getElem?_map, h1, Option.map_some] at this
  cases he : es[j]? with
  | none => rw [he] at this; cases this
  | some e =>
    rw [he] at this
    simp only [Option.map_some, Option.some.injEq, pairV, Prod.mk.injEq] at this
    exact ⟨e, rfl, this.1⟩

/-- A map's name is given a value. -/
theorem Ow.mapUpdate {t kt vt : TypeId} {x y z : Operand} {b : Nat} {o : Obj} {m : Vals} {k v : List UInt8} {md' : Md} (he : md.turn = some md') (hs : skipped ops f ⟨d, .mapUpdate t x y z, ty, ps, af, g⟩ = false) (hu : P.underlying t = some (.map kt vt)) (huk : P.underlying kt = some .string)
    (hx : ev f x = vm b) (hy : ev f y = vs k) (hz : ev f z = .agg (a8 v)) (hl : look L b = some o) (hm : MapR o m)
    (hn : ∀ o', MapR o' (updV k v m) → Ow P w0 ops md' rest (putF f d undef) (setB L b o') N) :
    Ow P w0 ops md (⟨d, .mapUpdate t x y z, ty, ps, af, g⟩ :: rest) f L N := by
  obtain ⟨es, c, rfl, hes⟩ := hm
  refine Ow.step he rfl hs fun w hw => ?_
  have hb := hw.has _ _ (look_mem hl)
  have hfk := run_findKey (w := w) huk k es.toList m hes
  cases hf : fnd k m 0 with
  | none =>
    rw [hf] at hfk
    refine .inr (.inl ⟨{ w with heap := w.heap.setIfInBounds b (.map (es.push { key := vs k, val := .agg (a8 v), born := c }) (c + 1)) }, _, ?_, hw.set (key_of_look hl) rfl rfl rfl rfl, hn _ ⟨_, _, rfl, ?_⟩⟩)
    · have : (Instr.mapUpdate t (vm b) (vs k) (.agg (a8 v))).run P w = .ok () { w with heap := w.heap.setIfInBounds b (.map (es.push { key := vs k, val := .agg (a8 v), born := c }) (c + 1)) } := by
        simp only [Instr.mapUpdate, vm, Sem.run_bind, run_underlying hu w, Result.andThen_ok, run_getMap hb, run_checkKey huk, hfk, Option.map_none, run_setMap hb]
      simp only [execOp, Sem.run_bind, hx, hy, hz]
      rw [this]; rfl
    · rw [updV_none k v m 0 hf, Array.toList_push, List.map_append, hes, List.map_append]; rfl
  | some p =>
    obtain ⟨j, a⟩ := p
    rw [hf] at hfk
    obtain ⟨e, hej, hek⟩ := fnd_key hes hf
    have hej' : es[j]? = some e := by simpa using hej
    have hkt : (Instr.keyThatStays (((es[j]?).map (·.key)).getD (vs k)) (vs k)).run P w = .ok (vs k) w := by
      rw [hej', Option.map_some, Option.getD_some, hek]
      unfold Instr.keyThatStays
      have : Instr.sameBits 10000 (vs k) (vs k) = true := by simp [vs, Instr.sameBits, bs_beq]
      rw [if_pos this]; rfl
    refine .inr (.inl ⟨{ w with heap := w.heap.setIfInBounds b (.map (es.modify j fun e => { e with key := vs k, val := .agg (a8 v) }) c) }, _, ?_, hw.set (key_of_look hl) rfl rfl rfl rfl, hn _ ⟨_, _, rfl, ?_⟩⟩)
    · have : (Instr.mapUpdate t (vm b) (vs k) (.agg (a8 v))).run P w = .ok () { w with heap := w.heap.setIfInBounds b (.map (es.modify j fun e => { e with key := vs k, val := .agg (a8 v) }) c) } := by
        simp only [Instr.mapUpdate, vm, Sem.run_bind, run_underlying hu w, Result.andThen_ok, run_getMap hb, run_checkKey huk, hfk, Option.map_some, hkt, run_setMap hb]
      simp only [execOp, Sem.run_bind, hx, hy, hz]
      rw [this]; rfl
    · rw [Array.toList_modify]
      have := updV_some k v es.toList m 0 j a hes hf
      rw [Nat.sub_zero] at this
      exact this

end
end Go.Sx
namespace Go.Sx
open Go
section
variable {P : Program} {w0 : World} {f : Fr} {L : Heap} {N : Fr → Heap → Prop} {ops : Array Oper} {rest : List Oper} {md : Md}
  {d : Option Tmp} {ty : TypeId} {ps : String} {af : Array Edge} {g : Option (Nat × Bool)}
/-- What a name has, or else. -/
def getV (k : List UInt8) (z : List UInt8) (m : Vals) : List UInt8 := match m.find? fun p => k == p.1 with | some p => p.2 | none => z
end
end Go.Sx
namespace Go.Sx
open Go
theorem New.mono {n m : Nat} (h : n ≤ m) : ∀ {L : Heap}, New m L → New n L
  | [], _ => trivial
  | (_, _) :: _, hL => ⟨Nat.le_trans h hL.1, New.mono h hL.2⟩
theorem New.app {n : Nat} {M : Heap} : ∀ {L : Heap}, New n L → New n M → New n (L ++ M)
  | [], _, hM => hM
  | (_, _) :: _, hL, hM => ⟨hL.1, New.app hL.2 hM⟩
section
variable {P : Program} {w0 : World} {f : Fr} {L : Heap} {N : Fr → Heap → Prop} {ops : Array Oper} {rest : List Oper} {md : Md}
  {d : Option Tmp} {ty : TypeId} {ps : String} {af : Array Edge} {g : Option (Nat × Bool)}
theorem Ow.callE {l : List Operand} {ts : Array TypeId} {k : FuncId} {b : Nat} {S : Value → Obj → Prop} {md' : Md} (he : md.turn = some md')
    (hs : skipped ops f ⟨d, .call ⟨.value (.func k), l.toArray, ts⟩, ty, ps, af, g⟩ = false)
    (hk : ∀ a w, (callFunc k a).run P w = .ok (.enter k a) w) (hb : b ∈ keys L)
    (hc : ∀ w, Hp w0 L w → Rets P k (l.map (ev f)).toArray w (fun v D => ∃ o, D = [(b, o)] ∧ S v o))
    (hn : ∀ v o, S v o → Ow P w0 ops md' rest (putF f d v) (setB L b o) N) :
    Ow P w0 ops md (⟨d, .call ⟨.value (.func k), l.toArray, ts⟩, ty, ps, af, g⟩ :: rest) f L N := by
  refine Ow.callF he hs hk (S := fun _ v D => ∃ o, D = [(b, o)] ∧ S v o) hc ?_
  rintro B v D - - ⟨o, rfl, hS⟩
  exact ⟨_, Mrg.set hb, hn v o hS⟩
/-- A callee that makes new blocks, and turns none. -/
theorem Ow.callN {l : List Operand} {ts : Array TypeId} {k : FuncId} {S : Nat → Value → Heap → Prop} {md' : Md} (he : md.turn = some md')
    (hs : skipped ops f ⟨d, .call ⟨.value (.func k), l.toArray, ts⟩, ty, ps, af, g⟩ = false)
    (hk : ∀ a w, (callFunc k a).run P w = .ok (.enter k a) w)
    (hc : ∀ w, Hp w0 L w → Rets P k (l.map (ev f)).toArray w (fun v D => S w.heap.size v D))
    (hnew : ∀ B v D, S B v D → New B D)
    (hn : ∀ B v D, Above L B → w0.heap.size ≤ B → S B v D → Ow P w0 ops md' rest (putF f d v) (L ++ D) N) :
    Ow P w0 ops md (⟨d, .call ⟨.value (.func k), l.toArray, ts⟩, ty, ps, af, g⟩ :: rest) f L N := by
  refine Ow.callF he hs hk (S := S) hc ?_
  intro B v D ha hB hS
  exact ⟨_, Mrg.fresh (hnew B v D hS).le, hn B v D ha hB hS⟩
theorem Cw.forgetN {c : Code} {K : Kont} (M : Heap) (hnew : New w0.heap.size L) (hM : ∀ p, p ∈ M → p ∈ L) (hn : (keys M).Nodup) (h : Cw P w0 c f M K) : Cw P w0 c f L K :=
  Cw.forget M hM hn (fun p hp _ => hnew.le _ (List.mem_map.2 ⟨p, hp, rfl⟩)) h
end
end Go.Sx
section
namespace Go.Sx
open Go
set_option linter.unusedSimpArgs false
section
variable {P : Program} {w0 : World} {L : Heap}
theorem run_appendEm {w : World} {ts tx ty e : TypeId} {m : Bool × Nat} {z x : Value} {b k : Nat} {new : List Value} (hw : Hp w0 L w)
    (hu : P.underlying ts = some (.slice e)) (hm : aggT P e = some m) (hi : bytesOk P e = true) (hz : zeroV P e = some z) (hzs : z.cells.size = m.2) {d : TypeDesc} (hux : P.underlying tx = some d) (hnx : ∀ k, d ≠ .int k)
    (hXa : ∀ w, Hp w0 L w → AppX P w m.2 x k new) (hbig : 2 * (0 + k) + 768 ≤ 2 ^ 38) :
    (k = 0 ∧ (Builtin.append_ #[ts, tx] ty #[vsl b 0 0 0, x]).run P w = .ok (vsl b 0 0 0) w) ∨
    (0 < k ∧ ∃ v' w' L', (Builtin.append_ #[ts, tx] ty #[vsl b 0 0 0, x]).run P w = .ok v' w' ∧ Hp w0 L' w' ∧ Buf L' e m.2 v' (0 + k) ([] ++ new) ∧ Grew w0 (.slice none 0 0) L L' ∧ ∃ c, slB v' = some c ∧ Above L c) := by
  obtain ⟨i, hi, hb0, hbig⟩ := bytesOk_spec hi hbig
  have hti : ∀ w, (typeInfo e).run P w = .ok i w := by
    intro w
    simp only [typeInfo, program, Sem.run_bind]
    show Result.andThen (Result.ok P w) _ = _
    simp only [Result.andThen_ok, hi]
    rfl
  have hmd : (match d with | .int _ => true | _ => false) = false := by
    cases d <;> first | rfl | exact absurd rfl (hnx _)
  have e1 : ∀ {α β : Type} (a : α) (f : α → World → Result β), (Sem.run P (pure a) w).andThen f = f a w := fun _ _ => rfl
  have hX := hXa w hw
  have hxl := hX.len
  have hxc := hX.cells
  have hzv := run_zeroV (P := P) hz
  have room : ∀ (b : Nat) (w : World), (askRoom b).run P w = .ok () w := by
    intro b w
    unfold askRoom
    split <;> rfl
  have zc : ∀ j, (Builtin.zeroCells z.cells j).toList.length = j * m.2 := by
    intro j; simp [Builtin.zeroCells, hzs]
  have hbg : ∀ c, c < 0 + k → ¬ (Builtin.nextslicecap (0 + k) c * i.bytes > 2 ^ 48) := by
    intro c hc
    have := nextslicecap_le hc
    have h2 := Nat.mul_le_mul_right i.bytes this
    omega
  by_cases hk : k = 0
  · subst hk
    have hnew : new = [] := List.eq_nil_of_length_eq_zero (by have := hX.size; omega)
    subst hnew
    refine .inl ⟨rfl, ?_⟩
    simp only [Builtin.append_, vsl, List.getElem?_toArray, List.getElem?_cons_zero, List.getElem?_cons_succ, Sem.run_bind, run_underlying hu w, Result.andThen_ok, run_sizeOf hm w, run_underlying hux w, hmd, e1, Bool.false_eq_true, ↓reduceIte, hxl, Bool.not_false, Nat.add_zero, Nat.le_refl, hxc]
    rfl
  · have hpos : ¬ 0 + k ≤ 0 := by omega
    have hbg' := hbg 0 (by omega)
    simp only [Builtin.append_, List.getElem?_toArray, List.getElem?_cons_zero, List.getElem?_cons_succ, Sem.run_bind, run_underlying hu w, Result.andThen_ok, run_sizeOf hm w, run_underlying hux w, hmd, e1, Bool.false_eq_true, ↓reduceIte, hxl, Bool.not_false, hpos, vsl, hti, hb0, or_false, and_false, hbg']
    have hch : (choose (Question.appendCap (0 + k) 0 e)).run P w = .ok ((0 + k) + w.tape w.drawn (.appendCap (0 + k) 0 e) % (2 ^ 63 - (0 + k))) w.drew := rfl
    rw [hch]
    generalize hcc : (0 + k) + w.tape w.drawn (.appendCap (0 + k) 0 e) % (2 ^ 63 - (0 + k)) = c
    have hw1 := hw.drew
    have hX1 := hXa _ hw1
    have hold : (Builtin.firstCells m.2 0 (Value.slice (some ⟨b, 0, none⟩) 0 0)).run P w.drew = .ok #[] w.drew := by
      simp only [Builtin.firstCells, Nat.zero_mul]; rfl
    simp only [Result.andThen_ok, room, hold, hX1.cells, hzv]
    refine .inr ⟨by omega, _, _, L ++ [(w.drew.heap.size, .cells ([] ++ new ++ (Builtin.zeroCells z.cells (c - (0 + k))).toList).toArray e (0, 0))], rfl, ?_, .at_ (b := w.drew.heap.size) (rest := (Builtin.zeroCells z.cells (c - (0 + k))).toList) ?_ ?_ ?_ (by omega) (by omega), ?_, ⟨_, rfl, above_of fun b hb => hw1.lt hb⟩⟩
    · have ea : ([] ++ new ++ (Builtin.zeroCells z.cells (c - (0 + k))).toList).toArray = #[] ++ new.toArray ++ Builtin.zeroCells z.cells (c - (0 + k)) := by apply Array.ext'; simp
      rw [ea]
      exact hw1.alloc _
    · rw [look_app_r (fun hm => Nat.lt_irrefl _ (hw1.lt hm))]
      simp [look]
    · rw [List.nil_append, hX.size, Nat.zero_add]
    · exact zc _
    · refine ⟨fun c hc => by rw [keys_app]; exact List.mem_append_left _ hc, fun c hc => ?_, fun c o hne ho => look_app ho⟩
      rw [keys_app] at hc
      rcases List.mem_append.1 hc with hc | hc
      · exact .inl hc
      · right
        simp only [keys, List.map_cons, List.map_nil, List.mem_singleton] at hc
        subst hc
        exact ⟨above_of fun b hb => hw1.lt hb, hw1.size⟩
end
section
variable {P : Program} {w0 : World} {f : Fr} {L : Heap} {N : Fr → Heap → Prop} {ops : Array Oper} {rest : List Oper} {md : Md}
  {d : Option Tmp} {ty : TypeId} {ps : String} {af : Array Edge} {g : Option (Nat × Bool)}
theorem Ow.appendEm {ts tx e : TypeId} {m : Bool × Nat} {z : Value} {s x : Operand} {b k : Nat} {new : List Value} {dx : TypeDesc} {md' : Md} (hsv : ev f s = vsl b 0 0 0) (he : md.turn = some md')
    (hs : skipped ops f ⟨d, .call ⟨.builtin .append, #[s, x], #[ts, tx]⟩, ty, ps, af, g⟩ = false)
    (hu : P.underlying ts = some (.slice e)) (hm : aggT P e = some m) (hi : bytesOk P e = true) (hz : zeroV P e = some z) (hzs : z.cells.size = m.2) (hux : P.underlying tx = some dx) (hnx : ∀ k, dx ≠ .int k)
    (hX : ∀ w, Hp w0 L w → AppX P w m.2 (ev f x) k new) (hbig : 2 * (0 + k) + 768 ≤ 2 ^ 38)
    (hn0 : k = 0 → Ow P w0 ops md' rest (putF f d (vsl b 0 0 0)) L N)
    (hn : ∀ v' L', 0 < k → Buf L' e m.2 v' (0 + k) ([] ++ new) → Grew w0 (.slice none 0 0) L L' → (∃ c, slB v' = some c ∧ Above L c) → Ow P w0 ops md' rest (putF f d v') L' N) :
    Ow P w0 ops md (⟨d, .call ⟨.builtin .append, #[s, x], #[ts, tx]⟩, ty, ps, af, g⟩ :: rest) f L N := by
  refine Ow.step he rfl hs fun w hw => ?_
  rcases run_appendEm (ty := ty) (b := b) hw hu hm hi hz hzs hux hnx hX hbig with ⟨hk, hr⟩ | ⟨hk, v', w', L', hr, hp, hb, hg, hsl⟩
  · refine .inl ⟨_, w, L, ?_, hw, hn0 hk⟩
    simp only [execOp, resolve, Sem.run_bind, Sem.run_pure, Result.andThen_ok, invoke, builtin, List.map_toArray, List.map_cons, List.map_nil, hsv]
    rw [hr]
    rfl
  · refine .inl ⟨v', w', L', ?_, hp, hn v' L' hk hb hg hsl⟩
    simp only [execOp, resolve, Sem.run_bind, Sem.run_pure, Result.andThen_ok, invoke, builtin, List.map_toArray, List.map_cons, List.map_nil, hsv]
    rw [hr]
    rfl
end
end Go.Sx
end
namespace Go.Sx
open Go
section
variable {P : Program} {w0 : World} {f : Fr} {L : Heap} {N : Fr → Heap → Prop} {K : Kont} {l : List Oper} {listed : List Bool} {n : Nat} {R ts : List Nat} {a d : Nat} {z : Obj}
theorem Md.next_sofnil (R ts : List Nat) : (Md.sof R [] ts).next = .sof R [] ts := (rfl)
theorem upon_unshift {Q : Exit → Act → World → Prop} {o : Oper} {x : Act} {d : Option Tmp} {v : Value} {K : Act → World → Prop} (hd : ∀ t, d = some t → o.dst ≠ some t)
    (hQ : ∀ c a w, Q (.panic c) a w → Q (.panic c) (a.put d v) w) (r : Result Next) (h : o.upon P x (fun a' w' => K (a'.put d v) w') Q r) :
    o.upon P (x.put d v) K Q r := by
  have comm : ∀ u, (x.put o.dst u).put d v = (x.put d v).put o.dst u := fun u => (Act.put_comm x v u hd).symm
  match r, h with
  | .ok (.value u) _, h => show K _ _; rw [← comm]; exact h
  | .ok .skip _, h => show K _ _; rw [← comm]; exact h
  | .ok (.defer e) w', h =>
    have h' : K ((({ x with defers := e :: x.defers } : Act).put o.dst undef).put d v) w' := h
    rw [← Act.put_comm _ v undef hd, ← Act.put_defers] at h'
    exact h'
  | .ok (.enter f args) _, h =>
    refine Calls.mono h fun e w'' he => ?_
    match e, he with
    | .returned u, he => show K _ _; rw [← comm]; exact he
    | .panicked c, he => exact hQ _ _ _ he
    | .outgrown, he => exact he
  | .ok (.row row args) _, h => exact Rows.mono h fun u w'' he => by rw [← comm]; exact he
  | .halt (.panic u) _, h => exact hQ _ _ _ h
theorem wpOp_unshift {ops : Array Oper} {Q : Exit → Act → World → Prop} {j : Nat} {oj : Oper} {d : Option Tmp} {v : Value} (hj : ops[j]? = some oj) (h1 : ∀ t, d = some t → t ∉ oj.looksAt ops) (h2 : ∀ t, d = some t → oj.dst ≠ some t) (hsj : ∀ cs b, oj.op ≠ .select cs b)
    (hQ : ∀ c a w, Q (.panic c) a w → Q (.panic c) (a.put d v) w) {K : Act → World → Prop} {x : Act} {w : World}
    (h : wpOp P ops Q j (fun a' w' => K (a'.put d v) w') x w) : wpOp P ops Q j K (x.put d v) w := by
  unfold wpOp at h ⊢
  simp only [hj] at h ⊢
  rw [wanted_put oj x d v h1]
  cases hw : Region.wanted oj (yielded ops x.tmps) with
  | true =>
    rw [hw] at h
    simp only [if_true] at h ⊢
    rcases h with h | ⟨hasks, hl⟩
    · left
      unfold Oper.wp at h ⊢
      rw [execOp_put oj hsj x d v h1]
      exact upon_unshift h2 hQ _ h
    · right
      exact ⟨by unfold Oper.asks at *; rwa [execOp_put oj hsj x d v h1], hl⟩
  | false =>
    rw [hw] at h
    simp only [Bool.false_eq_true, if_false] at h ⊢
    rw [Act.put_comm x v undef h2]
    exact h
/-- What is asked of the operation that makes the variable. -/
structure Drift (P : Program) (l : List Oper) (ts : List Nat) (a d : Nat) (z : Obj) : Prop where
  here : ∃ oa t zv, l.toArray[a]? = some oa ∧ oa.op = .alloc t ∧ oa.dst = some d ∧ oa.guard = none ∧ zeroV P t = some zv ∧ z = .cells zv.cells t
  ts : a ∉ ts
  sel : Region.noSelect l.toArray = true
def driftB (l : List Oper) (ts : List Nat) (a d : Nat) : Bool :=
  (match nthO l a with
  | some oa => (match oa.op with | .alloc _ => true | _ => false) && oa.dst == some d && oa.guard == none
  | none => false) && !ts.contains a && Region.noSelect l.toArray
def OwD (P : Program) (w0 : World) (l : List Oper) (R ts : List Nat) (a d : Nat) (z : Obj) (n : Nat) (listed : List Bool) (f : Fr) (L : Heap) (N : Fr → Heap → Prop) : Prop :=
  (∀ w, Hp w0 L w → wpAnyG P l.toArray (postN w0 N) ts (SR w0 R L) (n + 1) listed.toArray (act f) w) ∧
  (∀ b w, w0.heap.size ≤ b → b ∉ keys L → Hp w0 (L ++ [(b, z)]) w → wpAnyG P l.toArray (postN w0 N) ts (SR w0 R L) n (listed.set a true).toArray (act (setF f d (vp b 0))) w)
theorem SR.ofE {w : World} {b : Nat} (hb : w0.heap.size ≤ b) (h : Hp w0 (L ++ [(b, z)]) w) : SR w0 R L w := by
  intro r _ o ho
  unfold readB at ho
  split at ho
  · rename_i o' hl
    cases ho
    exact h.has _ _ (List.mem_append_left _ (look_mem hl))
  · rename_i hl
    have hlt := (Array.getElem?_eq_some_iff.1 ho).1
    rw [h.old r hlt ?_]; exact ho
    intro hm
    simp only [keys, List.map_append, List.map_cons, List.map_nil, List.mem_append, List.mem_singleton] at hm
    rcases hm with hm | hm
    · exact look_none hl hm
    · omega
theorem postN_put {c : List PanicEntry} {x x' : Act} {w : World} (h : postN w0 N (.panic c) x w) : postN w0 N (.panic c) x' w := postN_panic h
theorem Hp.perm {w : World} {M : Heap} (h : Hp w0 L w) (hp : M.Perm L) : Hp w0 M w :=
  h.same (fun _ => hp.mem_iff) ((List.Perm.nodup_iff (hp.map Prod.fst)).2 h.nodup)
/-- Values that come at once. -/
def chkD (P : Program) (l : List Oper) (ts : List Nat) (a : Nat) : List Nat → List Bool → Option (List Bool)
  | [], listed => some listed
  | k :: is, listed =>
    match nthO l k, nthO l a with
    | some o, some oa => if k != a && !ts.contains k && (ts.all fun t => !listed.toArray.getD t true && !(listed.set a true).toArray.getD t true) && (Region.ready .any l.toArray listed.toArray).contains k && Region.free .any l.toArray listed.toArray k &&
        (Region.ready .any l.toArray (listed.set a true).toArray).contains k && Region.free .any l.toArray (listed.set a true).toArray k && o.apart l.toArray oa &&
        (pureK P o.op || (readK o.op && waitsB l.toArray ts listed.toArray k && waitsB l.toArray ts (listed.set a true).toArray k)) then chkD P l ts a is (listed.set k true) else none
    | _, _ => none
theorem OwD.step {k : Nat} {o : Oper} {v : Value} (hD : Drift P l ts a d z) (hk : nthO l k = some o) {rest : List Bool} (hc : chkD P l ts a [k] listed = some rest)
    (hY : YieldsC P l.toArray (SR w0 R L) (pureK P o.op = true) o v (act f)) (h : OwD P w0 l R ts a d z n rest (putF f o.dst v) L N) : OwD P w0 l R ts a d z (n + 1) listed f L N := by
  obtain ⟨⟨oa, t, zv, ha, hop, hdst, hg, hz, rfl⟩, hats, hns⟩ := hD
  have hoi : l.toArray[k]? = some o := by rw [nthO_eq] at hk; simpa using hk
  have ha' : nthO l a = some oa := by rw [nthO_eq]; simpa using ha
  unfold chkD at hc
  rw [hk, ha'] at hc
  simp only at hc
  split at hc
  · rename_i hcc
    simp only [chkD, Option.some.injEq] at hc
    subst hc
    simp only [Bool.and_eq_true, Bool.or_eq_true, Bool.not_eq_true', List.all_eq_true, List.contains_eq_mem, decide_eq_true_eq, decide_eq_false_iff_not, bne_iff_ne, ne_eq] at hcc
    obtain ⟨⟨⟨⟨⟨⟨⟨⟨c1, c2⟩, c3⟩, c4⟩, c5⟩, c6⟩, c7⟩, c8⟩, c9⟩ := hcc
    obtain ⟨q1, q2, q3⟩ := Oper.apart_spec c8
    have hsel := Region.noSelect_spec hns
    have hset : (listed.set k true).set a true = (listed.set a true).set k true := List.set_comm _ _ c1
    refine ⟨fun w hw => ?_, fun b w hb hbL hw => ?_⟩
    · refine G_first hoi c2 hsel (fun c a w h => postN_panic h) _ _ _ _ (first_of (P := P) hoi c4 c5 (c9.imp id fun h => ⟨h.1.1, h.1.2, fun t ht => (c3 t ht).1⟩)) (.inr fun t ht => (c3 t ht).1) hY ?_
      rw [act_put, set_toArray]
      exact h.1 w hw
    · have hY2 : YieldsC P l.toArray (SR w0 R L) (pureK P o.op = true) o v (act (setF f d (vp b 0))) := by
        refine hY.left (hsel k o · · hoi) (oj := oa) q3 ⟨vp b 0, [], ?_⟩
        rw [hdst]
        exact (act_put f (some d) (vp b 0)).symm
      refine G_first hoi c2 hsel (fun c a w h => postN_panic h) _ _ _ _ (first_of (P := P) hoi c6 c7 (c9.imp id fun h => ⟨h.1.1, h.2, fun t ht => (c3 t ht).2⟩)) (.inr fun t ht => (c3 t ht).2) hY2 ?_
      have e : (act (setF f d (vp b 0))).put o.dst v = act (setF (putF f o.dst v) d (vp b 0)) := by
        have e1 : act (setF f d (vp b 0)) = (act f).put (some d) (vp b 0) := (act_put f (some d) (vp b 0)).symm
        rw [e1, Act.put_comm (act f) (x := some d) (y := o.dst) (vp b 0) v (fun t ht hod => by cases ht; exact q2 _ hod hdst), act_put, act_put]; rfl
      rw [e, set_toArray, ← hset]
      exact h.2 b w hb hbL hw
  · cases hc
theorem chkD_cons {k : Nat} {is : List Nat} {listed listed' : List Bool} (h : chkD P l ts a (k :: is) listed = some listed') : chkD P l ts a [k] listed = some (listed.set k true) ∧ chkD P l ts a is (listed.set k true) = some listed' := by
  rw [chkD] at h
  cases ho : nthO l k with
  | none => rw [ho] at h; cases h
  | some o =>
    cases hoa : nthO l a with
    | none => rw [ho, hoa] at h; cases h
    | some oa =>
      rw [ho, hoa] at h
      simp only at h
      split at h
      · rename_i hcc
        refine ⟨?_, h⟩
        rw [chkD, ho, hoa]
        simp only
        rw [if_pos hcc]; rfl
      · cases h
theorem OwD.runs {k : Md → List Oper → Fr → Heap → Prop} (hD : Drift P l ts a d z) : ∀ (is : List Nat) {listed listed' : List Bool} {f : Fr} {L : Heap}, chkD P l ts a is listed = some listed' →
    (∀ md r f' L', k md r f' L' → r = [] ∧ OwD P w0 l R ts a d z n listed' f' L' N) → vcL P w0 l.toArray false (.sof R [] []) (pickL l is) f L k → OwD P w0 l R ts a d z (is.length + n) listed f L N
  | [], listed, listed', f, L, hc, hk, h => by
    cases hc
    rw [List.length_nil, Nat.zero_add]
    exact (hk _ _ _ _ h).2
  | i :: is, listed, listed', f, L, hc, hk, h => by
    obtain ⟨hc1, hc2⟩ := chkD_cons hc
    rw [pickL_cons] at h
    cases ho : nthO l i with
    | none => unfold chkD at hc1; rw [ho] at hc1; cases hc1
    | some o =>
      rw [ho, consO_some] at h
      unfold vcL at h
      rw [List.length_cons, show is.length + 1 + n = (is.length + n) + 1 by omega]
      cases hs : skipped l.toArray f o with
      | true =>
        rw [hs] at h
        have hw0 : Region.wanted o (yielded l.toArray (act f).tmps) = false := by rw [wanted_eq, hs]; rfl
        exact OwD.step hD ho hc1 (v := undef) (.inr ⟨hw0, rfl⟩) (OwD.runs hD is hc2 hk h)
      | false =>
        rw [hs] at h
        have hw0 : Region.wanted o (yielded l.toArray (act f).tmps) = true := by rw [wanted_eq, hs]; rfl
        simp only [ib, vcB] at h
        split at h
        · cases hrd : rdOk (.sof R [] []) f o.op with
          | false => rw [hrd] at h; exact absurd (hk _ _ _ _ h).1 (by simp)
          | true =>
            rw [hrd] at h
            simp only at h
            cases hv : evalV P w0 L f o.op with
            | none => rw [hv] at h; exact absurd (hk _ _ _ _ h).1 (by simp)
            | some v =>
              rw [hv] at h
              refine OwD.step hD ho hc1 (v := v) (.inl ⟨hw0, fun w hw => ?_⟩) (OwD.runs hD is hc2 hk h)
              rw [act_eval']
              rcases hw with hp | hw
              · exact run_evalV (Hp.refl w) (evalV_pure hp hv w)
              · exact run_evalV (Hp.refl w) (evalV_reads hrd hv hw)
        · exact absurd (hk _ _ _ _ h).1 (by simp)
        · exact absurd (hk _ _ _ _ h).1 (by simp)
theorem OwD.run (is : List Nat) (listed' : List Bool) (n : Nat) {m : Nat} (hm : m = is.length + n) (hD : Drift P l ts a d z) (hc : chkD P l ts a is listed = some listed')
    (h : ∀ k : Md → List Oper → Fr → Heap → Prop, (∀ md f L, OwD P w0 l R ts a d z n listed' f L N → k md [] f L) → nl (pickL l is) fun l' => vcL P w0 l.toArray false (.sof R [] []) l' f L k) : OwD P w0 l R ts a d z m listed f L N := by
  subst hm
  refine OwD.runs (k := fun _ r f' L' => r = [] ∧ OwD P w0 l R ts a d z n listed' f' L' N) hD is hc (fun _ _ _ _ h => h) ?_
  exact h _ fun _ _ _ h => ⟨rfl, h⟩
theorem run_allocD {t : TypeId} {zv : Value} {oa : Oper} {Q : Exit → Act → World → Prop} {X : Act → World → Prop} {w : World} (ha : l.toArray[a]? = some oa) (hop : oa.op = .alloc t) (hdst : oa.dst = some d) (hg : oa.guard = none) (hz : zeroV P t = some zv)
    (h : X (act (setF f d (vp w.heap.size 0))) (w.alloc (.cells zv.cells t))) : wpOp P l.toArray Q a X (act f) w := by
  obtain ⟨dst, op, ty, pos, after, guard⟩ := oa
  simp only at hop hdst hg
  subst hop; subst hdst; subst hg
  unfold wpOp
  simp only [ha]
  have hw : Region.wanted ⟨some d, .alloc t, ty, pos, after, none⟩ (yielded l.toArray (act f).tmps) = true := by rw [wanted_eq]; rfl
  rw [hw]
  simp only [↓reduceIte]
  left
  unfold Oper.wp
  have hr : (execOp (act f).eval ⟨some d, .alloc t, ty, pos, after, none⟩).run P w = .ok (.value (vp w.heap.size 0)) (w.alloc (.cells zv.cells t)) := by
    simp only [execOp, Instr.alloc, Sem.run_bind, run_zeroV hz w, Result.andThen_ok]
    rfl
  rw [hr]
  show X ((act f).put (some d) (vp w.heap.size 0)) _
  rw [act_put]
  exact h
theorem SR_congr {L' : Heap} (hS : ∀ b, b ∈ R → readB w0 L' b = readB w0 L b) : SR w0 R L = SR w0 R L' := by
  funext v
  unfold SR
  apply propext
  constructor
  · intro hh b hb o ho; exact hh b hb o (by rw [← hS b hb]; exact ho)
  · intro hh b hb o ho; exact hh b hb o (by rw [hS b hb]; exact ho)
/-- One of some operations is next, but for the new variable. -/
def softsD (l : List Oper) (ts : List Nat) (a : Nat) (ks : List Nat) (listed : List Bool) : Bool :=
  ((Region.ready .any l.toArray listed.toArray).all fun i => i == a || ks.contains i) && (Region.ready .any l.toArray listed.toArray != []) && ((Region.ready .any l.toArray (listed.set a true).toArray).all fun i => ks.contains i) && (Region.ready .any l.toArray (listed.set a true).toArray != []) && ks.all fun k =>
    match nthO l k, nthO l a with
    | some o, some oa => k != a && !ts.contains k && o.apart l.toArray oa
    | _, _ => false
theorem OwD.softs (ks : List Nat) (hD : Drift P l ts a d z) (hs : softsD l ts a ks listed = true)
    (h : ∀ k, k ∈ ks → ∀ o, nthO l k = some o → ∀ E, (E = [] ∨ ∃ b, E = [(b, z)] ∧ w0.heap.size ≤ b ∧ b ∉ keys L) → Ow P w0 l.toArray .seq [o] f (L ++ E) (fun f' L'' => ∃ L', (L' ++ E).Perm L'' ∧ (∀ r, r ∈ R → readB w0 L' r = readB w0 L r) ∧ OwD P w0 l R ts a d z n (listed.set k true) f' L' N)) :
    OwD P w0 l R ts a d z (n + 1) listed f L N := by
  obtain ⟨⟨oa, t, zv, ha, hop, hdst, hg, hz, rfl⟩, hats, hns⟩ := hD
  have ha' : nthO l a = some oa := by rw [nthO_eq]; simpa using ha
  unfold softsD at hs
  simp only [Bool.and_eq_true, List.all_eq_true, Bool.or_eq_true, beq_iff_eq, bne_iff_ne, ne_eq, List.contains_eq_mem, decide_eq_true_eq] at hs
  obtain ⟨⟨⟨⟨c3, c4⟩, c5⟩, c5'⟩, c6⟩ := hs
  have hsel := Region.noSelect_spec hns
  have hkk : ∀ k, k ∈ ks → ∃ o, nthO l k = some o ∧ k ≠ a ∧ k ∉ ts ∧ o.apart l.toArray oa = true := by
    intro k hk
    have := c6 k hk
    rw [ha'] at this
    cases ho : nthO l k with
    | none => rw [ho] at this; cases this
    | some o =>
      rw [ho] at this
      simp only [Bool.and_eq_true, Bool.not_eq_true', bne_iff_ne, ne_eq, decide_eq_false_iff_not] at this
      exact ⟨o, rfl, this.1.1, this.1.2, this.2⟩
  have t2 : ∀ b w, w0.heap.size ≤ b → b ∉ keys L → Hp w0 (L ++ [(b, .cells zv.cells t)]) w → wpAnyG P l.toArray (postN w0 N) ts (SR w0 R L) (n + 1) (listed.set a true).toArray (act (setF f d (vp b 0))) w := by
    intro b w hb hbL hw
    refine ⟨fun _ => SR.ofE hb hw, (fun h => absurd h c5'), ?_⟩
    intro k hi
    have hkm := c5 k hi
    obtain ⟨o, hk, c1, c2, c7⟩ := hkk k hkm
    have hoi : l.toArray[k]? = some o := by rw [nthO_eq] at hk; simpa using hk
    obtain ⟨q1, q2, q3⟩ := Oper.apart_spec c7
    have hset : (listed.set k true).set a true = (listed.set a true).set k true := List.set_comm _ _ c1
    have e1 : act (setF f d (vp b 0)) = (act f).put (some d) (vp b 0) := (act_put f (some d) (vp b 0)).symm
    rw [e1]
    refine wpOp_unshift hoi (fun t ht => by cases ht; exact q3 d hdst) (fun t ht => by cases ht; exact fun hod => q2 d hod hdst) (hsel _ o · · hoi) (fun c a w h => postN_put h) ?_
    refine wpOp_of hoi (X := fun a' w' => wpAnyG P l.toArray (postN w0 N) ts (SR w0 R L) n ((listed.set a true).toArray.setIfInBounds k true) (a'.put (some d) (vp b 0)) w') ?_ hw
    intro w' hw'
    refine wpList_mono1 ?_ (h k hkm o hk [(b, .cells zv.cells t)] (.inr ⟨b, rfl, hb, hbL⟩) w' hw')
    rintro f' L'' ⟨L', hpm, hR, hO⟩ w'' hw''
    have hw3 := hw''.perm hpm
    rw [act_put, set_toArray, ← hset, SR_congr hR]
    refine hO.2 b w'' hb (fun hm => ?_) hw3
    have hnd := hw3.nodup
    rw [keys_app, List.nodup_append] at hnd
    exact hnd.2.2 b hm b (by simp [keys]) rfl
  refine ⟨fun w hw => ⟨fun _ => SR.of hw, fun h => absurd h c4, fun k hi => ?_⟩, t2⟩
  rcases c3 k hi with rfl | hkm
  · refine run_allocD ha hop hdst hg hz ?_
    rw [set_toArray]
    refine t2 _ _ hw.size (fun hm => Nat.lt_irrefl _ (hw.lt hm)) (hw.alloc _)
  · obtain ⟨o, hk, c1, c2, c7⟩ := hkk k hkm
    have hoi : l.toArray[k]? = some o := by rw [nthO_eq] at hk; simpa using hk
    refine wpOp_of hoi (X := wpAnyG P l.toArray (postN w0 N) ts (SR w0 R L) (n + 1) (listed.toArray.setIfInBounds k true)) ?_ hw
    intro w' hw'
    have h1 := h k hkm o hk [] (.inl rfl)
    rw [List.append_nil] at h1
    refine wpList_mono1 ?_ (h1 w' hw')
    rintro f' L'' ⟨L', hpm, hR, hO⟩ w'' hw''
    rw [List.append_nil] at hpm
    rw [set_toArray, SR_congr hR]
    exact hO.1 w'' (hw''.perm hpm)
theorem OwD.soft (k : Nat) (o : Oper) (hD : Drift P l ts a d z) (hk : nthO l k = some o) (hs : softsD l ts a [k] listed = true)
    (h : ∀ E, (E = [] ∨ ∃ b, E = [(b, z)] ∧ w0.heap.size ≤ b ∧ b ∉ keys L) → Ow P w0 l.toArray .seq [o] f (L ++ E) (fun f' L'' => ∃ L', (L' ++ E).Perm L'' ∧ (∀ r, r ∈ R → readB w0 L' r = readB w0 L r) ∧ OwD P w0 l R ts a d z n (listed.set k true) f' L' N)) :
    OwD P w0 l R ts a d z (n + 1) listed f L N := OwD.softs [k] hD hs fun k' hk' o' ho' => by
  rw [List.mem_singleton] at hk'
  subst hk'
  rw [hk] at ho'
  cases ho'
  exact h
theorem OwD.two (k k2 : Nat) (o o2 : Oper) (hD : Drift P l ts a d z) (hk : nthO l k = some o) (hk2 : nthO l k2 = some o2) (hs : softsD l ts a [k, k2] listed = true)
    (h : ∀ E, (E = [] ∨ ∃ b, E = [(b, z)] ∧ w0.heap.size ≤ b ∧ b ∉ keys L) → Ow P w0 l.toArray .seq [o] f (L ++ E) (fun f' L'' => ∃ L', (L' ++ E).Perm L'' ∧ (∀ r, r ∈ R → readB w0 L' r = readB w0 L r) ∧ OwD P w0 l R ts a d z n (listed.set k true) f' L' N))
    (h2 : ∀ E, (E = [] ∨ ∃ b, E = [(b, z)] ∧ w0.heap.size ≤ b ∧ b ∉ keys L) → Ow P w0 l.toArray .seq [o2] f (L ++ E) (fun f' L'' => ∃ L', (L' ++ E).Perm L'' ∧ (∀ r, r ∈ R → readB w0 L' r = readB w0 L r) ∧ OwD P w0 l R ts a d z n (listed.set k2 true) f' L' N)) :
    OwD P w0 l R ts a d z (n + 1) listed f L N := OwD.softs [k, k2] hD hs fun k' hk' o' ho' => by
  simp only [List.mem_cons, List.not_mem_nil, or_false] at hk'
  rcases hk' with rfl | rfl
  · rw [hk] at ho'; cases ho'; exact h
  · rw [hk2] at ho'; cases ho'; exact h2
/-- The variable's own turn: behind it one order. -/
theorem OwD.real (is : List Nat) {m : Nat} (hm : m = is.length) (hD : Drift P l ts a d z) (hr : Region.ready .any l.toArray listed.toArray = [a]) (hB : orderB P l.toArray ts is (listed.set a true).toArray = true) (hts : (ts.all fun t => !(listed.set a true).toArray.getD t true) = true)
    (hl : is.map (fun i : Nat => l[i]?) = (pickL l is).map some) (hR : ∀ r, r ∈ R → r ∈ keys L ∨ r < w0.heap.size)
    (h : nl (pickL l is) fun l' => ∀ b, w0.heap.size ≤ b → b ∉ keys L → Ow P w0 l.toArray (.sof R is ts) l' (setF f d (vp b 0)) (L ++ [(b, z)]) N) : OwD P w0 l R ts a d z m listed f L N := by
  subst hm
  obtain ⟨⟨oa, t, zv, ha, hop, hdst, hg, hz, rfl⟩, hats, hns⟩ := hD
  simp only [List.all_eq_true, Bool.not_eq_true'] at hts
  revert hl h
  generalize pickL l is = l'
  intro hl h
  have hlen : is.length = l'.length := by have := congrArg List.length hl; simpa using this
  have hF : Fits P l.toArray ts is l' (listed.set a true).toArray := ⟨hlen, fun j => by
    have := congrArg (·[j]?) hl
    simp only [List.getElem?_map] at this
    cases hj : is[j]? with
    | none =>
      rw [hj] at this
      simp only [Option.map_none] at this
      cases hj' : l'[j]? with
      | none => rfl
      | some x => rw [hj'] at this; cases this
    | some i =>
      rw [hj] at this
      simp only [Option.map_some] at this
      cases hj' : l'[j]? with
      | none => rw [hj'] at this; cases this
      | some x =>
        rw [hj'] at this
        simp only [Option.map_some, Option.some.injEq] at this
        simp [this], hns, hB⟩
  have hRb : ∀ b, w0.heap.size ≤ b → b ∉ keys L → ∀ r, r ∈ R → readB w0 (L ++ [(b, Obj.cells zv.cells t)]) r = readB w0 L r := by
    intro b hb hbL r hr
    unfold readB
    cases hlk : look L r with
    | some o => rw [look_app hlk]
    | none =>
      have hrn : r ∉ keys L := look_none hlk
      have hne : b ≠ r := by
        rcases hR r hr with h | h
        · exact absurd h hrn
        · omega
      rw [look_app_r hrn]
      unfold look
      rw [if_neg hne]; rfl
  have t2 : ∀ b w, w0.heap.size ≤ b → b ∉ keys L → Hp w0 (L ++ [(b, .cells zv.cells t)]) w → wpAnyG P l.toArray (postN w0 N) ts (SR w0 R L) is.length (listed.set a true).toArray (act (setF f d (vp b 0))) w := by
    intro b w hb hbL hw
    rw [hlen, SR_congr (hRb b hb hbL)]
    exact h b hb hbL _ hF (fun t ht => hts t ht) w hw
  refine ⟨fun w hw => ⟨fun _ => SR.of hw, (fun h => by rw [hr] at h; cases h), fun i hi => ?_⟩, t2⟩
  rw [hr, List.mem_singleton] at hi
  subst hi
  refine run_allocD ha hop hdst hg hz ?_
  rw [set_toArray]
  exact t2 _ _ hw.size (fun hm => Nat.lt_irrefl _ (hw.lt hm)) (hw.alloc _)
/-- A region in which a variable may be made at any time. -/
theorem Cw.regionD {id : Nat} (R ts : List Nat) (a d t m : Nat) (zv : Value) (hl : l.length = m + 1) (hm : P.follows .mixedOrders = true) (hop : ((nthO l a).map fun o => (o.op, o.dst, o.guard)) = some (.alloc t, some d, none)) (hts : ts.contains a = false) (hns : Region.noSelect l.toArray = true) (hz : zeroV P t = some zv)
    (h : Drift P l ts a d (.cells zv.cells t) → OwD P w0 l R ts a d (.cells zv.cells t) m (List.replicate (m + 1) false) f L (K .normal)) : Cw P w0 (.region id l.toArray true) f L K := by
  intro w hw
  refine wp_mono (wp_region_any hm ?_) fun _ _ _ h => postN_post h
  have hD : Drift P l ts a d (.cells zv.cells t) := by
    cases hn : nthO l a with
    | none => rw [hn] at hop; cases hop
    | some oa =>
      rw [hn] at hop
      simp only [Option.map_some, Option.some.injEq, Prod.mk.injEq] at hop
      exact ⟨⟨oa, t, zv, by rw [nthO_eq] at hn; simpa using hn, hop.1, hop.2.1, hop.2.2, hz, rfl⟩, by simpa using hts, hns⟩
  have h1 := (h hD).1 w.drew hw.drew
  have := wpAny_of_G _ _ _ _ h1
  simpa [hl] using this
end
end Go.Sx
namespace Go.Sx
open Go
/-- A slice that grows, or one that was written out with no elements. -/
def Gr (L : Heap) (E : TypeId) (m : Nat) (v : Value) (n : Nat) (cs : List Value) : Prop :=
  Buf L E m v n cs ∨ (n = 0 ∧ cs = [] ∧ ∃ b, v = vsl b 0 0 0 ∧ look L b = some (.cells #[] E (0, 0)))
theorem Gr.nl {L : Heap} {E : TypeId} {m : Nat} : Gr L E m (.slice none 0 0) 0 [] := .inl .nl
theorem Grew.any {w0 : World} {v v' : Value} {L L' : Heap} (h : Grew w0 v L L') (hv : slB v = none) : Grew w0 v' L L' :=
  ⟨h.keys, h.new, fun c o _ hl => h.look c o (by rw [hv]; simp) hl⟩
theorem Gr.keep {L L' : Heap} {E : TypeId} {m n : Nat} {v : Value} {cs : List Value} (h : Gr L E m v n cs) (hk : ∀ b o, slB v = some b → look L b = some o → look L' b = some o) : Gr L' E m v n cs := by
  rcases h with h | ⟨h1, h2, b, rfl, h3⟩
  · exact .inl (h.keep hk)
  · exact .inr ⟨h1, h2, b, rfl, hk b _ rfl h3⟩
theorem Gr.app {L M : Heap} {E : TypeId} {m n : Nat} {v : Value} {cs : List Value} (h : Gr L E m v n cs) : Gr (L ++ M) E m v n cs := h.keep fun _ _ _ hl => look_app hl
theorem Gr.len {L : Heap} {E : TypeId} {m n : Nat} {v : Value} {cs : List Value} (h : Gr L E m v n cs) (x : Bool × Nat) : lenV (.sl x) v = some (vi n) := by
  rcases h with h | ⟨rfl, rfl, b, rfl, -⟩
  · exact h.len x
  · rfl
theorem Gr.cell {L : Heap} {E : TypeId} {m n : Nat} {v : Value} {cs : List Value} (h : Gr L E m v n cs) : Value.oneCell' v = true ∧ v.cells = #[v] := by
  rcases h with h | ⟨rfl, rfl, b, rfl, -⟩
  · exact h.cell
  · exact ⟨rfl, rfl⟩
theorem Gr.key {L : Heap} {E : TypeId} {m n : Nat} {v : Value} {cs : List Value} (h : Gr L E m v n cs) {b : Nat} (hb : slB v = some b) : b ∈ keys L := by
  rcases h with h | ⟨rfl, rfl, c, rfl, hl⟩
  · rcases h.inv with ⟨rfl, -, -⟩ | ⟨c, cc, rest, rfl, hl, -⟩
    · cases hb
    · cases hb; exact key_of_look hl
  · cases hb; exact key_of_look hl
section
variable {α : Type} {m : Nat} {enc : α → List Value} {z : α} {w : World} {v : Value} {l : List α}
theorem Gr.slM {L : Heap} {E : TypeId} {n : Nat} {cs : List Value} (h : Gr L E m v n cs) (hw : ∀ b o, (b, o) ∈ L → w.heap[b]? = some o) (hl : l.length = n) (hcs : cs = (l.map enc).flatten) (hm : ∀ x, (enc x).length = m) : SlV m enc z w v l := by
  rcases h with h | ⟨rfl, rfl, b, rfl, hlk⟩
  · exact h.slM hw hl hcs hm
  · obtain rfl : l = [] := List.eq_nil_of_length_eq_zero hl
    exact SlV.sl (l := ([] : List α)) (off := 0) (c := 0) (hw _ _ (look_mem hlk)) (fun k hk => by simp at hk) (Nat.le_refl 0) (by simp)
theorem flat_len (hm : ∀ x, (enc x).length = m) (l : List α) : (l.map enc).flatten.length = l.length * m := by
  induction l with
  | nil => simp
  | cons x r ih => rw [List.map_cons, List.flatten_cons, List.length_append, ih, hm, List.length_cons, Nat.add_mul, Nat.one_mul, Nat.add_comm]
/-- A literal of one element. -/
theorem AppX.one1 {P : Program} {b : Nat} {E : TypeId} {fz : Nat × Nat} {cs : List Value} (hb : w.heap[b]? = some (.cells cs.toArray E fz)) (hm : cs.length = m) (h1 : cs.all Value.oneCell' = true) : AppX P w m (vsl b 0 1 1) 1 cs := by
  refine AppX.block (w0 := w) (L := []) (by rw [readB_nil]; exact hb) (by simp; omega) ?_ h1 (Hp.refl w)
  rw [List.extract_toArray, List.extract_eq_take_drop, List.drop_zero, List.take_of_length_le (by omega)]
end
section
variable {P : Program} {w0 : World} {f : Fr} {L : Heap} {N : Fr → Heap → Prop} {ops : Array Oper} {rest : List Oper} {md : Md}
  {d : Option Tmp} {ty : TypeId} {ps : String} {af : Array Edge} {g : Option (Nat × Bool)}
theorem Ow.appendG {ts tx e : TypeId} {m : Bool × Nat} {z : Value} {s x : Operand} {n k : Nat} {cs new : List Value} {dx : TypeDesc} {md' : Md} (sv : Value) (hsv : ev f s = sv) (he : md.turn = some md')
    (hs : skipped ops f ⟨d, .call ⟨.builtin .append, #[s, x], #[ts, tx]⟩, ty, ps, af, g⟩ = false)
    (hu : P.underlying ts = some (.slice e)) (hm : aggT P e = some m) (hi : bytesOk P e = true) (hz : zeroV P e = some z) (hzs : z.cells.size = m.2) (hux : P.underlying tx = some dx) (hnx : ∀ k, dx ≠ .int k)
    (hB : Gr L e m.2 sv n cs) (hX : ∀ w, Hp w0 L w → AppX P w m.2 (ev f x) k new) (hlen : new.length = k * m.2) (hbig : 2 * (n + k) + 768 ≤ 2 ^ 38)
    (hn : ∀ v' L', Gr L' e m.2 v' (n + k) (cs ++ new) → (0 < k → Buf L' e m.2 v' (n + k) (cs ++ new)) → Grew w0 sv L L' → (slB v' = slB sv ∨ ∃ c, slB v' = some c ∧ Above L c) → Ow P w0 ops md' rest (putF f d v') L' N) :
    Ow P w0 ops md (⟨d, .call ⟨.builtin .append, #[s, x], #[ts, tx]⟩, ty, ps, af, g⟩ :: rest) f L N := by
  rcases hB with hB | ⟨rfl, rfl, b, rfl, hlk⟩
  · exact Ow.append sv hsv he hs hu hm hi hz hzs hux hnx hB hX hbig fun v' L' h1 h2 h3 => hn v' L' (.inl h1) (fun _ => h1) h2 h3
  · refine Ow.appendEm hsv he hs hu hm hi hz hzs hux hnx hX hbig (fun h0 => ?_) (fun v' L' hk h1 h2 h3 => ?_)
    · subst h0
      obtain rfl : new = [] := List.eq_nil_of_length_eq_zero (by rw [hlen, Nat.zero_mul])
      exact hn _ L (.inr ⟨rfl, rfl, b, rfl, hlk⟩) (fun h => absurd h (Nat.lt_irrefl 0)) (Grew.refl _ _ _) (.inl rfl)
    · exact hn v' L' (.inl h1) (fun _ => h1) (h2.any rfl) (.inr h3)
end
end Go.Sx
namespace Go.Sx
open Go
theorem readB_app {w0 : World} {L M : Heap} {r : Nat} (h : r ∈ keys L) : readB w0 (L ++ M) r = readB w0 L r := by
  obtain ⟨o, ho⟩ := look_key h
  rw [read_look ho, read_look (look_app ho)]
theorem readB_appR {w0 : World} {L M : Heap} {R : List Nat} (h : ∀ r, r ∈ R → r ∈ keys L) : ∀ r, r ∈ R → readB w0 (L ++ M) r = readB w0 L r := fun r hr => readB_app (h r hr)
theorem New.of_le {n : Nat} : ∀ {D : Heap}, (∀ c, c ∈ keys D → n ≤ c) → New n D
  | [], _ => trivial
  | (b, o) :: r, h => ⟨h b (by simp [keys]), New.of_le fun c hc => h c (by simp only [keys, List.map_cons, List.mem_cons] at hc ⊢; exact .inr hc)⟩
theorem readB_appr {w0 : World} {L M : Heap} {r : Nat} (h : r ∉ keys M) : readB w0 (M ++ L) r = readB w0 L r := by
  unfold readB; rw [look_app_r h]
theorem Ext.new0 {w : World} {D : Heap} (h : Ext w [] D) : New w.heap.size D := by
  have hn := h.new
  have key : ∀ (D : Heap), (∀ c, c ∈ Sx.keys D → w.heap.size ≤ c) → New w.heap.size D := by
    intro D
    induction D with
    | nil => intro _; trivial
    | cons p r ih =>
      obtain ⟨b, o⟩ := p
      intro hh
      exact ⟨hh b (by simp [Sx.keys]), ih fun c hc => hh c (by simp only [Sx.keys, List.map_cons, List.mem_cons] at hc ⊢; exact .inr hc)⟩
  refine key D fun c hc => ?_
  rcases hn c hc with h1 | h1
  · cases h1
  · exact h1
theorem Ext.of_new {w : World} {D : Heap} (h : New w.heap.size D) : Ext w [] D := ⟨fun c hc => .inr (h.le c hc), fun c hc => by cases hc⟩
section
variable {P : Program} {w0 : World} {f : Fr} {L : Heap} {N : Fr → Heap → Prop} {K : Kont} {ops : Array Oper} {rest : List Oper} {md : Md}
  {d : Option Tmp} {ty : TypeId} {ps : String} {af : Array Edge} {g : Option (Nat × Bool)}
theorem look_of_mem {b : Nat} {o : Obj} : ∀ {B : Heap}, (keys B).Nodup → (b, o) ∈ B → look B b = some o
  | [], _, h => by cases h
  | (c, x) :: q, hn, h => by
    simp only [keys, List.map_cons, List.nodup_cons] at hn
    unfold look
    rcases List.mem_cons.1 h with h | h
    · cases h; rw [if_pos rfl]
    · have : c ≠ b := fun e => hn.1 (e ▸ List.mem_map.2 ⟨_, h, rfl⟩)
      rw [if_neg this]
      exact look_of_mem hn.2 h
theorem SR.perm {R : List Nat} {M : Heap} (h : M.Perm L) (hn : (keys L).Nodup) : SR w0 R M = SR w0 R L := by
  refine SR_congr fun r _ => ?_
  have hk : ∀ (A B : Heap), A.Perm B → (keys B).Nodup → ∀ o, look A r = some o → look B r = some o := fun A B hp hB o ho => look_of_mem hB (hp.mem_iff.1 (look_mem ho))
  have hnM : (keys M).Nodup := (List.Perm.nodup_iff (h.map Prod.fst)).2 hn
  unfold readB
  cases hl : look L r with
  | some o => rw [hk L M h.symm hnM o hl]
  | none =>
    cases hm : look M r with
    | none => rfl
    | some o => rw [hk M L h hn o hm] at hl; cases hl
theorem OwD.permL {l : List Oper} {listed : List Bool} {n : Nat} {R ts : List Nat} {a d : Nat} {z : Obj} {M : Heap} (hp : M.Perm L) (h : OwD P w0 l R ts a d z n listed f M N) : OwD P w0 l R ts a d z n listed f L N := by
  refine ⟨fun w hw => ?_, fun b w hb hbL hw => ?_⟩
  · have := h.1 w (hw.perm hp)
    rw [SR.perm hp hw.nodup] at this
    exact this
  · have hnd : (keys L).Nodup := by
      have := hw.nodup
      rw [keys_app, List.nodup_append] at this
      exact this.1
    have := h.2 b w hb (fun hm => hbL (by have := (hp.map Prod.fst).mem_iff.1 hm; exact this)) (hw.perm (hp.append_right _))
    rw [SR.perm hp hnd] at this
    exact this
theorem Cw.permL {c : Code} {M : Heap} (hp : M.Perm L) (h : Cw P w0 c f M K) : Cw P w0 c f L K := fun w hw => h w (hw.perm hp)
theorem Ow.permL {M : Heap} {l : List Oper} (hp : M.Perm L) (h : Ow P w0 ops .seq l f M N) : Ow P w0 ops .seq l f L N := fun w hw => h w (hw.perm hp)
/-- A callee that makes new blocks alone. -/
theorem Ow.callC {l : List Operand} {ts : Array TypeId} {k : FuncId} {S : Value → Heap → Prop} {md' : Md} (he : md.turn = some md')
    (hs : skipped ops f ⟨d, .call ⟨.value (.func k), l.toArray, ts⟩, ty, ps, af, g⟩ = false)
    (hk : ∀ a w, (callFunc k a).run P w = .ok (.enter k a) w)
    (hc : ∀ w, Hp w0 L w → Rets P k (l.map (ev f)).toArray w (XS w [] S))
    (hn : ∀ B v D, Above L B → w0.heap.size ≤ B → New B D → S v D → Ow P w0 ops md' rest (putF f d v) (L ++ D) N) :
    Ow P w0 ops md (⟨d, .call ⟨.value (.func k), l.toArray, ts⟩, ty, ps, af, g⟩ :: rest) f L N :=
  Ow.callN he hs hk (S := fun B v D => New B D ∧ S v D) (fun w hw => (hc w hw).mono fun _v _D h => ⟨h.1.new0, h.2⟩) (fun _ _ _ h => h.1) (fun B v D hA hB hS => hn B v D hA hB hS.1 hS.2)
/-- What is known of some blocks is known by itself. -/
theorem Hp.part {w : World} {X Y : Heap} (h : Hp w0 (X ++ Y) w) : Hp w X w :=
  ⟨fun b o hm => h.has b o (List.mem_append_left _ hm), by have := h.nodup; rw [keys_app, List.nodup_append] at this; exact this.1, fun _ _ _ => rfl, Nat.le_refl _, rfl, rfl, rfl⟩
theorem Hp.join {w w' : World} {X Y D : Heap} (h : Hp w0 (X ++ Y) w) (k : Hp w D w') (h1 : ∀ c, c ∈ keys X → c ∈ keys D) (h2 : ∀ c, c ∈ keys D → c ∈ keys X ∨ w.heap.size ≤ c) : Hp w0 (D ++ Y) w' := by
  have hnd := h.nodup
  rw [keys_app, List.nodup_append] at hnd
  have hY : ∀ c, c ∈ keys Y → c ∉ keys D := by
    intro c hc hd
    rcases h2 c hd with hx | hx
    · exact hnd.2.2 c hx c hc rfl
    · have := h.lt (b := c) (by rw [keys_app]; exact List.mem_append_right _ hc)
      omega
  have ht := h.trans k
  have e : (X ++ Y).filter (fun p => !(keys D).contains p.1) = Y := by
    rw [List.filter_append, filter_keys_all hY]
    have : X.filter (fun p => !(keys D).contains p.1) = [] := by
      rw [List.filter_eq_nil_iff]
      intro p hp
      have := h1 p.1 (List.mem_map.2 ⟨p, hp, rfl⟩)
      simp [this]
    rw [this, List.nil_append]
  rw [e] at ht
  exact ht.perm List.perm_append_comm
/-- What is appended to a slice of a chunk. -/
theorem Ow.appendX {ts tx e : TypeId} {m : Bool × Nat} {z : Value} {s x : Operand} {n k : Nat} {cs new : List Value} {dx : TypeDesc} {md' : Md} {X Y : Heap} (sv : Value) (hL : L = X ++ Y) (hsv : ev f s = sv) (he : md.turn = some md')
    (hs : skipped ops f ⟨d, .call ⟨.builtin .append, #[s, x], #[ts, tx]⟩, ty, ps, af, g⟩ = false)
    (hu : P.underlying ts = some (.slice e)) (hm : aggT P e = some m) (hi : bytesOk P e = true) (hz : zeroV P e = some z) (hzs : z.cells.size = m.2) (hux : P.underlying tx = some dx) (hnx : ∀ k, dx ≠ .int k)
    (hB : Gr X e m.2 sv n cs) (hX : ∀ w, Hp w0 L w → AppX P w m.2 (ev f x) k new) (hk : 0 < k) (hbig : 2 * (n + k) + 768 ≤ 2 ^ 38)
    (hn : ∀ B v' D, Above L B → w0.heap.size ≤ B → Buf D e m.2 v' (n + k) (cs ++ new) → (∀ c, c ∈ keys X → c ∈ keys D) → (∀ c, c ∈ keys D → c ∈ keys X ∨ B ≤ c) → (∀ c o, slB sv ≠ some c → look X c = some o → look D c = some o) → Ow P w0 ops md' rest (putF f d v') (D ++ Y) N) :
    Ow P w0 ops md (⟨d, .call ⟨.builtin .append, #[s, x], #[ts, tx]⟩, ty, ps, af, g⟩ :: rest) f L N := by
  subst hL
  refine Ow.step he rfl hs fun w hw => ?_
  have hp := hw.part
  have hA : Above (X ++ Y) w.heap.size := above_of fun b hb => hw.lt hb
  have fin : ∀ v' w' D, (Builtin.append_ #[ts, tx] ty #[sv, ev f x]).run P w = .ok v' w' → Hp w D w' → Buf D e m.2 v' (n + k) (cs ++ new) → (∀ c, c ∈ keys X → c ∈ keys D) → (∀ c, c ∈ keys D → c ∈ keys X ∨ w.heap.size ≤ c) → (∀ c o, slB sv ≠ some c → look X c = some o → look D c = some o) →
      (∃ v w' L', (execOp (ev f) ⟨d, .call ⟨.builtin .append, #[s, x], #[ts, tx]⟩, ty, ps, af, g⟩).run P w = .ok (.value v) w' ∧ Hp w0 L' w' ∧ Ow P w0 ops md' rest (putF f d v) L' N) := by
    intro v' w' D hr hD hb h1 h2 h3
    refine ⟨v', w', D ++ Y, ?_, hw.join hD h1 h2, hn w.heap.size v' D hA hw.size hb h1 h2 h3⟩
    simp only [execOp, resolve, Sem.run_bind, Sem.run_pure, Result.andThen_ok, invoke, builtin, List.map_toArray, List.map_cons, List.map_nil, hsv]
    rw [hr]
    rfl
  have hX' : ∀ w', Hp w [] w' → True := fun _ _ => trivial
  rcases hB with hB | ⟨rfl, rfl, b, rfl, hlk⟩
  · obtain ⟨v', w', D, hr, hD, hb, hg, -⟩ := run_append (w0 := w) (L := X) (ty := ty) (x := ev f x) hp hu hm hi hz hzs hux hnx hB (fun w2 hw2 => hX w2 (by
      refine hw.join hw2 (fun c hc => hc) (fun c hc => .inl hc))) hbig
    exact .inl (fin v' w' D hr hD hb hg.keys (fun c hc => (hg.new c hc).imp id And.right) hg.look)
  · rcases run_appendEm (w0 := w) (L := X) (ty := ty) (b := b) (x := ev f x) hp hu hm hi hz hzs hux hnx (fun w2 hw2 => hX w2 (by
      refine hw.join hw2 (fun c hc => hc) (fun c hc => .inl hc))) hbig with ⟨h0, -⟩ | ⟨-, v', w', D, hr, hD, hb, hg, -⟩
    · omega
    · exact .inl (fin v' w' D hr hD hb hg.keys (fun c hc => (hg.new c hc).imp id And.right) (fun c o _ hl => hg.look c o (by simp [slB]) hl))
end
/-- A slice that grows, somewhere among some blocks. -/
def GrI (D : Heap) (E : TypeId) (m : Nat) (v : Value) (n : Nat) (cs : List Value) : Prop := ∃ X, (∀ p, p ∈ X → p ∈ D) ∧ Gr X E m v n cs
theorem Gr.i {X D : Heap} {E : TypeId} {m n : Nat} {v : Value} {cs : List Value} (h : Gr X E m v n cs) (hX : ∀ p, p ∈ X → p ∈ D) : GrI D E m v n cs := ⟨X, hX, h⟩
theorem GrI.mono {D D' : Heap} {E : TypeId} {m n : Nat} {v : Value} {cs : List Value} (h : GrI D E m v n cs) (hX : ∀ p, p ∈ D → p ∈ D') : GrI D' E m v n cs := by
  obtain ⟨X, h1, h2⟩ := h; exact ⟨X, fun p hp => hX p (h1 p hp), h2⟩
section
variable {P : Program} {w0 : World} {f : Fr} {L : Heap} {N : Fr → Heap → Prop}
theorem look_app_r' {L _M : Heap} {b : Nat} {o : Obj} (h : b ∉ keys L) : look (L ++ [(b, o)]) b = some o := by
  rw [look_app_r h]; exact look_same _ _ _
theorem setB_app_r {b : Nat} {o x : Obj} : ∀ {L : Heap}, b ∉ keys L → setB (L ++ [(b, o)]) b x = L ++ [(b, x)]
  | [], _ => by rw [List.nil_append, setB_same]; rfl
  | (c, y) :: r, h => by
    simp only [keys, List.map_cons, List.mem_cons, not_or] at h
    rw [List.cons_append, setB_other _ _ _ _ _ (Ne.symm h.1), setB_app_r (by simpa [keys] using h.2)]; rfl
end
end Go.Sx
namespace Go.Sx
open Go
/-- A slice that is written out with one element of some cells. -/
theorem slice_one {P : Program} {t e : TypeId} {m : Nat} {zc : Array Value} {cs : List Value} (hu : P.underlying t = some (.slice e)) (ha : aggT P e = some (true, m)) (hz : zeroV P e = some (.agg zc)) (hm : 0 < m ∧ m ≤ 16777216) (hc : cs.length = m) :
    sliceB P t 1 [(0, .agg cs.toArray)] = some (e, cs.toArray) := by
  have h2 : Value.cells (.agg cs.toArray) = cs.toArray := cells_agg _
  have hg : ¬ (1 * m > 2 ^ 24) := by simp; omega
  have h0 : ¬ (1 * m = 0) := by omega
  simp only [sliceB, hu, ha, hz, Option.map_some]
  rw [if_neg hg, if_neg h0]
  simp only
  generalize hI : (Array.range (1 * m)).map (fun x => (Value.cells (.agg zc))[x % (Value.cells (.agg zc)).size]!) = I
  have hIs : I.size = m := by rw [← hI]; simp
  have hfl : Instr.fill (fun i => some (i * m, m)) I [(0, Value.agg cs.toArray)] = some cs.toArray := by
    unfold Instr.fill
    have s3 : cs.toArray.size = m := by simp [hc]
    simp only [h2, s3, hIs, Nat.zero_mul, ne_eq, not_true_eq_false, decide_false, Bool.false_or, Nat.zero_add, Nat.lt_irrefl, gt_iff_lt, Bool.false_eq_true, ↓reduceIte]
    unfold Instr.fill
    congr 1
    have hz := foldl_putC cs 0 0 I
    rw [Nat.add_zero, putC_all I cs (by rw [hc, hIs])] at hz
    simp only [Nat.zero_add] at hz
    rw [← Array.foldl_toList, Array.toList_zipIdx]
    exact hz
  rw [hfl]
  rfl
end Go.Sx
namespace Go.Sx
open Go
/-- Is a text less than another one? -/
abbrev ltB (a b : List UInt8) : Bool := Op.bytesLess a b
theorem ltB_eq : ∀ (x y : List UInt8), ltB x y = decide (x < y)
  | [], [] => by simp [ltB, Op.bytesLess]
  | _ :: _, [] => by simp [ltB, Op.bytesLess]
  | [], _ :: _ => by simp [ltB, Op.bytesLess]
  | a :: x, b :: y => by
    have ih := ltB_eq x y
    simp only [ltB] at ih ⊢
    rw [Op.bytesLess, ih]
    simp only [List.cons_lt_cons_iff]
    by_cases h1 : a < b <;> by_cases h2 : a = b <;> by_cases h3 : x < y <;> simp [h1, h2, h3]
theorem ltB_irrefl (a : List UInt8) : ltB a a = false := by
  rw [ltB_eq]; simp
theorem ltB_trans {a b c : List UInt8} (h : ltB a b = true) (k : ltB b c = true) : ltB a c = true := by
  rw [ltB_eq, decide_eq_true_eq] at *
  exact List.lt_trans h k
theorem ltB_asymm {a b : List UInt8} (h : ltB a b = true) : ltB b a = false := by
  cases hb : ltB b a
  · rfl
  · have := ltB_trans h hb
    rw [ltB_irrefl] at this; cases this
theorem ltB_ne {a b : List UInt8} (h : ltB a b = true) : a ≠ b := by
  rintro rfl
  rw [ltB_irrefl] at h; cases h
theorem ltB_total {a b : List UInt8} (h : ltB a b = false) (hne : a ≠ b) : ltB b a = true := by
  rw [ltB_eq, decide_eq_false_iff_not] at h
  rw [ltB_eq, decide_eq_true_eq]
  rcases Std.Trichotomous.rel_or_eq_or_rel_swap (r := (· < · : List UInt8 → List UInt8 → Prop)) (a := a) (b := b) with h1 | h1 | h1
  · exact absurd h1 h
  · exact absurd h1 hne
  · exact h1
end Go.Sx
namespace Go.StP
open Go Go.Sx
variable {α : Type} (key : α → List UInt8)
/-- Is one to stand ahead of the other one? -/
def lt (a b : α) : Bool := ltB (key a) (key b)
def Sorted (l : List α) : Prop := l.Pairwise fun a b => lt key b a = false
/-- What bears a key, in order. -/
def of (k : List UInt8) (l : List α) : List α := l.filter fun a => key a == k
/-- The same, for every key. -/
def St (l l' : List α) : Prop := ∀ k, of key k l' = of key k l
theorem St.refl (l : List α) : St key l l := fun _ => rfl
variable {key}
theorem St.trans {a b c : List α} (h : St key a b) (h' : St key b c) : St key a c := fun k => (h' k).trans (h k)
theorem St.symm {a b : List α} (h : St key a b) : St key b a := fun k => (h k).symm
theorem of_app (k : List UInt8) (a b : List α) : of key k (a ++ b) = of key k a ++ of key k b := List.filter_append ..
theorem St.app {a a' b b' : List α} (h : St key a a') (h' : St key b b') : St key (a ++ b) (a' ++ b') := fun k => by rw [of_app, of_app, h, h']
theorem mem_of {k : List UInt8} {l : List α} {x : α} : x ∈ of key k l ↔ x ∈ l ∧ key x = k := by
  unfold of; rw [List.mem_filter]; simp
theorem St.mem {a b : List α} (h : St key a b) (x : α) : x ∈ b ↔ x ∈ a := by
  have e := h (key x)
  have h1 : x ∈ b ↔ x ∈ of key (key x) b := by rw [mem_of]; simp
  have h2 : x ∈ a ↔ x ∈ of key (key x) a := by rw [mem_of]; simp
  rw [h1, h2, e]
theorem of_none {k : List UInt8} {l : List α} (h : ∀ x, x ∈ l → key x ≠ k) : of key k l = [] := by
  unfold of
  rw [List.filter_eq_nil_iff]
  intro x hx
  simpa using h x hx
/-- Two lists that share no key may change places. -/
theorem St.swap {a b : List α} (h : ∀ x, x ∈ a → ∀ y, y ∈ b → key x ≠ key y) : St key (a ++ b) (b ++ a) := by
  intro k
  rw [of_app, of_app]
  by_cases ha : ∃ x, x ∈ a ∧ key x = k
  · obtain ⟨x, hx, rfl⟩ := ha
    have : of key (key x) b = [] := of_none fun y hy e => h x hx y hy e.symm
    rw [this, List.append_nil, List.nil_append]
  · have : of key k a = [] := of_none fun x hx e => ha ⟨x, hx, e⟩
    rw [this, List.append_nil, List.nil_append]
theorem lt_ne {a b : α} (h : lt key a b = true) : key a ≠ key b := ltB_ne h
theorem lt_trans {a b c : α} (h : lt key a b = true) (k : lt key b c = true) : lt key a c = true := ltB_trans h k
theorem lt_asymm {a b : α} (h : lt key a b = true) : lt key b a = false := ltB_asymm h
theorem lt_irrefl (a : α) : lt key a a = false := ltB_irrefl _
theorem eq_of {a b : α} (h : lt key a b = false) (k : lt key b a = false) : key a = key b := by
  cases hk : decide (key a = key b)
  · have hne : key a ≠ key b := of_decide_eq_false hk
    have := ltB_total h hne
    unfold lt at k
    rw [this] at k; cases k
  · exact of_decide_eq_true hk
/-- ≤ goes on. -/
theorem ge_trans {a b c : α} (h : lt key b a = false) (k : lt key c b = false) : lt key c a = false := by
  cases hc : lt key c a
  · rfl
  · by_cases e : key b = key c
    · unfold lt at *
      rw [e, hc] at h; cases h
    · have h1 : lt key b c = true := by
        refine ltB_total ?_ (fun e' => e e'.symm)
        exact k
      have := lt_trans h1 hc
      rw [h] at this; cases this
theorem lt_of_lt_of_ge {a b c : α} (h : lt key a b = true) (k : lt key c b = false) : lt key a c = true := by
  cases hc : lt key a c
  · have := ge_trans (key := key) (a := b) (b := c) (c := a) k hc
    rw [h] at this; cases this
  · rfl
theorem lt_of_ge_of_lt {a b c : α} (h : lt key b a = false) (k : lt key b c = true) : lt key a c = true := by
  cases hc : lt key a c
  · have := ge_trans (key := key) (a := c) (b := a) (c := b) hc h
    rw [k] at this; cases this
  · rfl
theorem St.head {a b : α} {l l' : List α} (hs : Sorted key (a :: l)) (hs' : Sorted key (b :: l')) (h : St key (a :: l) (b :: l')) : a = b ∧ St key l l' := by
  have h1 : lt key b a = false := by
    have hb : b ∈ a :: l := (h.mem b).1 List.mem_cons_self
    rcases List.mem_cons.1 hb with rfl | hb
    · exact lt_irrefl _
    · exact (List.pairwise_cons.1 hs).1 b hb
  have h2 : lt key a b = false := by
    have ha : a ∈ b :: l' := (h.mem a).2 List.mem_cons_self
    rcases List.mem_cons.1 ha with rfl | ha
    · exact lt_irrefl _
    · exact (List.pairwise_cons.1 hs').1 a ha
  have hk : key a = key b := eq_of h2 h1
  have he := h (key a)
  unfold of at he
  rw [List.filter_cons, List.filter_cons, if_pos (by simp [hk]), if_pos (by simp)] at he
  have hab : b = a := (List.cons.inj he).1
  refine ⟨hab.symm, fun k => ?_⟩
  have hk' := h k
  subst hab
  unfold of at hk' ⊢
  rw [List.filter_cons, List.filter_cons] at hk'
  split at hk'
  · exact (List.cons.inj hk').2
  · exact hk'
/-- There is one such list. -/
theorem St.eq : ∀ {l l' : List α}, Sorted key l → Sorted key l' → St key l l' → l = l'
  | [], [], _, _, _ => rfl
  | [], b :: l', _, _, h => by
    have : b ∈ ([] : List α) := (h.mem b).1 List.mem_cons_self
    cases this
  | a :: l, [], _, _, h => by
    have : a ∈ ([] : List α) := (h.mem a).2 List.mem_cons_self
    cases this
  | a :: l, b :: l', hs, hs', h => by
    obtain ⟨rfl, h'⟩ := St.head hs hs' h
    rw [St.eq (List.pairwise_cons.1 hs).2 (List.pairwise_cons.1 hs').2 h']
theorem Sorted.app {a b : List α} (ha : Sorted key a) (hb : Sorted key b) (h : ∀ x, x ∈ a → ∀ y, y ∈ b → lt key y x = false) : Sorted key (a ++ b) :=
  List.pairwise_append.2 ⟨ha, hb, h⟩
theorem Sorted.left {a b : List α} (h : Sorted key (a ++ b)) : Sorted key a := (List.pairwise_append.1 h).1
theorem Sorted.right {a b : List α} (h : Sorted key (a ++ b)) : Sorted key b := (List.pairwise_append.1 h).2.1
theorem Sorted.cross {a b : List α} (h : Sorted key (a ++ b)) : ∀ x, x ∈ a → ∀ y, y ∈ b → lt key y x = false := (List.pairwise_append.1 h).2.2
/-- One more behind a sorted list, put in its place. -/
theorem ins_sorted {a b : List α} {x : α} (h : Sorted key (a ++ b)) (hb : ∀ y, y ∈ b → lt key x y = true) (ha : ∀ y, y ∈ a → lt key x y = false) : Sorted key (a ++ x :: b) ∧ St key (a ++ b ++ [x]) (a ++ x :: b) := by
  refine ⟨Sorted.app h.left (List.pairwise_cons.2 ⟨fun y hy => lt_asymm (hb y hy), h.right⟩) ?_, ?_⟩
  · intro y hy z hz
    rcases List.mem_cons.1 hz with rfl | hz
    · exact ha y hy
    · exact h.cross y hy z hz
  · rw [List.append_assoc]
    refine St.app (St.refl key a) ?_
    exact St.swap (a := b) (b := [x]) fun y hy z hz => by
      rw [List.mem_singleton] at hz
      subst hz
      exact fun e => lt_ne (hb y hy) e.symm
end Go.StP
namespace Go.Sx
open Go
section
variable {α : Type} (enc : α → List Value)
/-- A block of elements. -/
def rowO (E : TypeId) (rest : List Value) (d : List α) : Obj := .cells ((d.map enc).flatten ++ rest).toArray E (0, 0)
variable {enc} {m : Nat} {E : TypeId} {rest : List Value} {d : List α} {z : α}
theorem row_split (hm : ∀ x, (enc x).length = m) {k : Nat} (hk : k < d.length) : ∃ A C, (d.map enc).flatten ++ rest = A ++ (enc (d.getD k z) ++ C) ∧ A.length = k * m ∧ ∀ x, ((d.set k x).map enc).flatten ++ rest = A ++ (enc x ++ C) := by
  refine ⟨((d.take k).map enc).flatten, ((d.drop (k + 1)).map enc).flatten ++ rest, ?_, ?_, fun x => ?_⟩
  · have e : d = d.take k ++ d.getD k z :: d.drop (k + 1) := by
      rw [List.getD_eq_getElem?_getD, List.getElem?_eq_getElem hk, Option.getD_some, List.getElem_cons_drop, List.take_append_drop]
    have e2 := congrArg (fun l => (l.map enc).flatten ++ rest) e
    simp only [List.map_append, List.map_cons, List.flatten_append, List.flatten_cons, List.append_assoc] at e2
    exact e2
  · rw [flat_len hm, List.length_take, Nat.min_eq_left (Nat.le_of_lt hk)]
  · have e : d.set k x = d.take k ++ x :: d.drop (k + 1) := List.set_eq_take_append_cons_drop.trans (by rw [if_pos hk])
    rw [e]
    simp only [List.map_append, List.map_cons, List.flatten_append, List.flatten_cons, List.append_assoc]
theorem load_row (hm : ∀ x, (enc x).length = m) (k : Nat) (hk : k < d.length) : loadV (some (true, m)) (some (rowO enc E rest d)) (k * m) = some (.agg (enc (d.getD k z)).toArray) := by
  obtain ⟨A, C, e, hA, -⟩ := row_split (z := z) (rest := rest) hm hk
  unfold rowO
  rw [e]
  exact load_agg A _ C E (0, 0) hA (hm _)
theorem store_row (hm : ∀ x, (enc x).length = m) (h1 : ∀ x, (enc x).all Value.oneCell' = true) (k : Nat) (x : α) (a : Bool) (hk : k < d.length) :
    storeV (some (a, m)) (some (rowO enc E rest d)) (k * m) (.agg (enc x).toArray) = some (rowO enc E rest (d.set k x)) := by
  obtain ⟨A, C, e, hA, e2⟩ := row_split (z := x) (rest := rest) hm hk
  unfold rowO
  rw [e, e2 x]
  exact store_mid A _ _ C a _ E hA (hm _) (cells_agg _) (hm _) (h1 _)
end
section
variable {P : Program} {w0 : World} {f : Fr} {L : Heap} {N : Fr → Heap → Prop} {ops : Array Oper} {rest : List Oper} {md : Md} {d : Option Tmp} {ty : TypeId} {ps : String} {af : Array Edge} {g : Option (Nat × Bool)}
/-- A function value with two arguments, whose callee leaves nothing but garbage. -/
theorem Ow.callFn2 {x y y2 : Operand} {ts : Array TypeId} {k : FuncId} {v a a2 : Value} (hs : skipped ops f ⟨d, .call ⟨.value x, #[y, y2], ts⟩, ty, ps, af, g⟩ = false) (hx : ev f x = .func (.func k) #[] #[]) (hy : ev f y = a) (hy2 : ev f y2 = a2)
    (hk : ∀ a w, (callFunc k a).run P w = .ok (.enter k a) w) (hc : ∀ w, Hp w0 L w → Rets P k #[a, a2] w (fun v' D => v' = v ∧ D = [])) (hn : Ow P w0 ops md.next rest (putF f d v) L N) :
    Ow P w0 ops md (⟨d, .call ⟨.value x, #[y, y2], ts⟩, ty, ps, af, g⟩ :: rest) f L N :=
  Ow.callV hs hx hk (fun w hw => by simpa [hy, hy2] using hc w hw) hn
end
end Go.Sx
namespace Go.StP
open Go Go.Sx
variable {α : Type} {key : α → List UInt8} {z : α}
/-! ### Places -/
theorem getD_app_l {a b : List α} {k : Nat} (h : k < a.length) : (a ++ b).getD k z = a.getD k z := by
  rw [List.getD_eq_getElem?_getD, List.getD_eq_getElem?_getD, List.getElem?_append_left h]
theorem getD_app_r {a b : List α} {k : Nat} (h : a.length ≤ k) : (a ++ b).getD k z = b.getD (k - a.length) z := by
  rw [List.getD_eq_getElem?_getD, List.getD_eq_getElem?_getD, List.getElem?_append_right h]
theorem getD_mem {l : List α} {k : Nat} (h : k < l.length) : l.getD k z ∈ l := by
  rw [List.getD_eq_getElem?_getD, List.getElem?_eq_getElem h]; exact List.getElem_mem h
theorem mem_getD {l : List α} {x : α} (h : x ∈ l) : ∃ k, k < l.length ∧ l.getD k z = x := by
  obtain ⟨k, hk, rfl⟩ := List.mem_iff_getElem.1 h
  exact ⟨k, hk, by rw [List.getD_eq_getElem?_getD, List.getElem?_eq_getElem hk]; rfl⟩
theorem getD_take {l : List α} {k n : Nat} (h : k < n) : (l.take n).getD k z = l.getD k z := by
  rw [List.getD_eq_getElem?_getD, List.getD_eq_getElem?_getD, List.getElem?_take, if_pos h]
theorem getD_drop {l : List α} {k n : Nat} : (l.drop n).getD k z = l.getD (n + k) z := by
  rw [List.getD_eq_getElem?_getD, List.getD_eq_getElem?_getD, List.getElem?_drop]
theorem drop_cons {l : List α} {k : Nat} (h : k < l.length) : l.drop k = l.getD k z :: l.drop (k + 1) := by
  rw [List.getD_eq_getElem?_getD, List.getElem?_eq_getElem h]
  exact List.drop_eq_getElem_cons h
theorem take_snoc {l : List α} {k : Nat} (h : k < l.length) : l.take (k + 1) = l.take k ++ [l.getD k z] := by
  rw [List.getD_eq_getElem?_getD, List.getElem?_eq_getElem h]
  exact List.take_succ_eq_append_getElem h
theorem Sorted.at_ {l : List α} (h : Sorted key l) {i j : Nat} (hij : i ≤ j) (hj : j < l.length) : lt key (l.getD j z) (l.getD i z) = false := by
  rcases Nat.lt_or_eq_of_le hij with h1 | rfl
  · have := List.pairwise_iff_getElem.1 h i j (by omega) hj h1
    rw [List.getD_eq_getElem?_getD, List.getD_eq_getElem?_getD, List.getElem?_eq_getElem hj, List.getElem?_eq_getElem (show i < l.length by omega)]
    exact this
  · exact lt_irrefl _
/-- All of the first ones are below x, if the last of them is. -/
theorem Sorted.take_lt {l : List α} (h : Sorted key l) {k : Nat} {x : α} (hk : k ≤ l.length) (hx : k = 0 ∨ lt key (l.getD (k - 1) z) x = true) : ∀ y, y ∈ l.take k → lt key y x = true := by
  intro y hy
  obtain ⟨i, hi, rfl⟩ := mem_getD (z := z) hy
  rw [List.length_take, Nat.min_eq_left hk] at hi
  rw [getD_take hi]
  rcases hx with rfl | hx
  · omega
  · exact lt_of_ge_of_lt (h.at_ (by omega) (by omega)) hx
theorem Sorted.take_le {l : List α} (h : Sorted key l) {k : Nat} {x : α} (hk : k ≤ l.length) (hx : k = 0 ∨ lt key x (l.getD (k - 1) z) = false) : ∀ y, y ∈ l.take k → lt key x y = false := by
  intro y hy
  obtain ⟨i, hi, rfl⟩ := mem_getD (z := z) hy
  rw [List.length_take, Nat.min_eq_left hk] at hi
  rw [getD_take hi]
  rcases hx with rfl | hx
  · omega
  · exact ge_trans (h.at_ (by omega) (by omega)) hx
theorem Sorted.drop_gt {l : List α} (h : Sorted key l) {k : Nat} {x : α} (hx : l.length ≤ k ∨ lt key x (l.getD k z) = true) : ∀ y, y ∈ l.drop k → lt key x y = true := by
  intro y hy
  obtain ⟨i, hi, rfl⟩ := mem_getD (z := z) hy
  rw [List.length_drop] at hi
  rw [getD_drop]
  rcases hx with hx | hx
  · omega
  · exact lt_of_lt_of_ge hx (h.at_ (by omega) (by omega))
theorem Sorted.drop_ge {l : List α} (h : Sorted key l) {k : Nat} {x : α} (hx : l.length ≤ k ∨ lt key (l.getD k z) x = false) : ∀ y, y ∈ l.drop k → lt key y x = false := by
  intro y hy
  obtain ⟨i, hi, rfl⟩ := mem_getD (z := z) hy
  rw [List.length_drop] at hi
  rw [getD_drop]
  rcases hx with hx | hx
  · omega
  · exact ge_trans hx (h.at_ (by omega) (by omega))
/-! ### Two that stand side by side change places -/
theorem swap_at {a c : List α} (u v : α) {i : Nat} (h : i = a.length) : ((a ++ u :: v :: c).set i v).set (i + 1) u = a ++ v :: u :: c := by
  subst h
  rw [List.set_append_right _ _ (Nat.le_refl _), Nat.sub_self, List.set_cons_zero, List.set_append_right _ _ (by omega), show a.length + 1 - a.length = 1 by omega]
  rfl
theorem at_0 {a c : List α} (u : α) {i : Nat} (h : i = a.length) : (a ++ u :: c).getD i z = u := by
  subst h
  rw [getD_app_r (Nat.le_refl _), Nat.sub_self]; rfl
theorem at_1 {a c : List α} (u v : α) {i : Nat} (h : i = a.length + 1) : (a ++ u :: v :: c).getD i z = v := by
  subst h
  rw [getD_app_r (by omega), show a.length + 1 - a.length = 1 by omega]; rfl
/-- x stands in s, behind the first k of it. -/
def slide (a s : List α) (x : α) (b : List α) (k : Nat) : List α := a ++ (s.take k ++ (x :: (s.drop k ++ b)))
theorem slide_len (a s : List α) (x : α) (b : List α) (k : Nat) : (slide a s x b k).length = a.length + s.length + 1 + b.length := by
  unfold slide; simp only [List.length_append, List.length_cons, List.length_take, List.length_drop]; omega
theorem slide_x {a s : List α} {x : α} {b : List α} {k i : Nat} (hk : k ≤ s.length) (h : i = a.length + k) : (slide a s x b k).getD i z = x := by
  unfold slide
  rw [← List.append_assoc]
  exact at_0 x (by simp only [List.length_append, List.length_take]; omega)
theorem slide_l {a s : List α} {x : α} {b : List α} {k i : Nat} (hk : k < s.length) (h : i = a.length + k) : (slide a s x b (k + 1)).getD i z = s.getD k z := by
  unfold slide
  rw [take_snoc (z := z) hk, List.append_assoc, List.singleton_append, ← List.append_assoc]
  exact at_0 _ (by simp only [List.length_append, List.length_take]; omega)
theorem slide_r {a s : List α} {x : α} {b : List α} {k i : Nat} (hk : k < s.length) (h : i = a.length + k + 1) : (slide a s x b k).getD i z = s.getD k z := by
  unfold slide
  rw [drop_cons (z := z) hk, ← List.append_assoc, List.cons_append]
  exact at_1 x _ (by simp only [List.length_append, List.length_take]; omega)
theorem slide_lo {a s : List α} {x : α} {b : List α} {k h i : Nat} (hh : h < k) (hk : k ≤ s.length) (e : i = a.length + h) : (slide a s x b k).getD i z = s.getD h z := by
  subst e
  unfold slide
  rw [getD_app_r (by omega), Nat.add_sub_cancel_left, getD_app_l (by rw [List.length_take]; omega), getD_take hh]
theorem slide_hi {a s : List α} {x : α} {b : List α} {k h i : Nat} (hh : k ≤ h) (hk : h < s.length) (e : i = a.length + 1 + h) : (slide a s x b k).getD i z = s.getD h z := by
  subst e
  unfold slide
  rw [getD_app_r (by omega), getD_app_r (by rw [List.length_take]; omega), List.length_take, show a.length + 1 + h - a.length - min k s.length = (h - k) + 1 by omega, List.getD_cons_succ, getD_app_l (by rw [List.length_drop]; omega), getD_drop, show k + (h - k) = h by omega]
theorem slide_down {a s : List α} {x : α} {b : List α} {k i : Nat} (hk : k < s.length) (h : i = a.length + k) : ((slide a s x b (k + 1)).set i x).set (i + 1) (s.getD k z) = slide a s x b k := by
  unfold slide
  rw [take_snoc (z := z) hk, drop_cons (z := z) hk, List.append_assoc, List.singleton_append, ← List.append_assoc, ← List.append_assoc]
  rw [swap_at _ _ (by simp only [List.length_append, List.length_take]; omega), List.cons_append]
theorem slide_up {a s : List α} {x : α} {b : List α} {k i : Nat} (hk : k < s.length) (h : i = a.length + k) : ((slide a s x b k).set i (s.getD k z)).set (i + 1) x = slide a s x b (k + 1) := by
  unfold slide
  rw [take_snoc (z := z) hk, drop_cons (z := z) hk, List.append_assoc, List.singleton_append, ← List.append_assoc, ← List.append_assoc, List.cons_append]
  rw [swap_at _ _ (by simp only [List.length_append, List.length_take]; omega)]
theorem set_comm' {l : List α} {i j : Nat} (h : i ≠ j) (u v : α) : (l.set i u).set j v = (l.set j v).set i u := List.set_comm _ _ h
theorem slide_end (a s : List α) (x : α) (b : List α) {k : Nat} (h : s.length ≤ k) : slide a s x b k = a ++ ((s ++ [x]) ++ b) := by
  unfold slide
  rw [List.take_of_length_le h, List.drop_eq_nil_of_le h, List.nil_append, List.append_assoc, List.singleton_append]
theorem slide_zero (a s : List α) (x : α) (b : List α) : slide a s x b 0 = a ++ (([x] ++ s) ++ b) := by
  unfold slide; rfl
theorem slide_mid (a s : List α) (x : α) (b : List α) (k : Nat) : slide a s x b k = a ++ ((s.take k ++ x :: s.drop k) ++ b) := by
  unfold slide
  rw [List.append_assoc, List.cons_append]
/-- Put in its place: sorted, and what stood ahead of it of its key still stands so. -/
theorem slide_sorted {s : List α} {x : α} {k : Nat} (hs : Sorted key s) (hk : k ≤ s.length) (h1 : k = 0 ∨ lt key x (s.getD (k - 1) z) = false) (h2 : s.length ≤ k ∨ lt key x (s.getD k z) = true) :
    Sorted key (s.take k ++ x :: s.drop k) ∧ St key (s ++ [x]) (s.take k ++ x :: s.drop k) := by
  have := ins_sorted (a := s.take k) (b := s.drop k) (x := x) (by rw [List.take_append_drop]; exact hs) (hs.drop_gt h2) (hs.take_le hk h1)
  rwa [List.take_append_drop] at this
theorem slide_sorted2 {s : List α} {x : α} {k : Nat} (hs : Sorted key s) (hk : k ≤ s.length) (h1 : k = 0 ∨ lt key (s.getD (k - 1) z) x = true) (h2 : s.length ≤ k ∨ lt key (s.getD k z) x = false) :
    Sorted key (s.take k ++ x :: s.drop k) ∧ St key ([x] ++ s) (s.take k ++ x :: s.drop k) := by
  have ht := hs.take_lt hk h1
  have hd := hs.drop_ge h2
  have hs' : Sorted key (s.take k ++ s.drop k) := by rw [List.take_append_drop]; exact hs
  refine ⟨Sorted.app hs'.left (List.pairwise_cons.2 ⟨fun y hy => hd y hy, hs'.right⟩) ?_, ?_⟩
  · intro y hy w hw
    rcases List.mem_cons.1 hw with rfl | hw
    · exact lt_asymm (ht y hy)
    · exact hs'.cross y hy w hw
  · have e : [x] ++ s = ([x] ++ s.take k) ++ s.drop k := by rw [List.append_assoc, List.take_append_drop]
    rw [e, show s.take k ++ x :: s.drop k = (s.take k ++ [x]) ++ s.drop k by simp]
    refine St.app (St.swap fun y hy w hw => ?_) (St.refl key _)
    rw [List.mem_singleton] at hy
    subst hy
    exact fun e => lt_ne (ht w hw) e.symm
/-- Two sorted lists, each cut: what goes ahead, then what goes behind. -/
theorem merge_cut {l r : List α} {i j : Nat} {x1 x2 : List α} (hl : Sorted key l) (hr : Sorted key r) (hi : i ≤ l.length) (hj : j ≤ r.length)
    (h1 : j = 0 ∨ l.length ≤ i ∨ lt key (r.getD (j - 1) z) (l.getD i z) = true) (h2 : i = 0 ∨ r.length ≤ j ∨ lt key (r.getD j z) (l.getD (i - 1) z) = false)
    (s1 : Sorted key x1) (t1 : St key (l.take i ++ r.take j) x1) (s2 : Sorted key x2) (t2 : St key (l.drop i ++ r.drop j) x2) : Sorted key (x1 ++ x2) ∧ St key (l ++ r) (x1 ++ x2) := by
  have hl' : Sorted key (l.take i ++ l.drop i) := by rw [List.take_append_drop]; exact hl
  have hr' : Sorted key (r.take j ++ r.drop j) := by rw [List.take_append_drop]; exact hr
  have ha : ∀ x, x ∈ r.take j → ∀ y, y ∈ l.drop i → lt key x y = true := by
    intro x hx y hy
    rcases h1 with rfl | h1 | h1
    · cases hx
    · rw [List.drop_eq_nil_of_le h1] at hy; cases hy
    · have := hr.take_lt (k := j) (x := l.getD i z) hj (.inr h1) x hx
      obtain ⟨k, hk, rfl⟩ := mem_getD (z := z) hy
      rw [List.length_drop] at hk
      rw [getD_drop]
      exact lt_of_lt_of_ge this (hl.at_ (by omega) (by omega))
  have hb : ∀ x, x ∈ l.take i → ∀ y, y ∈ r.drop j → lt key y x = false := by
    intro x hx y hy
    rcases h2 with rfl | h2 | h2
    · cases hx
    · rw [List.drop_eq_nil_of_le h2] at hy; cases hy
    · have := hr.drop_ge (k := j) (x := l.getD (i - 1) z) (.inr h2) y hy
      obtain ⟨k, hk, rfl⟩ := mem_getD (z := z) hx
      rw [List.length_take, Nat.min_eq_left hi] at hk
      rw [getD_take hk]
      exact ge_trans (hl.at_ (by omega) (by omega)) this
  refine ⟨Sorted.app s1 s2 fun x hx y hy => ?_, ?_⟩
  · rw [t1.mem, List.mem_append] at hx
    rw [t2.mem, List.mem_append] at hy
    rcases hx with hx | hx <;> rcases hy with hy | hy
    · exact hl'.cross x hx y hy
    · exact hb x hx y hy
    · exact lt_asymm (ha x hx y hy)
    · exact hr'.cross x hx y hy
  · have e : l ++ r = l.take i ++ ((l.drop i ++ r.take j) ++ r.drop j) := by
      rw [List.append_assoc, List.take_append_drop, ← List.append_assoc, List.take_append_drop]
    rw [e]
    refine St.trans (b := l.take i ++ ((r.take j ++ l.drop i) ++ r.drop j)) (St.app (St.refl key _) (St.app (St.swap fun x hx y hy e => lt_ne (ha y hy x hx) e.symm) (St.refl key _))) ?_
    rw [show l.take i ++ ((r.take j ++ l.drop i) ++ r.drop j) = (l.take i ++ r.take j) ++ (l.drop i ++ r.drop j) by simp only [List.append_assoc]]
    exact St.app t1 t2
end Go.StP
section
open Go Go.Proofs Go.Sx Go.StP
namespace Go.Proofs
set_option maxRecDepth 10000
set_option maxHeartbeats 4000000
set_option linter.unusedSimpArgs false
/-! ### Entries -/
structure EntL where
  name : List UInt8
  kind : Int
  id : IdL
def entC (r : EntL) : List Value := [vs r.name] ++ ([vi r.kind] ++ (r.id.l.map v8))
def ent0 : EntL := ⟨[], 0, id0⟩
theorem entC_len (r : EntL) : (entC r).length = 34 := by simp [entC, r.id.h]
theorem cells_ent (r : EntL) : Value.cells (.agg (entC r).toArray) = (entC r).toArray := cells_agg _
theorem entC_one (r : EntL) : (entC r).all Value.oneCell' = true := by
  unfold entC
  simp only [List.all_append, List.all_cons, List.all_nil, all_v8, Bool.and_true, Bool.true_and]
  rfl
theorem zrEnt : zeroV Tryd.prog 108 = some (.agg (entC ent0).toArray) := id (by kernel_rfl)
theorem aggEnt : aggT Tryd.prog 108 = some (true, 34) := id (by kernel_rfl)
theorem ent_at0 (r : EntL) : entC r = ([] : List Value) ++ (([vs r.name]) ++ ([vi r.kind] ++ (r.id.l.map v8))) := by
  unfold entC; simp only [List.append_assoc, List.nil_append, List.append_nil]
theorem ent_p0 (r : EntL) : partV (false, 1) (entC r).toArray 0 = some (vs r.name) := by
  rw [ent_at0]; exact part_one _ _ _ (by simp)
theorem load_ent0 (r : EntL) (n : Nat) (E : TypeId) (fz : Nat × Nat) : loadV (some (false, n)) (some (.cells (entC r).toArray E fz)) 0 = some (vs r.name) := by
  rw [ent_at0]; exact load_one _ _ _ n E fz (by simp)
theorem row_ent0 {w : World} {v : Value} {l : List EntL} {b off : Nat} {arr : Array Value} {E : TypeId} {fz : Nat × Nat} (h : RowS 34 entC ent0 w v l b off arr E fz) {k : Nat} (hk : k < l.length) (n : Nat) : loadV (some (false, n)) (some (.cells arr E fz)) (off + k * 34 + 0) = some (vs (l.getD k ent0).name) := by
  rw [RowS.cell h hk (by omega)]; generalize l.getD k ent0 = r; rw [ent_at0]; exact get_midL _ _ _ (by simp)
theorem store_ent0 (r : EntL) (x : List UInt8) (a : Bool) (E : TypeId) : storeV (some (a, 1)) (some (.cells (entC r).toArray E (0, 0))) 0 (vs x) = some (.cells (entC { r with name := x }).toArray E (0, 0)) := by
  rw [ent_at0 r, ent_at0 { r with name := x }]; exact store_mid _ _ _ _ a _ E (by simp) rfl (rfl) rfl (rfl)
theorem ent_at1 (r : EntL) : entC r = (([vs r.name])) ++ (([vi r.kind]) ++ (r.id.l.map v8)) := by
  unfold entC; simp only [List.append_assoc, List.nil_append, List.append_nil]
theorem ent_p1 (r : EntL) : partV (false, 1) (entC r).toArray 1 = some (vi r.kind) := by
  rw [ent_at1]; exact part_one _ _ _ (by simp)
theorem load_ent1 (r : EntL) (n : Nat) (E : TypeId) (fz : Nat × Nat) : loadV (some (false, n)) (some (.cells (entC r).toArray E fz)) 1 = some (vi r.kind) := by
  rw [ent_at1]; exact load_one _ _ _ n E fz (by simp)
theorem row_ent1 {w : World} {v : Value} {l : List EntL} {b off : Nat} {arr : Array Value} {E : TypeId} {fz : Nat × Nat} (h : RowS 34 entC ent0 w v l b off arr E fz) {k : Nat} (hk : k < l.length) (n : Nat) : loadV (some (false, n)) (some (.cells arr E fz)) (off + k * 34 + 1) = some (vi (l.getD k ent0).kind) := by
  rw [RowS.cell h hk (by omega)]; generalize l.getD k ent0 = r; rw [ent_at1]; exact get_midL _ _ _ (by simp)
theorem store_ent1 (r : EntL) (x : Int) (a : Bool) (E : TypeId) : storeV (some (a, 1)) (some (.cells (entC r).toArray E (0, 0))) 1 (vi x) = some (.cells (entC { r with kind := x }).toArray E (0, 0)) := by
  rw [ent_at1 r, ent_at1 { r with kind := x }]; exact store_mid _ _ _ _ a _ E (by simp) rfl (rfl) rfl (rfl)
theorem ent_at2 (r : EntL) : entC r = (([vs r.name]) ++ ([vi r.kind])) ++ ((r.id.l.map v8) ++ (([] : List Value))) := by
  unfold entC; simp only [List.append_assoc, List.nil_append, List.append_nil]
theorem ent_p2 (r : EntL) : partV (true, 32) (entC r).toArray 2 = some (Value.agg (a8 r.id.l)) := by
  rw [ent_at2, part_agg _ _ _ (by simp) (by simp [r.id.h])]; rfl
theorem load_ent2 (r : EntL) (E : TypeId) (fz : Nat × Nat) : loadV (some (true, 32)) (some (.cells (entC r).toArray E fz)) 2 = some (Value.agg (a8 r.id.l)) := by
  rw [ent_at2, load_agg _ _ _ E fz (by simp) (by simp [r.id.h])]; rfl
theorem ent_x2 (r : EntL) : (entC r).toArray.extract 2 34 = a8 r.id.l := by
  rw [ent_at2]; exact ext_mid (o := 2) (n := 32) _ _ _ (by simp) (by simp [r.id.h])
theorem row_ent2 {w : World} {v : Value} {l : List EntL} {b off : Nat} {arr : Array Value} {E : TypeId} {fz : Nat × Nat} (h : RowS 34 entC ent0 w v l b off arr E fz) {k : Nat} (hk : k < l.length) : loadV (some (true, 32)) (some (.cells arr E fz)) (off + k * 34 + 2) = some (Value.agg (a8 (l.getD k ent0).id.l)) := by
  rw [RowS.part h entC_len hk (by omega) (by omega), ent_x2]
theorem store_ent2 (r : EntL) (x : IdL) (a : Bool) (E : TypeId) : storeV (some (a, 32)) (some (.cells (entC r).toArray E (0, 0))) 2 (Value.agg (a8 x.l)) = some (.cells (entC { r with id := x }).toArray E (0, 0)) := by
  rw [ent_at2 r, ent_at2 { r with id := x }]; exact store_mid _ _ _ _ a _ E (by simp) (by simp [r.id.h]) (cells_agg _) (by simp [x.h]) (all_v8 _)
theorem load_ent (r : EntL) (E : TypeId) (fz : Nat × Nat) : loadV (some (true, 34)) (some (.cells (entC r).toArray E fz)) 0 = some (.agg (entC r).toArray) := load_all _ E fz 34 (by rw [List.size_toArray, entC_len])
theorem store_ent (old : Array Value) (r : EntL) (a : Bool) (E : TypeId) (h : old.size = 34) : storeV (some (a, 34)) (some (.cells old E (0, 0))) 0 (.agg (entC r).toArray) = some (.cells (entC r).toArray E (0, 0)) := store_whole _ a old E (entC_len r) (entC_one r) h
theorem store_entr (r r' : EntL) (a : Bool) (E : TypeId) : storeV (some (a, 34)) (some (.cells (entC r').toArray E (0, 0))) 0 (.agg (entC r).toArray) = some (.cells (entC r).toArray E (0, 0)) := store_ent _ r a E (by rw [List.size_toArray, entC_len])
theorem row_ent {w : World} {v : Value} {l : List EntL} {b off : Nat} {arr : Array Value} {E : TypeId} {fz : Nat × Nat} (h : RowS 34 entC ent0 w v l b off arr E fz) {k : Nat} (hk : k < l.length) : loadV (some (true, 34)) (some (.cells arr E fz)) (off + k * 34) = some (.agg (entC (l.getD k ent0)).toArray) := RowS.load h entC_len (by omega) hk
theorem stoodEnt : Tryd.prog.stoodInHeld 108 = false := by kernel_rfl
theorem guardEnt : Tryd.prog.eqGuardType Tryd.prog.depth 108 = false := by kernel_rfl
theorem eqDEnt (r r' : EntL) : eqD Tryd.prog 8 108 (.agg (entC r).toArray) (.agg (entC r').toArray) = some ((r.name == r'.name) && (r.kind == r'.kind) && (r.id.l == r'.id.l)) := by
  have hs : ∀ (a b : List UInt8), eqD Tryd.prog 7 9 (vs a) (vs b) = some (a == b) := by
    intro a b; unfold eqD; rw [Tryd.underlying9]; simp only [vs, bs_beq]
  have hi : ∀ (a b : Int), eqD Tryd.prog 7 3 (vi a) (vi b) = some (a == b) := by
    intro a b; unfold eqD; rw [Tryd.underlying3]; rfl
  have hd : ∀ (a b : IdL), eqD Tryd.prog 7 40 (.agg (a8 a.l)) (.agg (a8 b.l)) = some (a.l == b.l) := fun a b => eqD_a8 (d := 5) Tryd.underlying40 Tryd.underlying5 Tryd.ag5 _ _ a.h b.h
  have ags : aggT Tryd.prog 9 = some (false, 1) := id (by kernel_rfl)
  have agi : aggT Tryd.prog 3 = some (false, 1) := id (by kernel_rfl)
  have agd : aggT Tryd.prog 40 = some (true, 32) := id (by kernel_rfl)
  unfold eqD
  rw [Tryd.underlying108]
  simp only
  rw [stoodEnt]
  simp only [Bool.false_eq_true, ↓reduceIte, eqFieldsV, eqPartV, ags, agi, agd, ent_p0, ent_p1, ent_p2, hs, hi, hd]
  cases (r.name == r'.name) <;> cases (r.kind == r'.kind) <;> cases (r.id.l == r'.id.l) <;> simp
theorem neEnt (r r' : EntL) : binX Tryd.prog .neq 108 (.agg (entC r).toArray) (.agg (entC r').toArray) = some (.bool (!((r.name == r'.name) && (r.kind == r'.kind) && (r.id.l == r'.id.l)))) := by
  unfold binX eqX; rw [guardEnt]; simp [plainV, eqDEnt]
theorem build_ent (r : EntL) : buildV (plcT Tryd.prog 108) (zeroV Tryd.prog 108) [(0, vs r.name), (1, vi r.kind), (2, Value.agg (a8 r.id.l))] = some (.agg (entC r).toArray) := by
  have hp : plcT Tryd.prog 108 = some [(0, 1), (1, 1), (2, 32)] := id (by kernel_rfl)
  rw [hp, zrEnt]
  have e0 : (entC ent0).toArray = (([] : List Value) ++ (([vs ent0.name]) ++ ([vi ent0.kind] ++ (ent0.id.l.map v8)))).toArray := by congr 1 <;> simp only [entC, List.append_assoc, List.nil_append, List.append_nil]
  have q0 : putC (([] : List Value) ++ (([vs ent0.name]) ++ ([vi ent0.kind] ++ (ent0.id.l.map v8)))).toArray 0 ([vs r.name]) = (([] : List Value) ++ (([vs r.name]) ++ ([vi ent0.kind] ++ (ent0.id.l.map v8)))).toArray := put_mid _ _ _ _ (by simp) (rfl)
  have s0 : (([] : List Value) ++ (([vs ent0.name]) ++ ([vi ent0.kind] ++ (ent0.id.l.map v8)))).toArray.size = 34 := by simp [r.id.h, ent0.id.h]
  have z0 : (Value.cells (vs r.name)).toList = [vs r.name] := by rfl
  have y0 : (Value.cells (vs r.name)).size = 1 := by rw [← Array.length_toList, z0]; simp
  have e1 : (([] : List Value) ++ (([vs r.name]) ++ ([vi ent0.kind] ++ (ent0.id.l.map v8)))).toArray = ((([vs r.name])) ++ (([vi ent0.kind]) ++ (ent0.id.l.map v8))).toArray := by congr 1 <;> simp only [entC, List.append_assoc, List.nil_append, List.append_nil]
  have q1 : putC ((([vs r.name])) ++ (([vi ent0.kind]) ++ (ent0.id.l.map v8))).toArray 1 ([vi r.kind]) = ((([vs r.name])) ++ (([vi r.kind]) ++ (ent0.id.l.map v8))).toArray := put_mid _ _ _ _ (by simp) (rfl)
  have s1 : ((([vs r.name])) ++ (([vi ent0.kind]) ++ (ent0.id.l.map v8))).toArray.size = 34 := by simp [r.id.h, ent0.id.h]
  have z1 : (Value.cells (vi r.kind)).toList = [vi r.kind] := by rfl
  have y1 : (Value.cells (vi r.kind)).size = 1 := by rw [← Array.length_toList, z1]; simp
  have e2 : ((([vs r.name])) ++ (([vi r.kind]) ++ (ent0.id.l.map v8))).toArray = ((([vs r.name]) ++ ([vi r.kind])) ++ ((ent0.id.l.map v8) ++ (([] : List Value)))).toArray := by congr 1 <;> simp only [entC, List.append_assoc, List.nil_append, List.append_nil]
  have q2 : putC ((([vs r.name]) ++ ([vi r.kind])) ++ ((ent0.id.l.map v8) ++ (([] : List Value)))).toArray 2 (r.id.l.map v8) = ((([vs r.name]) ++ ([vi r.kind])) ++ ((r.id.l.map v8) ++ (([] : List Value)))).toArray := put_mid _ _ _ _ (by simp) (by simp [ent0.id.h, r.id.h])
  have s2 : ((([vs r.name]) ++ ([vi r.kind])) ++ ((ent0.id.l.map v8) ++ (([] : List Value)))).toArray.size = 34 := by simp [r.id.h, ent0.id.h]
  have z2 : (Value.cells (Value.agg (a8 r.id.l))).toList = r.id.l.map v8 := by rw [cells_agg]; rfl
  have y2 : (Value.cells (Value.agg (a8 r.id.l))).size = 32 := by rw [← Array.length_toList, z2]; simp [r.id.h]
  have e3 : ((([vs r.name]) ++ ([vi r.kind])) ++ ((r.id.l.map v8) ++ (([] : List Value)))).toArray = (entC r).toArray := by congr 1 <;> simp only [entC, List.append_assoc, List.nil_append, List.append_nil]
  simp only [buildV]
  rw [e0]
  unfold fillV
  simp only [List.getElem?_cons_zero, List.getElem?_cons_succ, z0, y0]
  rw [if_pos ⟨trivial, by rw [s0]; decide⟩, q0]
  rw [e1]
  unfold fillV
  simp only [List.getElem?_cons_zero, List.getElem?_cons_succ, z1, y1]
  rw [if_pos ⟨trivial, by rw [s1]; decide⟩, q1]
  rw [e2]
  unfold fillV
  simp only [List.getElem?_cons_zero, List.getElem?_cons_succ, z2, y2]
  rw [if_pos ⟨trivial, by rw [s2]; decide⟩, q2]
  rw [e3]; rfl
theorem isNaN_spec (s : List UInt8) (w : World) : Rets Tryd.prog 128 #[vs s] w (fun v D => v = .bool false ∧ D = []) := by
  refine Rets.enterV Tryd.func128 rfl (rs := [.tmp 2]) Tryd.results128 Tryd.ntmps128 ?_
  simp only [List.size_toArray, List.length_cons, List.length_nil, Nat.reduceAdd, Nat.reduceSub, List.replicate_succ, List.replicate_zero, List.cons_append, List.nil_append]
  ((try with_reducible refine Cw.go [] ?_); (try simp (disch := (first | assumption | omega | (simp only [lenS, lenT, UInt64.reduceToNat]; try omega))) only [↓Sx.S0, Sx.S1, Tryd.fx, Nat.reduceAdd, Nat.reducePow, Int.reducePow, Nat.reduceBEq, ↓reduceIte, UInt8.reduceToNat, UInt16.reduceToNat, UInt32.reduceToNat, UInt64.reduceToNat, Int.reduceToNat]))
  refine ⟨_, (by simp (disch := (first | assumption | omega | (simp only [lenS, lenT, UInt64.reduceToNat]; try omega))) only [↓Sx.S0, Sx.S1, Tryd.fx, Nat.reduceAdd, Nat.reducePow, Int.reducePow, Nat.reduceBEq, ↓reduceIte, UInt8.reduceToNat, UInt16.reduceToNat, UInt32.reduceToNat, UInt64.reduceToNat, Int.reduceToNat]; rfl), trivial, ?_⟩
  simp [tupV]
/-- cmp.Compare of texts. -/
def cmpS (a b : List UInt8) : Int := if ltB a b then -1 else if ltB b a then 1 else 0
theorem gtr_ltB (a b : List UInt8) : (!(Op.bytesLess a b || a == b)) = ltB b a := by
  cases h : ltB a b
  · have h' : Op.bytesLess a b = false := h
    rw [h', Bool.false_or]
    by_cases e : a = b
    · subst e; rw [h]; simp
    · rw [ltB_total h e]; simp [e]
  · have h' : Op.bytesLess a b = true := h
    rw [h', ltB_asymm h]; rfl
theorem Compare_spec (a b : List UInt8) (w : World) : Rets Tryd.prog 99 #[vs a, vs b] w (fun v D => v = vi (cmpS a b) ∧ D = []) := by
  refine Rets.enterV Tryd.func99 rfl (rs := [.tmp 4]) Tryd.results99 Tryd.ntmps99 ?_
  simp only [List.size_toArray, List.length_cons, List.length_nil, Nat.reduceAdd, Nat.reduceSub, List.replicate_succ, List.replicate_zero, List.cons_append, List.nil_append]
  ((try with_reducible refine Cw.go [] ?_); (try simp (disch := (first | assumption | omega | (simp only [lenS, lenT, UInt64.reduceToNat]; try omega))) only [↓Sx.S0, Sx.S1, Tryd.fx, Nat.reduceAdd, Nat.reducePow, Int.reducePow, Nat.reduceBEq, ↓reduceIte, UInt8.reduceToNat, UInt16.reduceToNat, UInt32.reduceToNat, UInt64.reduceToNat, Int.reduceToNat]))
  refine Ow.callFV rfl Tryd.call128 (fun w' hw' => isNaN_spec a w') ?_
  refine Ow.go rfl ?_
  simp (disch := (first | assumption | omega | (simp only [lenS, lenT, UInt64.reduceToNat]; try omega))) only [↓Sx.S0, Sx.S1, Tryd.fx, Nat.reduceAdd, Nat.reducePow, Int.reducePow, Nat.reduceBEq, ↓reduceIte, UInt8.reduceToNat, UInt16.reduceToNat, UInt32.reduceToNat, UInt64.reduceToNat, Int.reduceToNat]
  refine Ow.callFV rfl Tryd.call128 (fun w' hw' => isNaN_spec b w') ?_
  refine Ow.go rfl ?_
  simp (disch := (first | assumption | omega | (simp only [lenS, lenT, UInt64.reduceToNat]; try omega))) only [↓Sx.S0, Sx.S1, Tryd.fx, Nat.reduceAdd, Nat.reducePow, Int.reducePow, Nat.reduceBEq, ↓reduceIte, UInt8.reduceToNat, UInt16.reduceToNat, UInt32.reduceToNat, UInt64.reduceToNat, Int.reduceToNat]
  unfold cmpS
  cases h1 : Op.bytesLess a b
  · cases h2 : ltB b a
    · have h3 : (!(Op.bytesLess a b || a == b)) = false := by rw [gtr_ltB, h2]
      rw [h1] at h3
      ((try with_reducible refine Cw.go [] ?_); (try simp (disch := (first | assumption | omega | (simp only [lenS, lenT, UInt64.reduceToNat]; try omega))) only [↓Sx.S0, Sx.S1, Tryd.fx, Nat.reduceAdd, Nat.reducePow, Int.reducePow, Nat.reduceBEq, ↓reduceIte, UInt8.reduceToNat, UInt16.reduceToNat, UInt32.reduceToNat, UInt64.reduceToNat, Int.reduceToNat, h3, gtr_ltB]))
      refine ⟨_, (by simp (disch := (first | assumption | omega | (simp only [lenS, lenT, UInt64.reduceToNat]; try omega))) only [↓Sx.S0, Sx.S1, Tryd.fx, Nat.reduceAdd, Nat.reducePow, Int.reducePow, Nat.reduceBEq, ↓reduceIte, UInt8.reduceToNat, UInt16.reduceToNat, UInt32.reduceToNat, UInt64.reduceToNat, Int.reduceToNat]; rfl), trivial, ?_⟩
      simp [tupV, ltB, h1, h2]
    · have h3 : (!(Op.bytesLess a b || a == b)) = true := by rw [gtr_ltB, h2]
      rw [h1] at h3
      ((try with_reducible refine Cw.go [] ?_); (try simp (disch := (first | assumption | omega | (simp only [lenS, lenT, UInt64.reduceToNat]; try omega))) only [↓Sx.S0, Sx.S1, Tryd.fx, Nat.reduceAdd, Nat.reducePow, Int.reducePow, Nat.reduceBEq, ↓reduceIte, UInt8.reduceToNat, UInt16.reduceToNat, UInt32.reduceToNat, UInt64.reduceToNat, Int.reduceToNat, h3, gtr_ltB]))
      refine ⟨_, (by simp (disch := (first | assumption | omega | (simp only [lenS, lenT, UInt64.reduceToNat]; try omega))) only [↓Sx.S0, Sx.S1, Tryd.fx, Nat.reduceAdd, Nat.reducePow, Int.reducePow, Nat.reduceBEq, ↓reduceIte, UInt8.reduceToNat, UInt16.reduceToNat, UInt32.reduceToNat, UInt64.reduceToNat, Int.reduceToNat]; rfl), trivial, ?_⟩
      simp [tupV, ltB, h1]
  · ((try with_reducible refine Cw.go [] ?_); (try simp (disch := (first | assumption | omega | (simp only [lenS, lenT, UInt64.reduceToNat]; try omega))) only [↓Sx.S0, Sx.S1, Tryd.fx, Nat.reduceAdd, Nat.reducePow, Int.reducePow, Nat.reduceBEq, ↓reduceIte, UInt8.reduceToNat, UInt16.reduceToNat, UInt32.reduceToNat, UInt64.reduceToNat, Int.reduceToNat]))
    refine ⟨_, (by simp (disch := (first | assumption | omega | (simp only [lenS, lenT, UInt64.reduceToNat]; try omega))) only [↓Sx.S0, Sx.S1, Tryd.fx, Nat.reduceAdd, Nat.reducePow, Int.reducePow, Nat.reduceBEq, ↓reduceIte, UInt8.reduceToNat, UInt16.reduceToNat, UInt32.reduceToNat, UInt64.reduceToNat, Int.reduceToNat]; rfl), trivial, ?_⟩
    simp [tupV, ltB, h1]
set_option linter.defProp false
def uOA_1 := And.intro (@load_ent0) (@cells_ent)
/-- How two entries are compared. -/
def cmpE (a b : EntL) : Int := cmpS a.name b.name
theorem less_spec (a b : EntL) (w : World) : Rets Tryd.prog 98 #[.agg (entC a).toArray, .agg (entC b).toArray] w (fun v D => v = vi (cmpE a b) ∧ D = []) := by
  refine Rets.enterV Tryd.func98 rfl (rs := [.tmp 4]) Tryd.results98 Tryd.ntmps98 ?_
  simp only [List.size_toArray, List.length_cons, List.length_nil, Nat.reduceAdd, Nat.reduceSub, List.replicate_succ, List.replicate_zero, List.cons_append, List.nil_append]
  ((try with_reducible refine Cw.go [] ?_); (try simp (disch := (first | assumption | omega | (simp only [lenS, lenT, UInt64.reduceToNat]; try omega))) only [↓Sx.S0, Sx.S1, Tryd.fx, uOA_1, Nat.reduceAdd, Nat.reducePow, Int.reducePow, Nat.reduceBEq, ↓reduceIte, UInt8.reduceToNat, UInt16.reduceToNat, UInt32.reduceToNat, UInt64.reduceToNat, Int.reduceToNat]))
  refine Ow.box rfl rfl fun b1 hb1 hw1 => ?_
  simp only [ev_tmp, getF_0, getF_s, cells_agg, List.nil_append, List.cons_append]
  refine Ow.go rfl ?_
  simp (disch := (first | assumption | omega | (simp only [lenS, lenT, UInt64.reduceToNat]; try omega))) only [↓Sx.S0, Sx.S1, Tryd.fx, uOA_1, Nat.reduceAdd, Nat.reducePow, Int.reducePow, Nat.reduceBEq, ↓reduceIte, UInt8.reduceToNat, UInt16.reduceToNat, UInt32.reduceToNat, UInt64.reduceToNat, Int.reduceToNat]
  refine Ow.box rfl rfl fun b2 hb2 hw2 => ?_
  simp only [ev_tmp, getF_0, getF_s, cells_agg, List.nil_append, List.cons_append]
  refine Ow.go rfl ?_
  simp (disch := (first | assumption | omega | (simp only [lenS, lenT, UInt64.reduceToNat]; try omega))) only [↓Sx.S0, Sx.S1, Tryd.fx, uOA_1, Nat.reduceAdd, Nat.reducePow, Int.reducePow, Nat.reduceBEq, ↓reduceIte, UInt8.reduceToNat, UInt16.reduceToNat, UInt32.reduceToNat, UInt64.reduceToNat, Int.reduceToNat]
  obtain ⟨h12, -⟩ := hb2
  have hn : b1 ≠ b2 := by omega
  ((try with_reducible refine Cw.go [] ?_); (try simp (disch := (first | assumption | omega | (simp only [lenS, lenT, UInt64.reduceToNat]; try omega))) only [↓Sx.S0, Sx.S1, Tryd.fx, uOA_1, Nat.reduceAdd, Nat.reducePow, Int.reducePow, Nat.reduceBEq, ↓reduceIte, UInt8.reduceToNat, UInt16.reduceToNat, UInt32.reduceToNat, UInt64.reduceToNat, Int.reduceToNat]))
  refine Ow.callFV rfl Tryd.call99 (fun w' hw' => Compare_spec a.name b.name w') ?_
  refine Ow.go rfl ?_
  simp (disch := (first | assumption | omega | (simp only [lenS, lenT, UInt64.reduceToNat]; try omega))) only [↓Sx.S0, Sx.S1, Tryd.fx, uOA_1, Nat.reduceAdd, Nat.reducePow, Int.reducePow, Nat.reduceBEq, ↓reduceIte, UInt8.reduceToNat, UInt16.reduceToNat, UInt32.reduceToNat, UInt64.reduceToNat, Int.reduceToNat]
  refine ⟨_, (by simp (disch := (first | assumption | omega | (simp only [lenS, lenT, UInt64.reduceToNat]; try omega))) only [↓Sx.S0, Sx.S1, Tryd.fx, uOA_1, Nat.reduceAdd, Nat.reducePow, Int.reducePow, Nat.reduceBEq, ↓reduceIte, UInt8.reduceToNat, UInt16.reduceToNat, UInt32.reduceToNat, UInt64.reduceToNat, Int.reduceToNat]; rfl), ⟨hw1, hw2, trivial⟩, ?_⟩
  rfl
end Go.Proofs
end
section
open Go Go.Proofs Go.Sx Go.StP
namespace Go.Proofs
set_option maxRecDepth 10000
set_option maxHeartbeats 4000000
set_option linter.unusedSimpArgs false
/-! ### slices' ranges that change places -/
/-- The first i of x and of y have changed places. -/
def swp {α : Type} (a x m y c : List α) (i : Nat) : List α := a ++ ((y.take i ++ x.drop i) ++ (m ++ ((x.take i ++ y.drop i) ++ c)))
section
variable {α : Type} {a x m y c : List α} {i k : Nat} {z : α}
theorem swp_len (hx : x.length = k) (hy : y.length = k) (hi : i ≤ k) : (swp a x m y c i).length = a.length + k + m.length + k + c.length := by
  unfold swp; simp only [List.length_append, List.length_take, List.length_drop]; omega
theorem swp_x (hx : x.length = k) (hy : y.length = k) (hi : i < k) {n : Nat} (hn : n = a.length + i) : (swp a x m y c i).getD n z = x.getD i z := by
  subst hn
  unfold swp
  rw [drop_cons (z := z) (l := x) (by omega), List.append_assoc, List.cons_append, ← List.append_assoc]
  exact at_0 _ (by simp only [List.length_append, List.length_take]; omega)
theorem swp_y (hx : x.length = k) (hy : y.length = k) (hi : i < k) {n : Nat} (hn : n = a.length + k + m.length + i) : (swp a x m y c i).getD n z = y.getD i z := by
  subst hn
  unfold swp
  rw [drop_cons (z := z) (l := y) (by omega), List.append_assoc (x.take i), List.cons_append, ← List.append_assoc, ← List.append_assoc, ← List.append_assoc]
  exact at_0 _ (by simp only [List.length_append, List.length_take, List.length_drop]; omega)
theorem set_at {l r : List α} (u v : α) {n : Nat} (h : n = l.length) : (l ++ u :: r).set n v = l ++ v :: r := by
  subst h
  rw [List.set_append_right _ _ (Nat.le_refl _), Nat.sub_self, List.set_cons_zero]
theorem swp_next (hx : x.length = k) (hy : y.length = k) (hi : i < k) {n n' : Nat} (hn : n = a.length + i) (hn' : n' = a.length + k + m.length + i) :
    ((swp a x m y c i).set n (y.getD i z)).set n' (x.getD i z) = swp a x m y c (i + 1) := by
  subst hn hn'
  have e : swp a x m y c i = (a ++ y.take i) ++ (x.getD i z :: (x.drop (i + 1) ++ (m ++ (x.take i ++ (y.getD i z :: (y.drop (i + 1) ++ c)))))) := by
    unfold swp
    rw [drop_cons (z := z) (l := y) (by omega), drop_cons (z := z) (l := x) (by omega)]
    simp only [List.append_assoc, List.cons_append]
  have e' : swp a x m y c (i + 1) = (a ++ y.take i) ++ (y.getD i z :: (x.drop (i + 1) ++ (m ++ (x.take i ++ (x.getD i z :: (y.drop (i + 1) ++ c)))))) := by
    unfold swp
    rw [take_snoc (z := z) (l := y) (by omega), take_snoc (z := z) (l := x) (by omega)]
    simp only [List.append_assoc, List.cons_append, List.nil_append]
  rw [e, e', set_at _ _ (by simp only [List.length_append, List.length_take]; omega)]
  have e2 : ∀ u v : α, (a ++ y.take i) ++ (u :: (x.drop (i + 1) ++ (m ++ (x.take i ++ (v :: (y.drop (i + 1) ++ c)))))) = ((a ++ y.take i) ++ (u :: (x.drop (i + 1) ++ (m ++ x.take i)))) ++ (v :: (y.drop (i + 1) ++ c)) := fun u v => by
    simp only [List.append_assoc, List.cons_append]
  rw [e2, e2, set_at _ _ (by simp only [List.length_append, List.length_take, List.length_cons, List.length_drop]; omega)]
end
abbrev entO (rest : List Value) (d : List EntL) : Obj := rowO entC 108 rest d
theorem load_entR {rest : List Value} {d : List EntL} (k : Nat) (hk : k < d.length) : loadV (some (true, 34)) (some (entO rest d)) (k * 34) = some (.agg (entC (d.getD k ent0)).toArray) := load_row (z := ent0) entC_len k hk
theorem store_entR {rest : List Value} {d : List EntL} (k : Nat) (x : EntL) (a : Bool) (hk : k < d.length) : storeV (some (a, 34)) (some (entO rest d)) (k * 34) (.agg (entC x).toArray) = some (entO rest (d.set k x)) := store_row entC_len entC_one k x a hk
set_option linter.defProp false
def uOB_1 := And.intro (And.intro (@load_entR) (@store_entR)) (And.intro (@load_ent) (And.intro (@store_entr) (@cells_ent)))
theorem swapRange_spec (rb n c : Nat) (A X M Y C : List EntL) (rest : List Value) (fv : Value) (a b k : Nat) (w : World) (hX : X.length = k) (hY : Y.length = k) (ha : A.length = a) (hb : b = a + k + M.length) (hn : n = a + k + M.length + k + C.length) (hs : n < 1000000)
    (ho : w.heap[rb]? = some (entO rest (A ++ (X ++ (M ++ (Y ++ C)))))) :
    Rets Tryd.prog 183 #[vsl rb 0 n c, vi a, vi b, vi k, fv] w (fun v D => ∃ o, D = [(rb, o)] ∧ v = .tuple #[] ∧ o = entO rest (A ++ (Y ++ (M ++ (X ++ C))))) := by
  refine Rets.enterM Tryd.func183 rfl (rs := []) Tryd.results183 Tryd.ntmps183 ho ?_
  simp only [List.size_toArray, List.length_cons, List.length_nil, Nat.reduceAdd, Nat.reduceSub, List.replicate_succ, List.replicate_zero, List.cons_append, List.nil_append]
  ((try with_reducible refine Cw.go [] ?_); (try simp (disch := (first | assumption | omega | (simp only [lenS, lenT, UInt64.reduceToNat]; try omega))) only [↓Sx.S0, Sx.S1, Tryd.fx, uOB_1, Nat.reduceAdd, Nat.reducePow, Int.reducePow, Nat.reduceBEq, ↓reduceIte, UInt8.reduceToNat, UInt16.reduceToNat, UInt32.reduceToNat, UInt64.reduceToNat, Int.reduceToNat]))
  subst ha hb hn
  refine Cw.loopG (G := Nat) [11, 12, 13, 16, 17, 18, 19, 20, 21, 22, 23, 24, 25, 26, 27, 28, 29, 30, 31, 32, 33, 34, 35, 36, 37, 14, 15, 10] (fun g => [(10, vi g)]) (fun g => [(rb, entO rest (swp A X M Y C g))]) (fun g => g ≤ k) (fun g => k - g) 0 rfl rfl ?_ ?_
  · exact Nat.zero_le _
  · intro g j hg
    simp only [overFrom, pin, setF_0, setF_s, List.contains_cons, List.contains_nil, Nat.reduceBEq, Bool.or_false, Bool.false_or, Bool.or_true, Bool.true_or, Nat.reduceAdd, ↓reduceIte, Bool.false_eq_true]
    by_cases hlt : g < k
    · ((try with_reducible refine Cw.go [] ?_); (try simp (disch := (first | assumption | omega | (simp only [lenS, lenT, UInt64.reduceToNat]; try omega))) only [↓Sx.S0, Sx.S1, Tryd.fx, uOB_1, Nat.reduceAdd, Nat.reducePow, Int.reducePow, Nat.reduceBEq, ↓reduceIte, UInt8.reduceToNat, UInt16.reduceToNat, UInt32.reduceToNat, UInt64.reduceToNat, Int.reduceToNat]))
      have hl := swp_len (a := A) (m := M) (c := C) hX hY hg
      have h1 := swp_x (a := A) (m := M) (c := C) (z := ent0) hX hY hlt rfl
      have h2 := swp_y (a := A) (m := M) (c := C) (z := ent0) hX hY hlt rfl
      refine Cw.regionS [rb] [0, 1, 2, 3, 4, 5, 6, 7, 8, 9, 10, 11, 12, 14, 15, 16, 17, 18, 13, 19, 20, 21, 22, 23] [21, 23] (by kernel_rfl) (by kernel_rfl) (by kernel_rfl) ?_
      simp only [nl_cons, ↓pickL_nil, ↓pickL_cons, ↓nthO_0, ↓nthO_s, consO_some]
      refine Ow.goQ ?_
      simp (disch := (first | assumption | omega | (simp only [lenS, lenT, UInt64.reduceToNat]; try omega))) only [↓Sx.S0, Sx.S1, Tryd.fx, uOB_1, Nat.reduceAdd, Nat.reducePow, Int.reducePow, Nat.reduceBEq, ↓reduceIte, UInt8.reduceToNat, UInt16.reduceToNat, UInt32.reduceToNat, UInt64.reduceToNat, Int.reduceToNat]
      refine Ow.store rfl rfl rfl (by simp (disch := (first | assumption | omega | (simp only [lenS, lenT, UInt64.reduceToNat]; try omega))) only [↓Sx.S0, Sx.S1, Tryd.fx, uOB_1, Nat.reduceAdd, Nat.reducePow, Int.reducePow, Nat.reduceBEq, ↓reduceIte, UInt8.reduceToNat, UInt16.reduceToNat, UInt32.reduceToNat, UInt64.reduceToNat, Int.reduceToNat]; rfl) ?_
      refine Ow.go rfl ?_
      simp (disch := (first | assumption | omega | (simp only [lenS, lenT, UInt64.reduceToNat]; try omega))) only [↓Sx.S0, Sx.S1, Tryd.fx, uOB_1, Nat.reduceAdd, Nat.reducePow, Int.reducePow, Nat.reduceBEq, ↓reduceIte, UInt8.reduceToNat, UInt16.reduceToNat, UInt32.reduceToNat, UInt64.reduceToNat, Int.reduceToNat]
      rw [h1, h2]
      refine Again.mk (g + 1) (by omega) (by omega) ?_ rfl
      rw [swp_next hX hY hlt rfl rfl]
    · obtain rfl : g = k := by omega
      ((try with_reducible refine Cw.go [] ?_); (try simp (disch := (first | assumption | omega | (simp only [lenS, lenT, UInt64.reduceToNat]; try omega))) only [↓Sx.S0, Sx.S1, Tryd.fx, uOB_1, Nat.reduceAdd, Nat.reducePow, Int.reducePow, Nat.reduceBEq, ↓reduceIte, UInt8.reduceToNat, UInt16.reduceToNat, UInt32.reduceToNat, UInt64.reduceToNat, Int.reduceToNat]))
      refine ⟨_, _, _, (by simp (disch := (first | assumption | omega | (simp only [lenS, lenT, UInt64.reduceToNat]; try omega))) only [↓Sx.S0, Sx.S1, Tryd.fx, uOB_1, Nat.reduceAdd, Nat.reducePow, Int.reducePow, Nat.reduceBEq, ↓reduceIte, UInt8.reduceToNat, UInt16.reduceToNat, UInt32.reduceToNat, UInt64.reduceToNat, Int.reduceToNat]; rfl), rfl, trivial, ?_⟩
      exact ⟨rfl, by unfold swp; rw [List.take_of_length_le (by omega), List.take_of_length_le (by omega), List.drop_eq_nil_of_le (by omega), List.drop_eq_nil_of_le (by omega), List.append_nil, List.append_nil]⟩
structure RotG where
  A : List EntL
  U : List EntL
  V : List EntL
  B : List EntL
theorem cut_at {α : Type} (l : List α) {k : Nat} (h : k ≤ l.length) : ∃ a b, l = a ++ b ∧ a.length = k := ⟨l.take k, l.drop k, (List.take_append_drop k l).symm, by rw [List.length_take]; omega⟩
/-- Two rows that stand side by side change places. -/
theorem rotate_spec (rb n c : Nat) (A U V B : List EntL) (rest : List Value) (fv : Value) (a m b : Nat) (w : World) (hU : 0 < U.length) (hV : 0 < V.length) (ha : A.length = a) (hm : m = a + U.length) (hb : b = m + V.length) (hn : n = b + B.length) (hs : n < 1000000)
    (ho : w.heap[rb]? = some (entO rest (A ++ (U ++ (V ++ B))))) :
    Rets Tryd.prog 180 #[vsl rb 0 n c, vi a, vi m, vi b, fv] w (fun v D => ∃ o, D = [(rb, o)] ∧ v = .tuple #[] ∧ o = entO rest (A ++ (V ++ (U ++ B)))) := by
  have e1 : (m : Int) - a = (U.length : Nat) := by omega
  have e2 : (b : Int) - m = (V.length : Nat) := by omega
  refine Rets.enterM Tryd.func180 rfl (rs := []) Tryd.results180 Tryd.ntmps180 ho ?_
  simp only [List.size_toArray, List.length_cons, List.length_nil, Nat.reduceAdd, Nat.reduceSub, List.replicate_succ, List.replicate_zero, List.cons_append, List.nil_append]
  ((try with_reducible refine Cw.go [] ?_); (try simp (disch := (first | assumption | omega | (simp only [lenS, lenT, UInt64.reduceToNat]; try omega))) only [↓Sx.S0, Sx.S1, Tryd.fx, uOB_1, Nat.reduceAdd, Nat.reducePow, Int.reducePow, Nat.reduceBEq, ↓reduceIte, UInt8.reduceToNat, UInt16.reduceToNat, UInt32.reduceToNat, UInt64.reduceToNat, Int.reduceToNat, e1, e2]))
  refine Cw.loopG (G := RotG) [18, 19, 20, 21, 22, 23, 24, 25, 26, 27, 28, 29, 30, 31, 32, 33, 34, 10, 35, 36, 37, 38, 39, 40, 41, 42, 43, 44, 45, 46, 47, 48, 49, 11] (fun g => [(10, vi g.U.length), (11, vi g.V.length)]) (fun g => [(rb, entO rest (g.A ++ (g.U ++ (g.V ++ g.B))))]) (fun g => 0 < g.U.length ∧ 0 < g.V.length ∧ g.A.length + g.U.length = m ∧ g.A ++ (g.V ++ (g.U ++ g.B)) = A ++ (V ++ (U ++ B)) ∧ m + g.V.length + g.B.length = n) (fun g => g.U.length + g.V.length) ⟨A, U, V, B⟩ rfl rfl ?_ ?_
  · exact ⟨hU, hV, by show A.length + U.length = m; omega, rfl, by show m + V.length + B.length = n; omega⟩
  · intro g j hg
    simp only [overFrom, pin, setF_0, setF_s, List.contains_cons, List.contains_nil, Nat.reduceBEq, Bool.or_false, Bool.false_or, Bool.or_true, Bool.true_or, Nat.reduceAdd, ↓reduceIte, Bool.false_eq_true]
    obtain ⟨A', U', V', B'⟩ := g
    obtain ⟨hu, hv, hA, hT, hN⟩ := hg
    dsimp only at hu hv hA hT hN ⊢
    have e3 : (m : Int) - U'.length = (A'.length : Nat) := by omega
    by_cases h1 : U'.length = V'.length
    · ((try with_reducible refine Cw.go [] ?_); (try simp (disch := (first | assumption | omega | (simp only [lenS, lenT, UInt64.reduceToNat]; try omega))) only [↓Sx.S0, Sx.S1, Tryd.fx, uOB_1, Nat.reduceAdd, Nat.reducePow, Int.reducePow, Nat.reduceBEq, ↓reduceIte, UInt8.reduceToNat, UInt16.reduceToNat, UInt32.reduceToNat, UInt64.reduceToNat, Int.reduceToNat, e3]))
      refine Ow.callM rfl rfl Tryd.call183 (by simp [keys]) (fun w' hw' => swapRange_spec rb n c A' U' [] V' B' rest fv A'.length m U'.length w' rfl h1.symm rfl (by simp only [List.length_nil]; omega) (by simp only [List.length_nil]; omega) hs (hw'.has _ _ List.mem_cons_self)) ?_
      refine Ow.go rfl ?_
      simp (disch := (first | assumption | omega | (simp only [lenS, lenT, UInt64.reduceToNat]; try omega))) only [↓Sx.S0, Sx.S1, Tryd.fx, uOB_1, Nat.reduceAdd, Nat.reducePow, Int.reducePow, Nat.reduceBEq, ↓reduceIte, UInt8.reduceToNat, UInt16.reduceToNat, UInt32.reduceToNat, UInt64.reduceToNat, Int.reduceToNat]
      refine ⟨_, _, _, (by simp (disch := (first | assumption | omega | (simp only [lenS, lenT, UInt64.reduceToNat]; try omega))) only [↓Sx.S0, Sx.S1, Tryd.fx, uOB_1, Nat.reduceAdd, Nat.reducePow, Int.reducePow, Nat.reduceBEq, ↓reduceIte, UInt8.reduceToNat, UInt16.reduceToNat, UInt32.reduceToNat, UInt64.reduceToNat, Int.reduceToNat]; rfl), rfl, trivial, ?_⟩
      exact ⟨rfl, congrArg (entO rest) hT⟩
    · by_cases h2 : V'.length < U'.length
      · obtain ⟨U1, U2, rfl, hU1⟩ := cut_at U' (Nat.le_of_lt h2)
        rw [List.length_append] at hA h2 hu h1
        have e4 : (m : Int) - (U1 ++ U2).length = (A'.length : Nat) := by rw [List.length_append]; omega
        ((try with_reducible refine Cw.go [] ?_); (try simp (disch := (first | assumption | omega | (simp only [lenS, lenT, UInt64.reduceToNat]; try omega))) only [↓Sx.S0, Sx.S1, Tryd.fx, uOB_1, Nat.reduceAdd, Nat.reducePow, Int.reducePow, Nat.reduceBEq, ↓reduceIte, UInt8.reduceToNat, UInt16.reduceToNat, UInt32.reduceToNat, UInt64.reduceToNat, Int.reduceToNat, e4]))
        refine Ow.callM rfl rfl Tryd.call183 (by simp [keys]) (fun w' hw' => swapRange_spec rb n c A' U1 U2 V' B' rest fv A'.length m V'.length w' hU1 rfl rfl (by omega) (by omega) hs (by rw [← List.append_assoc U1]; exact hw'.has _ _ List.mem_cons_self)) ?_
        have e5 : ((U1 ++ U2).length : Int) - (V'.length : Int) = (U2.length : Nat) := by rw [List.length_append]; omega
        refine Ow.go rfl ?_
        simp (disch := (first | assumption | omega | (simp only [lenS, lenT, UInt64.reduceToNat]; try omega))) only [↓Sx.S0, Sx.S1, Tryd.fx, uOB_1, Nat.reduceAdd, Nat.reducePow, Int.reducePow, Nat.reduceBEq, ↓reduceIte, UInt8.reduceToNat, UInt16.reduceToNat, UInt32.reduceToNat, UInt64.reduceToNat, Int.reduceToNat, e5]
        refine Again.mk ⟨A' ++ V', U2, U1, B'⟩ (by simp only [List.length_append]; omega) ⟨by show 0 < U2.length; omega, by show 0 < U1.length; omega, by simp only [List.length_append]; omega, ?_, by show m + U1.length + B'.length = n; omega⟩ ?_ ?_
        · rw [← hT]; simp only [List.append_assoc]
        · simp only [List.append_assoc]
        · dsimp only; rw [hU1]; rfl
      · obtain ⟨V1, V2, rfl, hV1⟩ := cut_at V' (show V'.length - U'.length ≤ V'.length by omega)
        rw [List.length_append] at hN h2 hv h1 hV1
        have e4 : (m : Int) + (V1 ++ V2).length - U'.length = ((A'.length + U'.length + V1.length : Nat) : Int) := by rw [List.length_append]; omega
        ((try with_reducible refine Cw.go [] ?_); (try simp (disch := (first | assumption | omega | (simp only [lenS, lenT, UInt64.reduceToNat]; try omega))) only [↓Sx.S0, Sx.S1, Tryd.fx, uOB_1, Nat.reduceAdd, Nat.reducePow, Int.reducePow, Nat.reduceBEq, ↓reduceIte, UInt8.reduceToNat, UInt16.reduceToNat, UInt32.reduceToNat, UInt64.reduceToNat, Int.reduceToNat, e3, e4]))
        refine Ow.callM rfl rfl Tryd.call183 (by simp [keys]) (fun w' hw' => swapRange_spec rb n c A' U' V1 V2 B' rest fv A'.length (A'.length + U'.length + V1.length) U'.length w' rfl (by omega) rfl (by omega) (by omega) hs (by rw [← List.append_assoc V1]; exact hw'.has _ _ List.mem_cons_self)) ?_
        have e5 : ((V1 ++ V2).length : Int) - (U'.length : Int) = (V1.length : Nat) := by rw [List.length_append]; omega
        have e6 : V2.length = U'.length := by omega
        refine Ow.go rfl ?_
        simp (disch := (first | assumption | omega | (simp only [lenS, lenT, UInt64.reduceToNat]; try omega))) only [↓Sx.S0, Sx.S1, Tryd.fx, uOB_1, Nat.reduceAdd, Nat.reducePow, Int.reducePow, Nat.reduceBEq, ↓reduceIte, UInt8.reduceToNat, UInt16.reduceToNat, UInt32.reduceToNat, UInt64.reduceToNat, Int.reduceToNat, e5]
        refine Again.mk ⟨A', V2, V1, U' ++ B'⟩ (by simp only [List.length_append]; omega) ⟨by show 0 < V2.length; omega, by show 0 < V1.length; omega, by show A'.length + V2.length = m; omega, ?_, by simp only [List.length_append]; omega⟩ ?_ ?_
        · rw [← hT]; simp only [List.append_assoc]
        · simp only [List.append_assoc]
        · dsimp only; rw [e6]; rfl
end Go.Proofs
end
section
open Go Go.Proofs Go.Sx Go.StP
namespace Go.Proofs
set_option maxRecDepth 10000
set_option maxHeartbeats 4000000
set_option linter.unusedSimpArgs false
abbrev ltE (a b : EntL) : Bool := StP.lt EntL.name a b
abbrev SortedE (l : List EntL) : Prop := StP.Sorted EntL.name l
abbrev StE (l l' : List EntL) : Prop := StP.St EntL.name l l'
theorem cmpE_lt (a b : EntL) : decide (cmpE a b < 0) = ltE a b := by
  unfold cmpE cmpS ltE StP.lt
  cases h : ltB a.name b.name
  · rw [if_neg (by simp)]
    split <;> rfl
  · rw [if_pos rfl]; rfl
structure InsG where
  S : List EntL
  R : List EntL
set_option linter.defProp false
def uOC_1 := And.intro (And.intro (@load_entR) (And.intro (@store_entR) (@load_ent))) (And.intro (@store_entr) (And.intro (@cells_ent) (@cmpE_lt)))
theorem insertion_spec (rb n c : Nat) (A M B : List EntL) (rest : List Value) (a b : Nat) (w : World) (ha : A.length = a) (hb : b = a + M.length) (hn : n = b + B.length) (hs : n < 1000000)
    (ho : w.heap[rb]? = some (entO rest (A ++ (M ++ B)))) :
    Rets Tryd.prog 171 #[vsl rb 0 n c, vi a, vi b, .func (.func 98) #[] #[]] w (fun v D => ∃ o, D = [(rb, o)] ∧ v = .tuple #[] ∧ ∃ M', o = entO rest (A ++ (M' ++ B)) ∧ M'.length = M.length ∧ SortedE M' ∧ StE M M') := by
  cases M with
  | nil =>
    simp only [List.length_nil, Nat.add_zero] at hb
    subst hb
    refine Rets.enterM Tryd.func171 rfl (rs := []) Tryd.results171 Tryd.ntmps171 ho ?_
    simp only [List.size_toArray, List.length_cons, List.length_nil, Nat.reduceAdd, Nat.reduceSub, List.replicate_succ, List.replicate_zero, List.cons_append, List.nil_append]
    ((try with_reducible refine Cw.go [] ?_); (try simp (disch := (first | assumption | omega | (simp only [lenS, lenT, UInt64.reduceToNat]; try omega))) only [↓Sx.S0, Sx.S1, Tryd.fx, uOC_1, Nat.reduceAdd, Nat.reducePow, Int.reducePow, Nat.reduceBEq, ↓reduceIte, UInt8.reduceToNat, UInt16.reduceToNat, UInt32.reduceToNat, UInt64.reduceToNat, Int.reduceToNat]))
    refine Cw.loopG (G := Unit) [12, 13, 14, 17, 9, 18, 19, 20, 21, 22, 23, 24, 25, 26, 27, 28, 29, 30, 31, 32, 33, 34, 37, 38, 39, 40, 41, 42, 43, 44, 45, 46, 47, 48, 49, 50, 51, 52, 35, 36, 15, 16, 8] (fun g => [(8, vi (b + 1))]) (fun g => [(rb, entO rest (A ++ ([] ++ B)))]) (fun g => True) (fun g => 0) () rfl rfl ?_ ?_
    · trivial
    · intro g j hg
      simp only [overFrom, pin, setF_0, setF_s, List.contains_cons, List.contains_nil, Nat.reduceBEq, Bool.or_false, Bool.false_or, Bool.or_true, Bool.true_or, Nat.reduceAdd, ↓reduceIte, Bool.false_eq_true]
      ((try with_reducible refine Cw.go [] ?_); (try simp (disch := (first | assumption | omega | (simp only [lenS, lenT, UInt64.reduceToNat]; try omega))) only [↓Sx.S0, Sx.S1, Tryd.fx, uOC_1, Nat.reduceAdd, Nat.reducePow, Int.reducePow, Nat.reduceBEq, ↓reduceIte, UInt8.reduceToNat, UInt16.reduceToNat, UInt32.reduceToNat, UInt64.reduceToNat, Int.reduceToNat]))
      refine ⟨_, _, _, (by simp (disch := (first | assumption | omega | (simp only [lenS, lenT, UInt64.reduceToNat]; try omega))) only [↓Sx.S0, Sx.S1, Tryd.fx, uOC_1, Nat.reduceAdd, Nat.reducePow, Int.reducePow, Nat.reduceBEq, ↓reduceIte, UInt8.reduceToNat, UInt16.reduceToNat, UInt32.reduceToNat, UInt64.reduceToNat, Int.reduceToNat]; rfl), rfl, trivial, ?_⟩
      exact ⟨rfl, [], rfl, rfl, List.Pairwise.nil, StP.St.refl _ _⟩
  | cons x0 M =>
    refine Rets.enterM Tryd.func171 rfl (rs := []) Tryd.results171 Tryd.ntmps171 ho ?_
    simp only [List.size_toArray, List.length_cons, List.length_nil, Nat.reduceAdd, Nat.reduceSub, List.replicate_succ, List.replicate_zero, List.cons_append, List.nil_append]
    ((try with_reducible refine Cw.go [] ?_); (try simp (disch := (first | assumption | omega | (simp only [lenS, lenT, UInt64.reduceToNat]; try omega))) only [↓Sx.S0, Sx.S1, Tryd.fx, uOC_1, Nat.reduceAdd, Nat.reducePow, Int.reducePow, Nat.reduceBEq, ↓reduceIte, UInt8.reduceToNat, UInt16.reduceToNat, UInt32.reduceToNat, UInt64.reduceToNat, Int.reduceToNat]))
    have e0 : (a : Int) + 1 = ((a + [x0].length : Nat) : Int) := by simp
    rw [e0]
    refine Cw.loopG (G := InsG) [12, 13, 14, 17, 9, 18, 19, 20, 21, 22, 23, 24, 25, 26, 27, 28, 29, 30, 31, 32, 33, 34, 37, 38, 39, 40, 41, 42, 43, 44, 45, 46, 47, 48, 49, 50, 51, 52, 35, 36, 15, 16, 8] (fun g => [(8, vi (a + g.S.length : Nat))]) (fun g => [(rb, entO rest (A ++ (g.S ++ (g.R ++ B))))]) (fun g => ∃ M1, x0 :: M = M1 ++ g.R ∧ g.S.length = M1.length ∧ SortedE g.S ∧ StE M1 g.S) (fun g => g.R.length) ⟨[x0], M⟩ rfl rfl ?_ ?_
    · exact ⟨[x0], rfl, rfl, List.pairwise_singleton _ _, StP.St.refl _ _⟩
    · intro g j hg
      simp only [overFrom, pin, setF_0, setF_s, List.contains_cons, List.contains_nil, Nat.reduceBEq, Bool.or_false, Bool.false_or, Bool.or_true, Bool.true_or, Nat.reduceAdd, ↓reduceIte, Bool.false_eq_true]
      obtain ⟨S, R⟩ := g
      obtain ⟨M1, hM, hS1, hS2, hS3⟩ := hg
      dsimp only at hM hS1 hS2 hS3 ⊢
      have hlen := congrArg List.length hM
      rw [List.length_cons, List.length_append] at hlen
      rw [List.length_cons] at hb
      cases R with
      | nil =>
        rw [List.length_nil] at hlen
        ((try with_reducible refine Cw.go [] ?_); (try simp (disch := (first | assumption | omega | (simp only [lenS, lenT, UInt64.reduceToNat]; try omega))) only [↓Sx.S0, Sx.S1, Tryd.fx, uOC_1, Nat.reduceAdd, Nat.reducePow, Int.reducePow, Nat.reduceBEq, ↓reduceIte, UInt8.reduceToNat, UInt16.reduceToNat, UInt32.reduceToNat, UInt64.reduceToNat, Int.reduceToNat]))
        refine ⟨_, _, _, (by simp (disch := (first | assumption | omega | (simp only [lenS, lenT, UInt64.reduceToNat]; try omega))) only [↓Sx.S0, Sx.S1, Tryd.fx, uOC_1, Nat.reduceAdd, Nat.reducePow, Int.reducePow, Nat.reduceBEq, ↓reduceIte, UInt8.reduceToNat, UInt16.reduceToNat, UInt32.reduceToNat, UInt64.reduceToNat, Int.reduceToNat]; rfl), rfl, trivial, ?_⟩
        exact ⟨rfl, S, rfl, by show S.length = M.length + 1; omega, hS2, by rw [show x0 :: M = M1 from by rw [hM, List.append_nil]]; exact hS3⟩
      | cons x R =>
        rw [List.length_cons] at hlen
        have e1 : A ++ (S ++ (x :: R ++ B)) = slide A S x (R ++ B) S.length := by rw [slide_end _ _ _ _ (Nat.le_refl _)]; simp only [List.append_assoc, List.cons_append, List.nil_append]
        rw [e1]
        ((try with_reducible refine Cw.go [] ?_); (try simp (disch := (first | assumption | omega | (simp only [lenS, lenT, UInt64.reduceToNat]; try omega))) only [↓Sx.S0, Sx.S1, Tryd.fx, uOC_1, Nat.reduceAdd, Nat.reducePow, Int.reducePow, Nat.reduceBEq, ↓reduceIte, UInt8.reduceToNat, UInt16.reduceToNat, UInt32.reduceToNat, UInt64.reduceToNat, Int.reduceToNat]))
        refine Cw.loopG (G := Nat) [18, 19, 20, 21, 22, 23, 24, 25, 26, 27, 28, 29, 30, 31, 32, 33, 34, 37, 38, 39, 40, 41, 42, 43, 44, 45, 46, 47, 48, 49, 50, 51, 52, 35, 36, 9] (fun g => [(9, vi (a + g : Nat))]) (fun g => [(rb, entO rest (slide A S x (R ++ B) g))]) (fun g => g ≤ S.length ∧ (S.length ≤ g ∨ ltE x (S.getD g ent0) = true)) (fun g => g) S.length rfl rfl ?_ ?_
        · exact ⟨Nat.le_refl _, .inl (Nat.le_refl _)⟩
        · intro k jk hk
          simp only [overFrom, pin, setF_0, setF_s, List.contains_cons, List.contains_nil, Nat.reduceBEq, Bool.or_false, Bool.false_or, Bool.or_true, Bool.true_or, Nat.reduceAdd, ↓reduceIte, Bool.false_eq_true]
          obtain ⟨hk1, hk2⟩ := hk
          have hl := slide_len A S x (R ++ B) k
          rw [List.length_append] at hl
          have done : (k = 0 ∨ ltE x (S.getD (k - 1) ent0) = false) → StE (M1 ++ [x]) (S.take k ++ x :: S.drop k) ∧ SortedE (S.take k ++ x :: S.drop k) := fun h => by
            obtain ⟨q1, q2⟩ := slide_sorted (z := ent0) hS2 hk1 h hk2
            exact ⟨(StP.St.app hS3 (StP.St.refl _ _)).trans q2, q1⟩
          ((try with_reducible refine Cw.go [] ?_); (try simp (disch := (first | assumption | omega | (simp only [lenS, lenT, UInt64.reduceToNat]; try omega))) only [↓Sx.S0, Sx.S1, Tryd.fx, uOC_1, Nat.reduceAdd, Nat.reducePow, Int.reducePow, Nat.reduceBEq, ↓reduceIte, UInt8.reduceToNat, UInt16.reduceToNat, UInt32.reduceToNat, UInt64.reduceToNat, Int.reduceToNat]))
          by_cases hk0 : k = 0
          · have e2 : decide ((a : Int) < ((a + k : Nat) : Int)) = false := decide_eq_false (by omega)
            refine Cw.regionS [rb] [0, 1, 2, 3, 4, 5, 6, 7, 9, 10, 11, 12, 8, 13, 14, 15, 16] [] (by kernel_rfl) (by kernel_rfl) (by kernel_rfl) ?_
            simp only [nl_cons, ↓pickL_nil, ↓pickL_cons, ↓nthO_0, ↓nthO_s, consO_some]
            refine Ow.goQ ?_
            simp (disch := (first | assumption | omega | (simp only [lenS, lenT, UInt64.reduceToNat]; try omega))) only [↓Sx.S0, Sx.S1, Tryd.fx, uOC_1, Nat.reduceAdd, Nat.reducePow, Int.reducePow, Nat.reduceBEq, ↓reduceIte, UInt8.reduceToNat, UInt16.reduceToNat, UInt32.reduceToNat, UInt64.reduceToNat, Int.reduceToNat, e2]
            ((try with_reducible refine Cw.go [] ?_); (try simp (disch := (first | assumption | omega | (simp only [lenS, lenT, UInt64.reduceToNat]; try omega))) only [↓Sx.S0, Sx.S1, Tryd.fx, uOC_1, Nat.reduceAdd, Nat.reducePow, Int.reducePow, Nat.reduceBEq, ↓reduceIte, UInt8.reduceToNat, UInt16.reduceToNat, UInt32.reduceToNat, UInt64.reduceToNat, Int.reduceToNat]))
            obtain ⟨d1, d2⟩ := done (.inl hk0)
            refine Again.mk ⟨S.take k ++ x :: S.drop k, R⟩ (by show R.length < (x :: R).length; simp) ⟨M1 ++ [x], by rw [hM]; simp, by simp only [List.length_append, List.length_cons, List.length_nil, List.length_take, List.length_drop]; omega, d2, d1⟩ ?_ ?_
            · rw [slide_mid]
            · dsimp only
              rw [show (S.take k ++ x :: S.drop k).length = S.length + 1 by simp only [List.length_append, List.length_cons, List.length_take, List.length_drop]; omega]
              rfl
          · have e2 : decide ((a : Int) < ((a + k : Nat) : Int)) = true := decide_eq_true (by omega)
            refine Cw.regionS [rb] [0, 1, 2, 3, 4, 5, 6, 7, 9, 10, 11, 12, 8, 13, 14, 15, 16] [] (by kernel_rfl) (by kernel_rfl) (by kernel_rfl) ?_
            simp only [nl_cons, ↓pickL_nil, ↓pickL_cons, ↓nthO_0, ↓nthO_s, consO_some]
            refine Ow.goQ ?_
            simp (disch := (first | assumption | omega | (simp only [lenS, lenT, UInt64.reduceToNat]; try omega))) only [↓Sx.S0, Sx.S1, Tryd.fx, uOC_1, Nat.reduceAdd, Nat.reducePow, Int.reducePow, Nat.reduceBEq, ↓reduceIte, UInt8.reduceToNat, UInt16.reduceToNat, UInt32.reduceToNat, UInt64.reduceToNat, Int.reduceToNat, e2]
            refine Ow.callFn2 (v := vi (cmpE x (S.getD (k - 1) ent0))) rfl rfl (by
              show Value.agg _ = Value.agg (entC x).toArray
              rw [slide_x (z := ent0) hk1 (by rw [ha])]) (by
              show Value.agg _ = Value.agg (entC (S.getD (k - 1) ent0)).toArray
              rw [show k = (k - 1) + 1 by omega, slide_l (z := ent0) (k := k - 1) (by omega) (by rw [ha]; omega)]; rfl) Tryd.call98 (fun w' hw' => less_spec x (S.getD (k - 1) ent0) w') ?_
            refine Ow.goQ ?_
            simp (disch := (first | assumption | omega | (simp only [lenS, lenT, UInt64.reduceToNat]; try omega))) only [↓Sx.S0, Sx.S1, Tryd.fx, uOC_1, Nat.reduceAdd, Nat.reducePow, Int.reducePow, Nat.reduceBEq, ↓reduceIte, UInt8.reduceToNat, UInt16.reduceToNat, UInt32.reduceToNat, UInt64.reduceToNat, Int.reduceToNat]
            cases hc : ltE x (S.getD (k - 1) ent0)
            · ((try with_reducible refine Cw.go [] ?_); (try simp (disch := (first | assumption | omega | (simp only [lenS, lenT, UInt64.reduceToNat]; try omega))) only [↓Sx.S0, Sx.S1, Tryd.fx, uOC_1, Nat.reduceAdd, Nat.reducePow, Int.reducePow, Nat.reduceBEq, ↓reduceIte, UInt8.reduceToNat, UInt16.reduceToNat, UInt32.reduceToNat, UInt64.reduceToNat, Int.reduceToNat]))
              obtain ⟨d1, d2⟩ := done (.inr hc)
              refine Again.mk ⟨S.take k ++ x :: S.drop k, R⟩ (by show R.length < (x :: R).length; simp) ⟨M1 ++ [x], by rw [hM]; simp, by simp only [List.length_append, List.length_cons, List.length_nil, List.length_take, List.length_drop]; omega, d2, d1⟩ ?_ ?_
              · rw [slide_mid]
              · dsimp only
                rw [show (S.take k ++ x :: S.drop k).length = S.length + 1 by simp only [List.length_append, List.length_cons, List.length_take, List.length_drop]; omega]
                rfl
            · ((try with_reducible refine Cw.go [] ?_); (try simp (disch := (first | assumption | omega | (simp only [lenS, lenT, UInt64.reduceToNat]; try omega))) only [↓Sx.S0, Sx.S1, Tryd.fx, uOC_1, Nat.reduceAdd, Nat.reducePow, Int.reducePow, Nat.reduceBEq, ↓reduceIte, UInt8.reduceToNat, UInt16.reduceToNat, UInt32.reduceToNat, UInt64.reduceToNat, Int.reduceToNat]))
              obtain ⟨k, rfl⟩ : ∃ q, k = q + 1 := ⟨k - 1, by omega⟩
              have h1 := slide_x (z := ent0) (a := A) (b := R ++ B) (x := x) hk1 (show a + (k + 1) = A.length + (k + 1) by omega)
              have h2 := slide_l (z := ent0) (a := A) (b := R ++ B) (x := x) (k := k) (s := S) (by omega) (show a + k = A.length + k by omega)
              have e3 : a + (k + 1) - 1 = a + k := by omega
              refine Cw.regionS [rb] [0, 1, 2, 3, 4, 5, 6, 7, 8, 10, 11, 12, 9, 13, 14, 15, 16, 17] [15, 17] (by kernel_rfl) (by kernel_rfl) (by kernel_rfl) ?_
              simp only [nl_cons, ↓pickL_nil, ↓pickL_cons, ↓nthO_0, ↓nthO_s, consO_some]
              refine Ow.goQ ?_
              simp (disch := (first | assumption | omega | (simp only [lenS, lenT, UInt64.reduceToNat]; try omega))) only [↓Sx.S0, Sx.S1, Tryd.fx, uOC_1, Nat.reduceAdd, Nat.reducePow, Int.reducePow, Nat.reduceBEq, ↓reduceIte, UInt8.reduceToNat, UInt16.reduceToNat, UInt32.reduceToNat, UInt64.reduceToNat, Int.reduceToNat, e3, h1, h2]
              refine Ow.store rfl rfl rfl (by simp (disch := (first | assumption | omega | (simp only [lenS, lenT, UInt64.reduceToNat]; try omega))) only [↓Sx.S0, Sx.S1, Tryd.fx, uOC_1, Nat.reduceAdd, Nat.reducePow, Int.reducePow, Nat.reduceBEq, ↓reduceIte, UInt8.reduceToNat, UInt16.reduceToNat, UInt32.reduceToNat, UInt64.reduceToNat, Int.reduceToNat, e3, h1, h2]; rfl) ?_
              refine Ow.go rfl ?_
              simp (disch := (first | assumption | omega | (simp only [lenS, lenT, UInt64.reduceToNat]; try omega))) only [↓Sx.S0, Sx.S1, Tryd.fx, uOC_1, Nat.reduceAdd, Nat.reducePow, Int.reducePow, Nat.reduceBEq, ↓reduceIte, UInt8.reduceToNat, UInt16.reduceToNat, UInt32.reduceToNat, UInt64.reduceToNat, Int.reduceToNat, e3, h1, h2]
              rw [set_comm' (by omega), ← Nat.add_assoc, slide_down (z := ent0) (by omega) (by rw [ha])]
              refine Again.mk k (by omega) ⟨by omega, .inr hc⟩ rfl ?_
              rw [show (((a + k + 1 : Nat) : Int)) - 1 = ((a + k : Nat) : Int) by omega]
              rfl
end Go.Proofs
end
section
open Go Go.Proofs Go.Sx Go.StP
namespace Go.Proofs
set_option maxRecDepth 10000
set_option maxHeartbeats 4000000
set_option linter.unusedSimpArgs false
theorem half_u (p q : Nat) (h : p + q < 4611686018427387904) : IntKind.wrap .i64 ((shr_u64 (UInt64.ofInt ((p : Int) + (q : Int))) 1).toNat : Int) = (((p + q) / 2 : Nat) : Int) := by
  have e : (UInt64.ofInt ((p : Int) + (q : Int))).toNat = p + q := by
    have h2 : UInt64.ofInt ((p : Int) + (q : Int)) = UInt64.ofNat (((p : Int) + (q : Int)) % 2 ^ 64).toNat := rfl
    rw [h2, UInt64.toNat_ofNat']
    omega
  have e2 : (shr_u64 (UInt64.ofInt ((p : Int) + (q : Int))) 1).toNat = (p + q) / 2 := by
    unfold shr_u64
    rw [e, UInt64.toNat_ofNat', Nat.pow_one]
    omega
  rw [e2, wrap_i64 _ (by omega)]
structure BsG where
  i : Nat
  j : Nat
abbrev lessV : Value := .func (.func 98) #[] #[]
/-- What a merge leaves. -/
def Merged (rb : Nat) (A X Y B : List EntL) (rest : List Value) (v : Value) (D : Heap) : Prop :=
  ∃ o, D = [(rb, o)] ∧ v = .tuple #[] ∧ ∃ Z, o = entO rest (A ++ (Z ++ B)) ∧ Z.length = X.length + Y.length ∧ SortedE Z ∧ StE (X ++ Y) Z
set_option linter.defProp false
def uOD_1 := And.intro (And.intro (@load_entR) (And.intro (@store_entR) (@load_ent))) (And.intro (And.intro (@store_entr) (@cells_ent)) (And.intro (@cmpE_lt) (@half_u)))
theorem merge_one (rb n c : Nat) (A : List EntL) (x : EntL) (Y B : List EntL) (rest : List Value) (a m b : Nat) (w : World) (ha : A.length = a) (hm : m = a + 1) (hb : b = m + Y.length) (hn : n = b + B.length) (hs : n < 1000000) (hY : SortedE Y)
    (ho : w.heap[rb]? = some (entO rest (A ++ ([x] ++ (Y ++ B))))) :
    Rets Tryd.prog 172 #[vsl rb 0 n c, vi a, vi m, vi b, lessV] w (Merged rb A [x] Y B rest) := by
  subst hb
  refine Rets.enterM Tryd.func172 rfl (rs := []) Tryd.results172 Tryd.ntmps172 ho ?_
  simp only [List.size_toArray, List.length_cons, List.length_nil, Nat.reduceAdd, Nat.reduceSub, List.replicate_succ, List.replicate_zero, List.cons_append, List.nil_append]
  ((try with_reducible refine Cw.go [] ?_); (try simp (disch := (first | assumption | omega | (simp only [lenS, lenT, UInt64.reduceToNat]; try omega))) only [↓Sx.S0, Sx.S1, Tryd.fx, uOD_1, Nat.reduceAdd, Nat.reducePow, Int.reducePow, Nat.reduceBEq, ↓reduceIte, UInt8.reduceToNat, UInt16.reduceToNat, UInt32.reduceToNat, UInt64.reduceToNat, Int.reduceToNat]))
  have e0 : A ++ x :: (Y ++ B) = slide A Y x B 0 := by rw [slide_zero]; simp only [List.append_assoc, List.cons_append, List.nil_append]
  rw [e0]
  refine Cw.loopG (G := BsG) [31, 32, 33, 34, 35, 36, 37, 38, 39, 12, 40, 41, 42, 43, 44, 45, 46, 47, 48, 49, 50, 51, 52, 10, 53, 11] (fun g => [(10, vi (m + g.i : Nat)), (11, vi (m + g.j : Nat))]) (fun g => [(rb, entO rest (slide A Y x B 0))]) (fun g => g.i ≤ g.j ∧ g.j ≤ Y.length ∧ (g.i = 0 ∨ ltE (Y.getD (g.i - 1) ent0) x = true) ∧ (Y.length ≤ g.j ∨ ltE (Y.getD g.j ent0) x = false)) (fun g => g.j - g.i) ⟨0, Y.length⟩ rfl rfl ?_ ?_
  · exact ⟨Nat.zero_le _, Nat.le_refl _, .inl rfl, .inl (Nat.le_refl _)⟩
  · intro g j hg
    simp only [overFrom, pin, setF_0, setF_s, List.contains_cons, List.contains_nil, Nat.reduceBEq, Bool.or_false, Bool.false_or, Bool.or_true, Bool.true_or, Nat.reduceAdd, ↓reduceIte, Bool.false_eq_true]
    obtain ⟨i, j⟩ := g
    obtain ⟨h1, h2, h3, h4⟩ := hg
    dsimp only at h1 h2 h3 h4 ⊢
    by_cases hij : i < j
    · have e1 : (m + i + (m + j)) / 2 = m + (i + j) / 2 := by omega
      have hl := slide_len A Y x B 0
      ((try with_reducible refine Cw.go [] ?_); (try simp (disch := (first | assumption | omega | (simp only [lenS, lenT, UInt64.reduceToNat]; try omega))) only [↓Sx.S0, Sx.S1, Tryd.fx, uOD_1, Nat.reduceAdd, Nat.reducePow, Int.reducePow, Nat.reduceBEq, ↓reduceIte, UInt8.reduceToNat, UInt16.reduceToNat, UInt32.reduceToNat, UInt64.reduceToNat, Int.reduceToNat, e1]))
      have g1 : (slide A Y x B 0).getD (m + (i + j) / 2) ent0 = Y.getD ((i + j) / 2) ent0 := slide_hi (Nat.zero_le _) (by omega) (by omega)
      have g2 : (slide A Y x B 0).getD a ent0 = x := slide_x (Nat.zero_le _) (by omega)
      refine Cw.regionS [rb] [0, 1, 2, 3, 5, 6, 7, 4, 8, 9, 10] [] (by kernel_rfl) (by kernel_rfl) (by kernel_rfl) ?_
      simp only [nl_cons, ↓pickL_nil, ↓pickL_cons, ↓nthO_0, ↓nthO_s, consO_some]
      refine Ow.goQ ?_
      simp (disch := (first | assumption | omega | (simp only [lenS, lenT, UInt64.reduceToNat]; try omega))) only [↓Sx.S0, Sx.S1, Tryd.fx, uOD_1, Nat.reduceAdd, Nat.reducePow, Int.reducePow, Nat.reduceBEq, ↓reduceIte, UInt8.reduceToNat, UInt16.reduceToNat, UInt32.reduceToNat, UInt64.reduceToNat, Int.reduceToNat, g1, g2]
      refine Ow.callFn2 (v := vi (cmpE (Y.getD ((i + j) / 2) ent0) x)) rfl rfl rfl rfl Tryd.call98 (fun w' hw' => less_spec _ _ w') ?_
      refine Ow.goQ ?_
      simp (disch := (first | assumption | omega | (simp only [lenS, lenT, UInt64.reduceToNat]; try omega))) only [↓Sx.S0, Sx.S1, Tryd.fx, uOD_1, Nat.reduceAdd, Nat.reducePow, Int.reducePow, Nat.reduceBEq, ↓reduceIte, UInt8.reduceToNat, UInt16.reduceToNat, UInt32.reduceToNat, UInt64.reduceToNat, Int.reduceToNat]
      cases hc : ltE (Y.getD ((i + j) / 2) ent0) x
      · ((try with_reducible refine Cw.go [] ?_); (try simp (disch := (first | assumption | omega | (simp only [lenS, lenT, UInt64.reduceToNat]; try omega))) only [↓Sx.S0, Sx.S1, Tryd.fx, uOD_1, Nat.reduceAdd, Nat.reducePow, Int.reducePow, Nat.reduceBEq, ↓reduceIte, UInt8.reduceToNat, UInt16.reduceToNat, UInt32.reduceToNat, UInt64.reduceToNat, Int.reduceToNat]))
        refine Again.mk ⟨i, (i + j) / 2⟩ (by show (i + j) / 2 - i < j - i; omega) ⟨by show i ≤ (i + j) / 2; omega, by show (i + j) / 2 ≤ Y.length; omega, h3, .inr hc⟩ rfl rfl
      · ((try with_reducible refine Cw.go [] ?_); (try simp (disch := (first | assumption | omega | (simp only [lenS, lenT, UInt64.reduceToNat]; try omega))) only [↓Sx.S0, Sx.S1, Tryd.fx, uOD_1, Nat.reduceAdd, Nat.reducePow, Int.reducePow, Nat.reduceBEq, ↓reduceIte, UInt8.reduceToNat, UInt16.reduceToNat, UInt32.reduceToNat, UInt64.reduceToNat, Int.reduceToNat]))
        refine Again.mk ⟨(i + j) / 2 + 1, j⟩ (by show j - ((i + j) / 2 + 1) < j - i; omega) ⟨by show (i + j) / 2 + 1 ≤ j; omega, h2, .inr hc, h4⟩ rfl rfl
    · obtain rfl : i = j := by omega
      ((try with_reducible refine Cw.go [] ?_); (try simp (disch := (first | assumption | omega | (simp only [lenS, lenT, UInt64.reduceToNat]; try omega))) only [↓Sx.S0, Sx.S1, Tryd.fx, uOD_1, Nat.reduceAdd, Nat.reducePow, Int.reducePow, Nat.reduceBEq, ↓reduceIte, UInt8.reduceToNat, UInt16.reduceToNat, UInt32.reduceToNat, UInt64.reduceToNat, Int.reduceToNat]))
      refine Cw.loopG (G := Nat) [55, 56, 57, 58, 61, 62, 63, 64, 65, 66, 67, 68, 69, 70, 71, 72, 73, 74, 75, 76, 59, 60, 13] (fun g => [(13, vi (a + g : Nat))]) (fun g => [(rb, entO rest (slide A Y x B g))]) (fun g => g ≤ i) (fun g => i - g) 0 rfl rfl ?_ ?_
      · exact Nat.zero_le _
      · intro k jk hk
        simp only [overFrom, pin, setF_0, setF_s, List.contains_cons, List.contains_nil, Nat.reduceBEq, Bool.or_false, Bool.false_or, Bool.or_true, Bool.true_or, Nat.reduceAdd, ↓reduceIte, Bool.false_eq_true]
        by_cases hk1 : k < i
        · ((try with_reducible refine Cw.go [] ?_); (try simp (disch := (first | assumption | omega | (simp only [lenS, lenT, UInt64.reduceToNat]; try omega))) only [↓Sx.S0, Sx.S1, Tryd.fx, uOD_1, Nat.reduceAdd, Nat.reducePow, Int.reducePow, Nat.reduceBEq, ↓reduceIte, UInt8.reduceToNat, UInt16.reduceToNat, UInt32.reduceToNat, UInt64.reduceToNat, Int.reduceToNat]))
          have hl := slide_len A Y x B k
          have g1 : (slide A Y x B k).getD (a + k) ent0 = x := slide_x (by omega) (by omega)
          have g2 : (slide A Y x B k).getD (a + k + 1) ent0 = Y.getD k ent0 := slide_r (by omega) (by omega)
          refine Cw.regionS [rb] [0, 1, 2, 3, 4, 5, 6, 7, 8, 10, 11, 12, 9, 13, 14, 15, 16, 17] [15, 17] (by kernel_rfl) (by kernel_rfl) (by kernel_rfl) ?_
          simp only [nl_cons, ↓pickL_nil, ↓pickL_cons, ↓nthO_0, ↓nthO_s, consO_some]
          refine Ow.goQ ?_
          simp (disch := (first | assumption | omega | (simp only [lenS, lenT, UInt64.reduceToNat]; try omega))) only [↓Sx.S0, Sx.S1, Tryd.fx, uOD_1, Nat.reduceAdd, Nat.reducePow, Int.reducePow, Nat.reduceBEq, ↓reduceIte, UInt8.reduceToNat, UInt16.reduceToNat, UInt32.reduceToNat, UInt64.reduceToNat, Int.reduceToNat, g1, g2]
          refine Ow.store rfl rfl rfl (by simp (disch := (first | assumption | omega | (simp only [lenS, lenT, UInt64.reduceToNat]; try omega))) only [↓Sx.S0, Sx.S1, Tryd.fx, uOD_1, Nat.reduceAdd, Nat.reducePow, Int.reducePow, Nat.reduceBEq, ↓reduceIte, UInt8.reduceToNat, UInt16.reduceToNat, UInt32.reduceToNat, UInt64.reduceToNat, Int.reduceToNat, g1, g2]; rfl) ?_
          refine Ow.go rfl ?_
          simp (disch := (first | assumption | omega | (simp only [lenS, lenT, UInt64.reduceToNat]; try omega))) only [↓Sx.S0, Sx.S1, Tryd.fx, uOD_1, Nat.reduceAdd, Nat.reducePow, Int.reducePow, Nat.reduceBEq, ↓reduceIte, UInt8.reduceToNat, UInt16.reduceToNat, UInt32.reduceToNat, UInt64.reduceToNat, Int.reduceToNat, g1, g2]
          rw [slide_up (z := ent0) (by omega) (by omega)]
          exact Again.mk (k + 1) (by omega) (by omega) rfl rfl
        · obtain rfl : k = i := by omega
          ((try with_reducible refine Cw.go [] ?_); (try simp (disch := (first | assumption | omega | (simp only [lenS, lenT, UInt64.reduceToNat]; try omega))) only [↓Sx.S0, Sx.S1, Tryd.fx, uOD_1, Nat.reduceAdd, Nat.reducePow, Int.reducePow, Nat.reduceBEq, ↓reduceIte, UInt8.reduceToNat, UInt16.reduceToNat, UInt32.reduceToNat, UInt64.reduceToNat, Int.reduceToNat]))
          have hz := slide_sorted2 (z := ent0) hY h2 h3 h4
          refine ⟨_, _, _, (by simp (disch := (first | assumption | omega | (simp only [lenS, lenT, UInt64.reduceToNat]; try omega))) only [↓Sx.S0, Sx.S1, Tryd.fx, uOD_1, Nat.reduceAdd, Nat.reducePow, Int.reducePow, Nat.reduceBEq, ↓reduceIte, UInt8.reduceToNat, UInt16.reduceToNat, UInt32.reduceToNat, UInt64.reduceToNat, Int.reduceToNat]; rfl), rfl, trivial, ?_⟩
          exact ⟨rfl, _, by rw [slide_mid], by simp only [List.length_append, List.length_cons, List.length_nil, List.length_take, List.length_drop]; omega, hz.1, hz.2⟩
end Go.Proofs
end
section
open Go Go.Proofs Go.Sx Go.StP
namespace Go.Proofs
set_option maxRecDepth 10000
set_option maxHeartbeats 4000000
set_option linter.unusedSimpArgs false
set_option linter.defProp false
def uOE_1 := And.intro (And.intro (@load_entR) (And.intro (@store_entR) (@load_ent))) (And.intro (And.intro (@store_entr) (@cells_ent)) (And.intro (@cmpE_lt) (@half_u)))
theorem merge_last (rb n c : Nat) (A X : List EntL) (y : EntL) (B : List EntL) (rest : List Value) (a m b : Nat) (w : World) (ha : A.length = a) (hm : m = a + X.length) (hX2 : X.length ≠ 1) (hb : b = m + 1) (hn : n = b + B.length) (hs : n < 1000000) (hX : SortedE X)
    (ho : w.heap[rb]? = some (entO rest (A ++ (X ++ ([y] ++ B))))) :
    Rets Tryd.prog 172 #[vsl rb 0 n c, vi a, vi m, vi b, lessV] w (Merged rb A X [y] B rest) := by
  subst hm
  refine Rets.enterM Tryd.func172 rfl (rs := []) Tryd.results172 Tryd.ntmps172 ho ?_
  simp only [List.size_toArray, List.length_cons, List.length_nil, Nat.reduceAdd, Nat.reduceSub, List.replicate_succ, List.replicate_zero, List.cons_append, List.nil_append]
  ((try with_reducible refine Cw.go [] ?_); (try simp (disch := (first | assumption | omega | (simp only [lenS, lenT, UInt64.reduceToNat]; try omega))) only [↓Sx.S0, Sx.S1, Tryd.fx, uOE_1, Nat.reduceAdd, Nat.reducePow, Int.reducePow, Nat.reduceBEq, ↓reduceIte, UInt8.reduceToNat, UInt16.reduceToNat, UInt32.reduceToNat, UInt64.reduceToNat, Int.reduceToNat]))
  have e0 : A ++ (X ++ y :: B) = slide A X y B X.length := by rw [slide_end _ _ _ _ (Nat.le_refl _)]; simp only [List.append_assoc, List.cons_append, List.nil_append]
  rw [e0]
  refine Cw.loopG (G := BsG) [83, 84, 85, 86, 87, 88, 89, 90, 91, 16, 92, 93, 94, 95, 96, 97, 98, 99, 100, 101, 102, 103, 104, 105, 14, 106, 15] (fun g => [(14, vi (a + g.i : Nat)), (15, vi (a + g.j : Nat))]) (fun g => [(rb, entO rest (slide A X y B X.length))]) (fun g => g.i ≤ g.j ∧ g.j ≤ X.length ∧ (g.i = 0 ∨ ltE y (X.getD (g.i - 1) ent0) = false) ∧ (X.length ≤ g.j ∨ ltE y (X.getD g.j ent0) = true)) (fun g => g.j - g.i) ⟨0, X.length⟩ rfl rfl ?_ ?_
  · exact ⟨Nat.zero_le _, Nat.le_refl _, .inl rfl, .inl (Nat.le_refl _)⟩
  · intro g j hg
    simp only [overFrom, pin, setF_0, setF_s, List.contains_cons, List.contains_nil, Nat.reduceBEq, Bool.or_false, Bool.false_or, Bool.or_true, Bool.true_or, Nat.reduceAdd, ↓reduceIte, Bool.false_eq_true]
    obtain ⟨i, j⟩ := g
    obtain ⟨h1, h2, h3, h4⟩ := hg
    dsimp only at h1 h2 h3 h4 ⊢
    by_cases hij : i < j
    · have e1 : (a + i + (a + j)) / 2 = a + (i + j) / 2 := by omega
      have hl := slide_len A X y B X.length
      ((try with_reducible refine Cw.go [] ?_); (try simp (disch := (first | assumption | omega | (simp only [lenS, lenT, UInt64.reduceToNat]; try omega))) only [↓Sx.S0, Sx.S1, Tryd.fx, uOE_1, Nat.reduceAdd, Nat.reducePow, Int.reducePow, Nat.reduceBEq, ↓reduceIte, UInt8.reduceToNat, UInt16.reduceToNat, UInt32.reduceToNat, UInt64.reduceToNat, Int.reduceToNat, e1]))
      have g1 : (slide A X y B X.length).getD (a + (i + j) / 2) ent0 = X.getD ((i + j) / 2) ent0 := slide_lo (by omega) (by omega) (by omega)
      have g2 : (slide A X y B X.length).getD (a + X.length) ent0 = y := slide_x (Nat.le_refl _) (by omega)
      refine Cw.regionS [rb] [0, 1, 2, 3, 5, 6, 7, 4, 8, 9, 10, 11] [] (by kernel_rfl) (by kernel_rfl) (by kernel_rfl) ?_
      simp only [nl_cons, ↓pickL_nil, ↓pickL_cons, ↓nthO_0, ↓nthO_s, consO_some]
      refine Ow.goQ ?_
      simp (disch := (first | assumption | omega | (simp only [lenS, lenT, UInt64.reduceToNat]; try omega))) only [↓Sx.S0, Sx.S1, Tryd.fx, uOE_1, Nat.reduceAdd, Nat.reducePow, Int.reducePow, Nat.reduceBEq, ↓reduceIte, UInt8.reduceToNat, UInt16.reduceToNat, UInt32.reduceToNat, UInt64.reduceToNat, Int.reduceToNat, g1, g2]
      refine Ow.callFn2 (v := vi (cmpE y (X.getD ((i + j) / 2) ent0))) rfl rfl rfl rfl Tryd.call98 (fun w' hw' => less_spec _ _ w') ?_
      refine Ow.goQ ?_
      simp (disch := (first | assumption | omega | (simp only [lenS, lenT, UInt64.reduceToNat]; try omega))) only [↓Sx.S0, Sx.S1, Tryd.fx, uOE_1, Nat.reduceAdd, Nat.reducePow, Int.reducePow, Nat.reduceBEq, ↓reduceIte, UInt8.reduceToNat, UInt16.reduceToNat, UInt32.reduceToNat, UInt64.reduceToNat, Int.reduceToNat]
      cases hc : ltE y (X.getD ((i + j) / 2) ent0)
      · ((try with_reducible refine Cw.go [] ?_); (try simp (disch := (first | assumption | omega | (simp only [lenS, lenT, UInt64.reduceToNat]; try omega))) only [↓Sx.S0, Sx.S1, Tryd.fx, uOE_1, Nat.reduceAdd, Nat.reducePow, Int.reducePow, Nat.reduceBEq, ↓reduceIte, UInt8.reduceToNat, UInt16.reduceToNat, UInt32.reduceToNat, UInt64.reduceToNat, Int.reduceToNat]))
        refine Again.mk ⟨(i + j) / 2 + 1, j⟩ (by show j - ((i + j) / 2 + 1) < j - i; omega) ⟨by show (i + j) / 2 + 1 ≤ j; omega, h2, .inr hc, h4⟩ rfl rfl
      · ((try with_reducible refine Cw.go [] ?_); (try simp (disch := (first | assumption | omega | (simp only [lenS, lenT, UInt64.reduceToNat]; try omega))) only [↓Sx.S0, Sx.S1, Tryd.fx, uOE_1, Nat.reduceAdd, Nat.reducePow, Int.reducePow, Nat.reduceBEq, ↓reduceIte, UInt8.reduceToNat, UInt16.reduceToNat, UInt32.reduceToNat, UInt64.reduceToNat, Int.reduceToNat]))
        refine Again.mk ⟨i, (i + j) / 2⟩ (by show (i + j) / 2 - i < j - i; omega) ⟨by show i ≤ (i + j) / 2; omega, by show (i + j) / 2 ≤ X.length; omega, h3, .inr hc⟩ rfl rfl
    · obtain rfl : i = j := by omega
      ((try with_reducible refine Cw.go [] ?_); (try simp (disch := (first | assumption | omega | (simp only [lenS, lenT, UInt64.reduceToNat]; try omega))) only [↓Sx.S0, Sx.S1, Tryd.fx, uOE_1, Nat.reduceAdd, Nat.reducePow, Int.reducePow, Nat.reduceBEq, ↓reduceIte, UInt8.reduceToNat, UInt16.reduceToNat, UInt32.reduceToNat, UInt64.reduceToNat, Int.reduceToNat]))
      refine Cw.loopG (G := Nat) [108, 109, 110, 113, 114, 115, 116, 117, 118, 119, 120, 121, 122, 123, 124, 125, 126, 127, 128, 111, 112, 17] (fun g => [(17, vi (a + g : Nat))]) (fun g => [(rb, entO rest (slide A X y B g))]) (fun g => i ≤ g ∧ g ≤ X.length) (fun g => g) X.length rfl rfl ?_ ?_
      · exact ⟨h2, Nat.le_refl _⟩
      · intro k jk hk
        simp only [overFrom, pin, setF_0, setF_s, List.contains_cons, List.contains_nil, Nat.reduceBEq, Bool.or_false, Bool.false_or, Bool.or_true, Bool.true_or, Nat.reduceAdd, ↓reduceIte, Bool.false_eq_true]
        obtain ⟨hk1, hk2⟩ := hk
        by_cases hk : i < k
        · obtain ⟨k, rfl⟩ : ∃ q, k = q + 1 := ⟨k - 1, by omega⟩
          ((try with_reducible refine Cw.go [] ?_); (try simp (disch := (first | assumption | omega | (simp only [lenS, lenT, UInt64.reduceToNat]; try omega))) only [↓Sx.S0, Sx.S1, Tryd.fx, uOE_1, Nat.reduceAdd, Nat.reducePow, Int.reducePow, Nat.reduceBEq, ↓reduceIte, UInt8.reduceToNat, UInt16.reduceToNat, UInt32.reduceToNat, UInt64.reduceToNat, Int.reduceToNat]))
          have hl := slide_len A X y B (k + 1)
          have g1 : (slide A X y B (k + 1)).getD (a + (k + 1)) ent0 = y := slide_x (by omega) (by omega)
          have g2 : (slide A X y B (k + 1)).getD (a + k) ent0 = X.getD k ent0 := slide_l (by omega) (by omega)
          have e3 : a + (k + 1) - 1 = a + k := by omega
          refine Cw.regionS [rb] [0, 1, 2, 3, 4, 5, 6, 7, 8, 10, 11, 12, 9, 13, 14, 15, 16, 17] [15, 17] (by kernel_rfl) (by kernel_rfl) (by kernel_rfl) ?_
          simp only [nl_cons, ↓pickL_nil, ↓pickL_cons, ↓nthO_0, ↓nthO_s, consO_some]
          refine Ow.goQ ?_
          simp (disch := (first | assumption | omega | (simp only [lenS, lenT, UInt64.reduceToNat]; try omega))) only [↓Sx.S0, Sx.S1, Tryd.fx, uOE_1, Nat.reduceAdd, Nat.reducePow, Int.reducePow, Nat.reduceBEq, ↓reduceIte, UInt8.reduceToNat, UInt16.reduceToNat, UInt32.reduceToNat, UInt64.reduceToNat, Int.reduceToNat, e3, g1, g2]
          refine Ow.store rfl rfl rfl (by simp (disch := (first | assumption | omega | (simp only [lenS, lenT, UInt64.reduceToNat]; try omega))) only [↓Sx.S0, Sx.S1, Tryd.fx, uOE_1, Nat.reduceAdd, Nat.reducePow, Int.reducePow, Nat.reduceBEq, ↓reduceIte, UInt8.reduceToNat, UInt16.reduceToNat, UInt32.reduceToNat, UInt64.reduceToNat, Int.reduceToNat, e3, g1, g2]; rfl) ?_
          refine Ow.go rfl ?_
          simp (disch := (first | assumption | omega | (simp only [lenS, lenT, UInt64.reduceToNat]; try omega))) only [↓Sx.S0, Sx.S1, Tryd.fx, uOE_1, Nat.reduceAdd, Nat.reducePow, Int.reducePow, Nat.reduceBEq, ↓reduceIte, UInt8.reduceToNat, UInt16.reduceToNat, UInt32.reduceToNat, UInt64.reduceToNat, Int.reduceToNat, e3, g1, g2]
          rw [set_comm' (by omega), ← Nat.add_assoc, slide_down (z := ent0) (by omega) (by omega)]
          refine Again.mk k (by omega) ⟨by omega, by omega⟩ rfl ?_
          rw [show (((a + k + 1 : Nat) : Int)) - 1 = ((a + k : Nat) : Int) by omega]
          rfl
        · obtain rfl : k = i := by omega
          ((try with_reducible refine Cw.go [] ?_); (try simp (disch := (first | assumption | omega | (simp only [lenS, lenT, UInt64.reduceToNat]; try omega))) only [↓Sx.S0, Sx.S1, Tryd.fx, uOE_1, Nat.reduceAdd, Nat.reducePow, Int.reducePow, Nat.reduceBEq, ↓reduceIte, UInt8.reduceToNat, UInt16.reduceToNat, UInt32.reduceToNat, UInt64.reduceToNat, Int.reduceToNat]))
          have hz := slide_sorted (z := ent0) hX h2 h3 h4
          refine ⟨_, _, _, (by simp (disch := (first | assumption | omega | (simp only [lenS, lenT, UInt64.reduceToNat]; try omega))) only [↓Sx.S0, Sx.S1, Tryd.fx, uOE_1, Nat.reduceAdd, Nat.reducePow, Int.reducePow, Nat.reduceBEq, ↓reduceIte, UInt8.reduceToNat, UInt16.reduceToNat, UInt32.reduceToNat, UInt64.reduceToNat, Int.reduceToNat]; rfl), rfl, trivial, ?_⟩
          exact ⟨rfl, _, by rw [slide_mid], by simp only [List.length_append, List.length_cons, List.length_nil, List.length_take, List.length_drop]; omega, hz.1, hz.2⟩
/-- Two runs, one behind the other, as one. -/
theorem D_x {A X C : List EntL} {h i : Nat} (hh : h < X.length) (e : i = A.length + h) : (A ++ (X ++ C)).getD i ent0 = X.getD h ent0 := by
  subst e
  rw [getD_app_r (by omega), Nat.add_sub_cancel_left, getD_app_l hh]
theorem D_y {A X Y C : List EntL} {h i : Nat} (hh : h < Y.length) (e : i = A.length + X.length + h) : (A ++ (X ++ (Y ++ C))).getD i ent0 = Y.getD h ent0 := by
  subst e
  rw [getD_app_r (by omega), getD_app_r (by omega), getD_app_l (by omega)]
  congr 1; omega
theorem symMerge_spec (q : Nat) : ∀ (rb n c : Nat) (A X Y B : List EntL) (rest : List Value) (a m b : Nat) (w : World) (_ha : A.length = a) (_hm : m = a + X.length) (_hb : b = m + Y.length) (_hn : n = b + B.length) (_hs : n < 1000000) (_hX : SortedE X) (_hY : SortedE Y) (_hx0 : 0 < X.length) (_hy0 : 0 < Y.length) (_hq : X.length + Y.length ≤ q)
    (_ho : w.heap[rb]? = some (entO rest (A ++ (X ++ (Y ++ B))))),
    Rets Tryd.prog 172 #[vsl rb 0 n c, vi a, vi m, vi b, lessV] w (Merged rb A X Y B rest) := by
  induction q with
  | zero => intros; omega
  | succ q ih =>
    intro rb n c A X Y B rest a m b w ha hm hb hn hs hX hY hx0 hy0 hq ho
    by_cases hX1 : X.length = 1
    · obtain ⟨x, rfl⟩ := List.length_eq_one_iff.1 hX1
      exact merge_one rb n c A x Y B rest a m b w ha hm hb hn hs hY ho
    by_cases hY1 : Y.length = 1
    · obtain ⟨y, rfl⟩ := List.length_eq_one_iff.1 hY1
      exact merge_last rb n c A X y B rest a m b w ha hm hX1 hb hn hs hX ho
    have e1 : (m : Int) - a = (X.length : Nat) := by omega
    have e2 : (b : Int) - m = (Y.length : Nat) := by omega
    refine Rets.enterM Tryd.func172 rfl (rs := []) Tryd.results172 Tryd.ntmps172 ho ?_
    simp only [List.size_toArray, List.length_cons, List.length_nil, Nat.reduceAdd, Nat.reduceSub, List.replicate_succ, List.replicate_zero, List.cons_append, List.nil_append]
    obtain ⟨mid, hmd⟩ : ∃ q, q = (a + b) / 2 := ⟨_, rfl⟩
    obtain ⟨nn, hnn⟩ : ∃ q, q = mid + m := ⟨_, rfl⟩
    have e3 : (mid : Int) + (m : Int) = (nn : Nat) := by omega
    have e5 : (nn : Int) - 1 = ((nn - 1 : Nat) : Int) := by omega
    have hl : (A ++ (X ++ (Y ++ B))).length = n := by simp only [List.length_append]; omega
    ((try with_reducible refine Cw.go [1000027] ?_); (try simp (disch := (first | assumption | omega | (simp only [lenS, lenT, UInt64.reduceToNat]; try omega))) only [↓Sx.S0, Sx.S1, Tryd.fx, uOE_1, Nat.reduceAdd, Nat.reducePow, Int.reducePow, Nat.reduceBEq, ↓reduceIte, UInt8.reduceToNat, UInt16.reduceToNat, UInt32.reduceToNat, UInt64.reduceToNat, Int.reduceToNat, e1, e2, ← hmd, e3, e5]))
    refine Cw.cut (G := BsG) 220 (fun g => [(0, vsl rb 0 n c), (1, vi a), (2, vi m), (3, vi b), (4, lessV), (18, vi mid), (19, vi nn), (20, vi g.i), (21, vi g.j)]) (fun g => [(rb, entO rest (A ++ (X ++ (Y ++ B))))]) (fun g => g.i ≤ g.j ∧ g.j ≤ m ∧ nn ≤ b + g.i ∧ m + g.j ≤ nn ∧ a ≤ g.i ∧ (g.i = a ∨ nn = b + g.i) ∧ (g.j = m ∨ m + g.j = nn)) ?_ ?_
    · by_cases hmid : mid < m
      · have e4 : (nn : Int) - (b : Int) = ((nn - b : Nat) : Int) := by omega
        ((try with_reducible refine Cw.go [] ?_); (try simp (disch := (first | assumption | omega | (simp only [lenS, lenT, UInt64.reduceToNat]; try omega))) only [↓Sx.S0, Sx.S1, Tryd.fx, uOE_1, Nat.reduceAdd, Nat.reducePow, Int.reducePow, Nat.reduceBEq, ↓reduceIte, UInt8.reduceToNat, UInt16.reduceToNat, UInt32.reduceToNat, UInt64.reduceToNat, Int.reduceToNat, e4]))
        exact CutM.mk ⟨nn - b, mid⟩ ⟨by show nn - b ≤ mid; omega, by show mid ≤ m; omega, by show nn ≤ b + (nn - b); omega, by show m + mid ≤ nn; omega, by show a ≤ nn - b; omega, .inr (by show nn = b + (nn - b); omega), .inr (by show m + mid = nn; omega)⟩ rfl rfl
      · ((try with_reducible refine Cw.go [] ?_); (try simp (disch := (first | assumption | omega | (simp only [lenS, lenT, UInt64.reduceToNat]; try omega))) only [↓Sx.S0, Sx.S1, Tryd.fx, uOE_1, Nat.reduceAdd, Nat.reducePow, Int.reducePow, Nat.reduceBEq, ↓reduceIte, UInt8.reduceToNat, UInt16.reduceToNat, UInt32.reduceToNat, UInt64.reduceToNat, Int.reduceToNat]))
        exact CutM.mk ⟨a, m⟩ ⟨by show a ≤ m; omega, by show m ≤ m; omega, by show nn ≤ b + a; omega, by show m + m ≤ nn; omega, by show a ≤ a; omega, .inl rfl, .inl rfl⟩ rfl rfl
    · intro g j hg
      simp only [allF_s, allF_0, pin, setF_0, setF_s, Nat.reduceAdd]
      obtain ⟨s0, r0⟩ := g
      obtain ⟨f1, f2, f3, f4, f5, f6, f7⟩ := hg
      dsimp only at f1 f2 f3 f4 f5 f6 f7 ⊢
      ((try with_reducible refine Cw.go [1000039, 1000041] ?_); (try simp (disch := (first | assumption | omega | (simp only [lenS, lenT, UInt64.reduceToNat]; try omega))) only [↓Sx.S0, Sx.S1, Tryd.fx, uOE_1, Nat.reduceAdd, Nat.reducePow, Int.reducePow, Nat.reduceBEq, ↓reduceIte, UInt8.reduceToNat, UInt16.reduceToNat, UInt32.reduceToNat, UInt64.reduceToNat, Int.reduceToNat, e5]))
      refine Cw.loopG (G := BsG) [149, 150, 151, 152, 153, 154, 155, 156, 157, 23, 158, 159, 160, 161, 162, 163, 164, 165, 166, 167, 168, 169, 170, 171, 172, 173, 20, 174, 21] (fun g => [(20, vi g.i), (21, vi g.j)]) (fun g => [(rb, entO rest (A ++ (X ++ (Y ++ B))))]) (fun g => s0 ≤ g.i ∧ g.i ≤ g.j ∧ g.j ≤ r0 ∧ (g.i = s0 ∨ ltE ((A ++ (X ++ (Y ++ B))).getD (nn - g.i) ent0) ((A ++ (X ++ (Y ++ B))).getD (g.i - 1) ent0) = false) ∧ (g.j = r0 ∨ ltE ((A ++ (X ++ (Y ++ B))).getD (nn - 1 - g.j) ent0) ((A ++ (X ++ (Y ++ B))).getD g.j ent0) = true)) (fun g => g.j - g.i) ⟨s0, r0⟩ rfl rfl ?_ ?_
      · exact ⟨Nat.le_refl _, f1, Nat.le_refl _, .inl rfl, .inl rfl⟩
      · intro g j hg
        simp only [overFrom, pin, setF_0, setF_s, List.contains_cons, List.contains_nil, Nat.reduceBEq, Bool.or_false, Bool.false_or, Bool.or_true, Bool.true_or, Nat.reduceAdd, ↓reduceIte, Bool.false_eq_true]
        obtain ⟨i, j⟩ := g
        obtain ⟨h1, h2, h3, h4, h5⟩ := hg
        dsimp only at h1 h2 h3 h4 h5 ⊢
        by_cases hij : i < j
        · obtain ⟨h, hh⟩ : ∃ q, q = (i + j) / 2 := ⟨_, rfl⟩
          have e6 : ((nn - 1 : Nat) : Int) - (h : Int) = ((nn - 1 - h : Nat) : Int) := by omega
          ((try with_reducible refine Cw.go [] ?_); (try simp (disch := (first | assumption | omega | (simp only [lenS, lenT, UInt64.reduceToNat]; try omega))) only [↓Sx.S0, Sx.S1, Tryd.fx, uOE_1, Nat.reduceAdd, Nat.reducePow, Int.reducePow, Nat.reduceBEq, ↓reduceIte, UInt8.reduceToNat, UInt16.reduceToNat, UInt32.reduceToNat, UInt64.reduceToNat, Int.reduceToNat, ← hh]))
          refine Cw.regionS [rb] [0, 1, 2, 3, 4, 5, 7, 8, 9, 6, 10, 11, 12, 13] [] (by kernel_rfl) (by kernel_rfl) (by kernel_rfl) ?_
          simp only [nl_cons, ↓pickL_nil, ↓pickL_cons, ↓nthO_0, ↓nthO_s, consO_some]
          refine Ow.goQ ?_
          simp (disch := (first | assumption | omega | (simp only [lenS, lenT, UInt64.reduceToNat]; try omega))) only [↓Sx.S0, Sx.S1, Tryd.fx, uOE_1, Nat.reduceAdd, Nat.reducePow, Int.reducePow, Nat.reduceBEq, ↓reduceIte, UInt8.reduceToNat, UInt16.reduceToNat, UInt32.reduceToNat, UInt64.reduceToNat, Int.reduceToNat, e6]
          refine Ow.callFn2 (v := vi (cmpE ((A ++ (X ++ (Y ++ B))).getD (nn - 1 - h) ent0) ((A ++ (X ++ (Y ++ B))).getD h ent0))) rfl rfl rfl rfl Tryd.call98 (fun w' hw' => less_spec _ _ w') ?_
          refine Ow.goQ ?_
          simp (disch := (first | assumption | omega | (simp only [lenS, lenT, UInt64.reduceToNat]; try omega))) only [↓Sx.S0, Sx.S1, Tryd.fx, uOE_1, Nat.reduceAdd, Nat.reducePow, Int.reducePow, Nat.reduceBEq, ↓reduceIte, UInt8.reduceToNat, UInt16.reduceToNat, UInt32.reduceToNat, UInt64.reduceToNat, Int.reduceToNat]
          cases hc : ltE ((A ++ (X ++ (Y ++ B))).getD (nn - 1 - h) ent0) ((A ++ (X ++ (Y ++ B))).getD h ent0)
          · ((try with_reducible refine Cw.go [] ?_); (try simp (disch := (first | assumption | omega | (simp only [lenS, lenT, UInt64.reduceToNat]; try omega))) only [↓Sx.S0, Sx.S1, Tryd.fx, uOE_1, Nat.reduceAdd, Nat.reducePow, Int.reducePow, Nat.reduceBEq, ↓reduceIte, UInt8.reduceToNat, UInt16.reduceToNat, UInt32.reduceToNat, UInt64.reduceToNat, Int.reduceToNat]))
            refine Again.mk ⟨h + 1, j⟩ (by show j - (h + 1) < j - i; omega) ⟨by show s0 ≤ h + 1; omega, by show h + 1 ≤ j; omega, h3, .inr ?_, h5⟩ rfl rfl
            show ltE ((A ++ (X ++ (Y ++ B))).getD (nn - (h + 1)) ent0) ((A ++ (X ++ (Y ++ B))).getD (h + 1 - 1) ent0) = false
            rw [show nn - (h + 1) = nn - 1 - h by omega, Nat.add_sub_cancel]; exact hc
          · ((try with_reducible refine Cw.go [] ?_); (try simp (disch := (first | assumption | omega | (simp only [lenS, lenT, UInt64.reduceToNat]; try omega))) only [↓Sx.S0, Sx.S1, Tryd.fx, uOE_1, Nat.reduceAdd, Nat.reducePow, Int.reducePow, Nat.reduceBEq, ↓reduceIte, UInt8.reduceToNat, UInt16.reduceToNat, UInt32.reduceToNat, UInt64.reduceToNat, Int.reduceToNat]))
            refine Again.mk ⟨i, h⟩ (by show h - i < j - i; omega) ⟨h1, by show i ≤ h; omega, by show h ≤ r0; omega, h4, .inr hc⟩ rfl rfl
        · obtain rfl : i = j := by omega
          obtain ⟨ix, hix⟩ : ∃ q, q = i - a := ⟨_, rfl⟩
          obtain ⟨jy, hjy⟩ : ∃ q, q = nn - i - m := ⟨_, rfl⟩
          have q1 : jy = 0 ∨ X.length ≤ ix ∨ ltE (Y.getD (jy - 1) ent0) (X.getD ix ent0) = true := by
            by_cases c1 : jy = 0
            · exact .inl c1
            by_cases c2 : X.length ≤ ix
            · exact .inr (.inl c2)
            rcases h5 with h5 | h5
            · omega
            · rw [D_y (h := jy - 1) (by omega) (by omega), D_x (h := ix) (by omega) (by omega)] at h5
              exact .inr (.inr h5)
          have q2 : ix = 0 ∨ Y.length ≤ jy ∨ ltE (Y.getD jy ent0) (X.getD (ix - 1) ent0) = false := by
            by_cases c1 : ix = 0
            · exact .inl c1
            by_cases c2 : Y.length ≤ jy
            · exact .inr (.inl c2)
            rcases h4 with h4 | h4
            · omega
            · rw [D_y (h := jy) (by omega) (by omega), D_x (h := ix - 1) (by omega) (by omega)] at h4
              exact .inr (.inr h4)
          have hmc := fun x1 x2 => merge_cut (z := ent0) (x1 := x1) (x2 := x2) hX hY (show ix ≤ X.length by omega) (show jy ≤ Y.length by omega) q1 q2
          have sX1 : SortedE (X.take ix) := StP.Sorted.left (b := X.drop ix) (by rw [List.take_append_drop]; exact hX)
          have sX2 : SortedE (X.drop ix) := StP.Sorted.right (a := X.take ix) (by rw [List.take_append_drop]; exact hX)
          have sY1 : SortedE (Y.take jy) := StP.Sorted.left (b := Y.drop jy) (by rw [List.take_append_drop]; exact hY)
          have sY2 : SortedE (Y.drop jy) := StP.Sorted.right (a := Y.take jy) (by rw [List.take_append_drop]; exact hY)
          have hrow : A ++ (X ++ (Y ++ B)) = A ++ (X.take ix ++ (X.drop ix ++ (Y.take jy ++ (Y.drop jy ++ B)))) := by
            rw [← List.append_assoc (X.take ix), List.take_append_drop, ← List.append_assoc (Y.take jy), List.take_append_drop]
          have lX1 : (X.take ix).length = ix := by rw [List.length_take]; omega
          have lX2 : (X.drop ix).length = m - i := by rw [List.length_drop]; omega
          have lY1 : (Y.take jy).length = jy := by rw [List.length_take]; omega
          have lY2 : (Y.drop jy).length = b - m - jy := by rw [List.length_drop]; omega
          have e7 : (nn : Int) - (i : Int) = ((m + jy : Nat) : Int) := by omega
          ((try with_reducible refine Cw.go [] ?_); (try simp (disch := (first | assumption | omega | (simp only [lenS, lenT, UInt64.reduceToNat]; try omega))) only [↓Sx.S0, Sx.S1, Tryd.fx, uOE_1, Nat.reduceAdd, Nat.reducePow, Int.reducePow, Nat.reduceBEq, ↓reduceIte, UInt8.reduceToNat, UInt16.reduceToNat, UInt32.reduceToNat, UInt64.reduceToNat, Int.reduceToNat, e7]))
          rw [hrow]
          generalize X.take ix = X1 at *
          generalize X.drop ix = X2 at *
          generalize Y.take jy = Y1 at *
          generalize Y.drop jy = Y2 at *
          have em : mid = i + jy := by omega
          refine Cw.cut (G := Unit) 220 (fun g => [(0, vsl rb 0 n c), (1, vi a), (2, vi m), (3, vi b), (4, lessV), (18, vi mid), (20, vi i), (24, vi (m + jy : Nat))]) (fun g => [(rb, entO rest (A ++ (X1 ++ (Y1 ++ (X2 ++ (Y2 ++ B))))))]) (fun g => True) ?_ ?_
          · by_cases c1 : i < m
            · have d1 : decide ((i : Int) < (m : Int)) = true := decide_eq_true (by omega)
              by_cases c2 : 0 < jy
              · have d2 : decide ((m : Int) < ((m + jy : Nat) : Int)) = true := decide_eq_true (by omega)
                ((try with_reducible refine Cw.go [] ?_); (try simp (disch := (first | assumption | omega | (simp only [lenS, lenT, UInt64.reduceToNat]; try omega))) only [↓Sx.S0, Sx.S1, Tryd.fx, uOE_1, Nat.reduceAdd, Nat.reducePow, Int.reducePow, Nat.reduceBEq, ↓reduceIte, UInt8.reduceToNat, UInt16.reduceToNat, UInt32.reduceToNat, UInt64.reduceToNat, Int.reduceToNat, d1, d2]))
                refine Ow.callM rfl rfl Tryd.call180 (by simp [keys]) (fun w' hw' => rotate_spec rb n c (A ++ X1) X2 Y1 (Y2 ++ B) rest lessV i m (m + jy) w' (by omega) (by omega) (by rw [List.length_append]; omega) (by omega) (by omega) (by rw [List.length_append]; omega) hs (by rw [List.append_assoc]; exact hw'.has _ _ List.mem_cons_self)) ?_
                refine Ow.go rfl ?_
                simp (disch := (first | assumption | omega | (simp only [lenS, lenT, UInt64.reduceToNat]; try omega))) only [↓Sx.S0, Sx.S1, Tryd.fx, uOE_1, Nat.reduceAdd, Nat.reducePow, Int.reducePow, Nat.reduceBEq, ↓reduceIte, UInt8.reduceToNat, UInt16.reduceToNat, UInt32.reduceToNat, UInt64.reduceToNat, Int.reduceToNat]
                exact CutM.mk () trivial (by simp only [List.append_assoc]) rfl
              · have d2 : decide ((m : Int) < ((m + jy : Nat) : Int)) = false := decide_eq_false (by omega)
                ((try with_reducible refine Cw.go [] ?_); (try simp (disch := (first | assumption | omega | (simp only [lenS, lenT, UInt64.reduceToNat]; try omega))) only [↓Sx.S0, Sx.S1, Tryd.fx, uOE_1, Nat.reduceAdd, Nat.reducePow, Int.reducePow, Nat.reduceBEq, ↓reduceIte, UInt8.reduceToNat, UInt16.reduceToNat, UInt32.reduceToNat, UInt64.reduceToNat, Int.reduceToNat, d1, d2]))
                obtain rfl : Y1 = [] := List.eq_nil_of_length_eq_zero (by omega)
                exact CutM.mk () trivial (by simp only [List.nil_append]) rfl
            · have d1 : decide ((i : Int) < (m : Int)) = false := decide_eq_false (by omega)
              ((try with_reducible refine Cw.go [] ?_); (try simp (disch := (first | assumption | omega | (simp only [lenS, lenT, UInt64.reduceToNat]; try omega))) only [↓Sx.S0, Sx.S1, Tryd.fx, uOE_1, Nat.reduceAdd, Nat.reducePow, Int.reducePow, Nat.reduceBEq, ↓reduceIte, UInt8.reduceToNat, UInt16.reduceToNat, UInt32.reduceToNat, UInt64.reduceToNat, Int.reduceToNat, d1]))
              obtain rfl : X2 = [] := List.eq_nil_of_length_eq_zero (by omega)
              exact CutM.mk () trivial (by simp only [List.nil_append]) rfl
          · intro u ju hu
            simp only [allF_s, allF_0, pin, setF_0, setF_s, Nat.reduceAdd]
            ((try with_reducible refine Cw.go [1000041, 1000043] ?_); (try simp (disch := (first | assumption | omega | (simp only [lenS, lenT, UInt64.reduceToNat]; try omega))) only [↓Sx.S0, Sx.S1, Tryd.fx, uOE_1, Nat.reduceAdd, Nat.reducePow, Int.reducePow, Nat.reduceBEq, ↓reduceIte, UInt8.reduceToNat, UInt16.reduceToNat, UInt32.reduceToNat, UInt64.reduceToNat, Int.reduceToNat]))
            refine Cw.cut (G := (List EntL)) 220 (fun g => [(0, vsl rb 0 n c), (3, vi b), (4, lessV), (18, vi mid), (24, vi (m + jy : Nat))]) (fun g => [(rb, entO rest (A ++ (g ++ (X2 ++ (Y2 ++ B)))))]) (fun g => g.length = ix + jy ∧ SortedE g ∧ StE (X1 ++ Y1) g) ?_ ?_
            · by_cases c1 : a < i
              · have d1 : decide ((a : Int) < (i : Int)) = true := decide_eq_true (by omega)
                by_cases c2 : 0 < jy
                · have d2 : decide ((i : Int) < (mid : Int)) = true := decide_eq_true (by omega)
                  ((try with_reducible refine Cw.go [] ?_); (try simp (disch := (first | assumption | omega | (simp only [lenS, lenT, UInt64.reduceToNat]; try omega))) only [↓Sx.S0, Sx.S1, Tryd.fx, uOE_1, Nat.reduceAdd, Nat.reducePow, Int.reducePow, Nat.reduceBEq, ↓reduceIte, UInt8.reduceToNat, UInt16.reduceToNat, UInt32.reduceToNat, UInt64.reduceToNat, Int.reduceToNat, d1, d2]))
                  refine Ow.callE rfl rfl Tryd.call172 (by simp [keys]) (fun w' hw' => ih rb n c A X1 Y1 (X2 ++ (Y2 ++ B)) rest a i mid w' ha (by omega) (by omega) (by simp only [List.length_append]; omega) hs sX1 sY1 (by omega) (by omega) (by omega) (hw'.has _ _ List.mem_cons_self)) (fun v1 o1 hS1 => ?_)
                  obtain ⟨rfl, Z1, rfl, z1, z2, z3⟩ := hS1
                  refine Ow.go rfl ?_
                  simp (disch := (first | assumption | omega | (simp only [lenS, lenT, UInt64.reduceToNat]; try omega))) only [↓Sx.S0, Sx.S1, Tryd.fx, uOE_1, Nat.reduceAdd, Nat.reducePow, Int.reducePow, Nat.reduceBEq, ↓reduceIte, UInt8.reduceToNat, UInt16.reduceToNat, UInt32.reduceToNat, UInt64.reduceToNat, Int.reduceToNat]
                  exact CutM.mk Z1 ⟨by omega, z2, z3⟩ rfl rfl
                · have d2 : decide ((i : Int) < (mid : Int)) = false := decide_eq_false (by omega)
                  ((try with_reducible refine Cw.go [] ?_); (try simp (disch := (first | assumption | omega | (simp only [lenS, lenT, UInt64.reduceToNat]; try omega))) only [↓Sx.S0, Sx.S1, Tryd.fx, uOE_1, Nat.reduceAdd, Nat.reducePow, Int.reducePow, Nat.reduceBEq, ↓reduceIte, UInt8.reduceToNat, UInt16.reduceToNat, UInt32.reduceToNat, UInt64.reduceToNat, Int.reduceToNat, d1, d2]))
                  obtain rfl : Y1 = [] := List.eq_nil_of_length_eq_zero (by omega)
                  exact CutM.mk X1 ⟨by omega, sX1, by rw [List.append_nil]; exact StP.St.refl _ _⟩ rfl rfl
              · have d1 : decide ((a : Int) < (i : Int)) = false := decide_eq_false (by omega)
                ((try with_reducible refine Cw.go [] ?_); (try simp (disch := (first | assumption | omega | (simp only [lenS, lenT, UInt64.reduceToNat]; try omega))) only [↓Sx.S0, Sx.S1, Tryd.fx, uOE_1, Nat.reduceAdd, Nat.reducePow, Int.reducePow, Nat.reduceBEq, ↓reduceIte, UInt8.reduceToNat, UInt16.reduceToNat, UInt32.reduceToNat, UInt64.reduceToNat, Int.reduceToNat, d1]))
                obtain rfl : X1 = [] := List.eq_nil_of_length_eq_zero (by omega)
                exact CutM.mk Y1 ⟨by omega, sY1, StP.St.refl _ _⟩ (by simp only [List.nil_append]) rfl
            · intro Z1 jZ1 hZ1
              simp only [allF_s, allF_0, pin, setF_0, setF_s, Nat.reduceAdd]
              obtain ⟨z1, z2, z3⟩ := hZ1
              by_cases c1 : i < m
              · have d1 : decide ((mid : Int) < ((m + jy : Nat) : Int)) = true := decide_eq_true (by omega)
                by_cases c2 : m + jy < b
                · have d2 : decide (((m + jy : Nat) : Int) < (b : Int)) = true := decide_eq_true (by omega)
                  ((try with_reducible refine Cw.go [] ?_); (try simp (disch := (first | assumption | omega | (simp only [lenS, lenT, UInt64.reduceToNat]; try omega))) only [↓Sx.S0, Sx.S1, Tryd.fx, uOE_1, Nat.reduceAdd, Nat.reducePow, Int.reducePow, Nat.reduceBEq, ↓reduceIte, UInt8.reduceToNat, UInt16.reduceToNat, UInt32.reduceToNat, UInt64.reduceToNat, Int.reduceToNat, d1, d2]))
                  refine Ow.callE rfl rfl Tryd.call172 (by simp [keys]) (fun w' hw' => ih rb n c (A ++ Z1) X2 Y2 B rest mid (m + jy) b w' (by rw [List.length_append]; omega) (by omega) (by omega) hn hs sX2 sY2 (by omega) (by omega) (by omega) (by rw [List.append_assoc]; exact hw'.has _ _ List.mem_cons_self)) (fun v2 o2 hS2 => ?_)
                  obtain ⟨rfl, Z2, rfl, y1, y2, y3⟩ := hS2
                  obtain ⟨r1, r2⟩ := hmc Z1 Z2 z2 z3 y2 y3
                  refine Ow.go rfl ?_
                  simp (disch := (first | assumption | omega | (simp only [lenS, lenT, UInt64.reduceToNat]; try omega))) only [↓Sx.S0, Sx.S1, Tryd.fx, uOE_1, Nat.reduceAdd, Nat.reducePow, Int.reducePow, Nat.reduceBEq, ↓reduceIte, UInt8.reduceToNat, UInt16.reduceToNat, UInt32.reduceToNat, UInt64.reduceToNat, Int.reduceToNat]
                  refine ⟨_, _, _, (by simp (disch := (first | assumption | omega | (simp only [lenS, lenT, UInt64.reduceToNat]; try omega))) only [↓Sx.S0, Sx.S1, Tryd.fx, uOE_1, Nat.reduceAdd, Nat.reducePow, Int.reducePow, Nat.reduceBEq, ↓reduceIte, UInt8.reduceToNat, UInt16.reduceToNat, UInt32.reduceToNat, UInt64.reduceToNat, Int.reduceToNat]; rfl), rfl, trivial, ?_⟩
                  exact ⟨rfl, Z1 ++ Z2, by simp only [List.append_assoc], by rw [List.length_append]; omega, r1, r2⟩
                · have d2 : decide (((m + jy : Nat) : Int) < (b : Int)) = false := decide_eq_false (by omega)
                  ((try with_reducible refine Cw.go [] ?_); (try simp (disch := (first | assumption | omega | (simp only [lenS, lenT, UInt64.reduceToNat]; try omega))) only [↓Sx.S0, Sx.S1, Tryd.fx, uOE_1, Nat.reduceAdd, Nat.reducePow, Int.reducePow, Nat.reduceBEq, ↓reduceIte, UInt8.reduceToNat, UInt16.reduceToNat, UInt32.reduceToNat, UInt64.reduceToNat, Int.reduceToNat, d1, d2]))
                  obtain rfl : Y2 = [] := List.eq_nil_of_length_eq_zero (by omega)
                  obtain ⟨r1, r2⟩ := hmc Z1 X2 z2 z3 sX2 (by rw [List.append_nil]; exact StP.St.refl _ _)
                  refine ⟨_, _, _, (by simp (disch := (first | assumption | omega | (simp only [lenS, lenT, UInt64.reduceToNat]; try omega))) only [↓Sx.S0, Sx.S1, Tryd.fx, uOE_1, Nat.reduceAdd, Nat.reducePow, Int.reducePow, Nat.reduceBEq, ↓reduceIte, UInt8.reduceToNat, UInt16.reduceToNat, UInt32.reduceToNat, UInt64.reduceToNat, Int.reduceToNat]; rfl), rfl, trivial, ?_⟩
                  exact ⟨rfl, Z1 ++ X2, by simp only [List.append_assoc, List.nil_append], by rw [List.length_append]; omega, r1, r2⟩
              · have d1 : decide ((mid : Int) < ((m + jy : Nat) : Int)) = false := decide_eq_false (by omega)
                ((try with_reducible refine Cw.go [] ?_); (try simp (disch := (first | assumption | omega | (simp only [lenS, lenT, UInt64.reduceToNat]; try omega))) only [↓Sx.S0, Sx.S1, Tryd.fx, uOE_1, Nat.reduceAdd, Nat.reducePow, Int.reducePow, Nat.reduceBEq, ↓reduceIte, UInt8.reduceToNat, UInt16.reduceToNat, UInt32.reduceToNat, UInt64.reduceToNat, Int.reduceToNat, d1]))
                obtain rfl : X2 = [] := List.eq_nil_of_length_eq_zero (by omega)
                obtain ⟨r1, r2⟩ := hmc Z1 Y2 z2 z3 sY2 (StP.St.refl _ _)
                refine ⟨_, _, _, (by simp (disch := (first | assumption | omega | (simp only [lenS, lenT, UInt64.reduceToNat]; try omega))) only [↓Sx.S0, Sx.S1, Tryd.fx, uOE_1, Nat.reduceAdd, Nat.reducePow, Int.reducePow, Nat.reduceBEq, ↓reduceIte, UInt8.reduceToNat, UInt16.reduceToNat, UInt32.reduceToNat, UInt64.reduceToNat, Int.reduceToNat]; rfl), rfl, trivial, ?_⟩
                exact ⟨rfl, Z1 ++ Y2, by simp only [List.append_assoc, List.nil_append], by rw [List.length_append]; omega, r1, r2⟩
end Go.Proofs
end
section
open Go Go.Proofs Go.Sx Go.StP
namespace Go.Proofs
set_option maxRecDepth 10000
set_option maxHeartbeats 4000000
set_option linter.unusedSimpArgs false
/-- Sorted runs of k each. -/
def Blks (k : Nat) (ls : List (List EntL)) : Prop := ∀ x, x ∈ ls → x.length = k ∧ SortedE x
theorem Blks.snoc {k : Nat} {ls : List (List EntL)} {x : List EntL} (h : Blks k ls) (hx : x.length = k) (hs : SortedE x) : Blks k (ls ++ [x]) := by
  intro y hy
  rcases List.mem_append.1 hy with hy | hy
  · exact h y hy
  · rw [List.mem_singleton] at hy; subst hy; exact ⟨hx, hs⟩
structure StG where
  k : Nat
  ls : List (List EntL)
  r : List EntL
structure StH where
  l2 : List (List EntL)
  ls : List (List EntL)
theorem stable_spec (rb n c : Nat) (d : List EntL) (rest : List Value) (w : World) (hn : n = d.length) (hs : n < 1000000)
    (ho : w.heap[rb]? = some (entO rest d)) :
    Rets Tryd.prog 152 #[vsl rb 0 n c, vi n, lessV] w (fun v D => ∃ o, D = [(rb, o)] ∧ v = .tuple #[] ∧ ∃ Z, o = entO rest Z ∧ Z.length = d.length ∧ SortedE Z ∧ StE d Z) := by
  refine Rets.enterM Tryd.func152 rfl (rs := []) Tryd.results152 Tryd.ntmps152 ho ?_
  simp only [List.size_toArray, List.length_cons, List.length_nil, Nat.reduceAdd, Nat.reduceSub, List.replicate_succ, List.replicate_zero, List.cons_append, List.nil_append]
  ((try with_reducible refine Cw.go [1000006] ?_); (try simp (disch := (first | assumption | omega | (simp only [lenS, lenT, UInt64.reduceToNat]; try omega))) only [↓Sx.S0, Sx.S1, Tryd.fx, Nat.reduceAdd, Nat.reducePow, Int.reducePow, Nat.reduceBEq, ↓reduceIte, UInt8.reduceToNat, UInt16.reduceToNat, UInt32.reduceToNat, UInt64.reduceToNat, Int.reduceToNat]))
  refine Cw.loopG (G := StG) [11, 12, 13, 14, 15, 16, 17, 18, 19, 7, 20, 21, 22, 8] (fun g => [(7, vi g.ls.flatten.length), (8, vi (g.ls.flatten.length + 20 : Nat))]) (fun g => [(rb, entO rest (g.ls.flatten ++ g.r))]) (fun g => Blks 20 g.ls ∧ StE d (g.ls.flatten ++ g.r) ∧ g.ls.flatten.length + g.r.length = n) (fun g => g.r.length) ⟨20, [], d⟩ rfl rfl ?_ ?_
  · refine ⟨fun x hx => ?_, StP.St.refl _ _, by show 0 + d.length = n; omega⟩
    exact absurd hx (by simp)
  · intro g j hg
    simp only [overFrom, pin, setF_0, setF_s, List.contains_cons, List.contains_nil, Nat.reduceBEq, Bool.or_false, Bool.false_or, Bool.or_true, Bool.true_or, Nat.reduceAdd, ↓reduceIte, Bool.false_eq_true]
    obtain ⟨_, ls, r⟩ := g
    obtain ⟨h1, h2, h3⟩ := hg
    dsimp only at h1 h2 h3 ⊢
    by_cases hb : ls.flatten.length + 20 ≤ n
    · obtain ⟨M, R, rfl, hM⟩ := cut_at r (show 20 ≤ r.length by omega)
      rw [List.length_append] at h3
      ((try with_reducible refine Cw.go [] ?_); (try simp (disch := (first | assumption | omega | (simp only [lenS, lenT, UInt64.reduceToNat]; try omega))) only [↓Sx.S0, Sx.S1, Tryd.fx, Nat.reduceAdd, Nat.reducePow, Int.reducePow, Nat.reduceBEq, ↓reduceIte, UInt8.reduceToNat, UInt16.reduceToNat, UInt32.reduceToNat, UInt64.reduceToNat, Int.reduceToNat]))
      refine Ow.callE rfl rfl Tryd.call171 (by simp [keys]) (fun w' hw' => insertion_spec rb n c ls.flatten M R rest ls.flatten.length (ls.flatten.length + 20) w' rfl (by omega) (by omega) hs (hw'.has _ _ List.mem_cons_self)) (fun v1 o1 hS1 => ?_)
      obtain ⟨rfl, M', rfl, l1, s1, t1⟩ := hS1
      refine Ow.go rfl ?_
      simp (disch := (first | assumption | omega | (simp only [lenS, lenT, UInt64.reduceToNat]; try omega))) only [↓Sx.S0, Sx.S1, Tryd.fx, Nat.reduceAdd, Nat.reducePow, Int.reducePow, Nat.reduceBEq, ↓reduceIte, UInt8.reduceToNat, UInt16.reduceToNat, UInt32.reduceToNat, UInt64.reduceToNat, Int.reduceToNat]
      have e1 : (ls ++ [M']).flatten = ls.flatten ++ M' := by simp
      refine Again.mk ⟨20, ls ++ [M'], R⟩ (by show R.length < (M ++ R).length; rw [List.length_append]; omega) ⟨h1.snoc (by omega) s1, ?_, ?_⟩ ?_ ?_
      · show StE d ((ls ++ [M']).flatten ++ R)
        rw [e1, List.append_assoc]
        exact h2.trans (StP.St.app (StP.St.refl _ _) (StP.St.app t1 (StP.St.refl _ _)))
      · show (ls ++ [M']).flatten.length + R.length = n
        rw [e1, List.length_append]; omega
      · rw [e1, List.append_assoc]
      · dsimp only
        rw [e1, show (ls.flatten ++ M').length = ls.flatten.length + 20 by rw [List.length_append]; omega]
        rfl
    · ((try with_reducible refine Cw.go [] ?_); (try simp (disch := (first | assumption | omega | (simp only [lenS, lenT, UInt64.reduceToNat]; try omega))) only [↓Sx.S0, Sx.S1, Tryd.fx, Nat.reduceAdd, Nat.reducePow, Int.reducePow, Nat.reduceBEq, ↓reduceIte, UInt8.reduceToNat, UInt16.reduceToNat, UInt32.reduceToNat, UInt64.reduceToNat, Int.reduceToNat]))
      have e0 : ls.flatten ++ r = ls.flatten ++ (r ++ []) := by rw [List.append_nil]
      rw [e0]
      ((try with_reducible refine Cw.go [1000007] ?_); (try simp (disch := (first | assumption | omega | (simp only [lenS, lenT, UInt64.reduceToNat]; try omega))) only [↓Sx.S0, Sx.S1, Tryd.fx, Nat.reduceAdd, Nat.reducePow, Int.reducePow, Nat.reduceBEq, ↓reduceIte, UInt8.reduceToNat, UInt16.reduceToNat, UInt32.reduceToNat, UInt64.reduceToNat, Int.reduceToNat]))
      refine Ow.callE rfl rfl Tryd.call171 (by simp [keys]) (fun w' hw' => insertion_spec rb n c ls.flatten r [] rest ls.flatten.length n w' rfl (by omega) (by simp) hs (hw'.has _ _ List.mem_cons_self)) (fun v1 o1 hS1 => ?_)
      obtain ⟨rfl, r', rfl, l1, s1, t1⟩ := hS1
      rw [show r' ++ [] = r' from List.append_nil r']
      refine Ow.go rfl ?_
      simp (disch := (first | assumption | omega | (simp only [lenS, lenT, UInt64.reduceToNat]; try omega))) only [↓Sx.S0, Sx.S1, Tryd.fx, Nat.reduceAdd, Nat.reducePow, Int.reducePow, Nat.reduceBEq, ↓reduceIte, UInt8.reduceToNat, UInt16.reduceToNat, UInt32.reduceToNat, UInt64.reduceToNat, Int.reduceToNat]
      refine Cw.loopG (G := StG) [28, 29, 30, 31, 32, 7, 8, 33, 34, 35, 36, 37, 38, 39, 40, 41, 42, 43, 44, 45, 46, 47, 48, 49, 50, 51, 9, 52, 53, 54, 55, 56, 57, 58, 59, 60, 61, 62, 6] (fun g => [(6, vi g.k)]) (fun g => [(rb, entO rest (g.ls.flatten ++ g.r))]) (fun g => 0 < g.k ∧ Blks g.k g.ls ∧ SortedE g.r ∧ g.r.length < g.k ∧ StE d (g.ls.flatten ++ g.r) ∧ g.ls.flatten.length + g.r.length = n) (fun g => n - g.k) ⟨20, ls, r'⟩ rfl rfl ?_ ?_
      · exact ⟨by show 0 < 20; omega, h1, s1, by show r'.length < 20; omega, h2.trans (StP.St.app (StP.St.refl _ _) t1), by show ls.flatten.length + r'.length = n; omega⟩
      · intro g j hg
        simp only [overFrom, pin, setF_0, setF_s, List.contains_cons, List.contains_nil, Nat.reduceBEq, Bool.or_false, Bool.false_or, Bool.or_true, Bool.true_or, Nat.reduceAdd, ↓reduceIte, Bool.false_eq_true]
        clear h1 h2 h3 hb e0 l1 s1 t1
        obtain ⟨k, ls, r⟩ := g
        obtain ⟨h0, h1, h2, h3, h4, h5⟩ := hg
        dsimp only at h0 h1 h2 h3 h4 h5 ⊢
        by_cases hk : k < n
        · have e1 : 2 * (k : Int) = ((2 * k : Nat) : Int) := by omega
          ((try with_reducible refine Cw.go [1000013] ?_); (try simp (disch := (first | assumption | omega | (simp only [lenS, lenT, UInt64.reduceToNat]; try omega))) only [↓Sx.S0, Sx.S1, Tryd.fx, Nat.reduceAdd, Nat.reducePow, Int.reducePow, Nat.reduceBEq, ↓reduceIte, UInt8.reduceToNat, UInt16.reduceToNat, UInt32.reduceToNat, UInt64.reduceToNat, Int.reduceToNat, e1]))
          refine Cw.loopG (G := StH) [33, 34, 35, 36, 37, 38, 39, 40, 41, 42, 43, 44, 7, 45, 46, 47, 48, 8] (fun g => [(7, vi g.l2.flatten.length), (8, vi (2 * k + g.l2.flatten.length : Nat))]) (fun g => [(rb, entO rest (g.l2.flatten ++ (g.ls.flatten ++ r)))]) (fun g => Blks (2 * k) g.l2 ∧ Blks k g.ls ∧ StE d (g.l2.flatten ++ (g.ls.flatten ++ r)) ∧ g.l2.flatten.length + (g.ls.flatten.length + r.length) = n) (fun g => g.ls.length) ⟨[], ls⟩ rfl rfl ?_ ?_
          · refine ⟨fun x hx => ?_, h1, h4, by show 0 + (ls.flatten.length + r.length) = n; omega⟩
            exact absurd hx (by simp)
          · clear h1 h4 h5
            intro g j hg
            simp only [overFrom, pin, setF_0, setF_s, List.contains_cons, List.contains_nil, Nat.reduceBEq, Bool.or_false, Bool.false_or, Bool.or_true, Bool.true_or, Nat.reduceAdd, ↓reduceIte, Bool.false_eq_true]
            obtain ⟨l2, ls⟩ := g
            obtain ⟨g1, g2, g3, g4⟩ := hg
            dsimp only at g1 g2 g3 g4 ⊢
            by_cases hb : 2 * k + l2.flatten.length ≤ n
            · have hls : ∃ x y t, ls = x :: y :: t := by
                cases ls with
                | nil => rw [List.flatten_nil, List.length_nil] at g4; omega
                | cons x t =>
                  have hx := (g2 x List.mem_cons_self).1
                  cases t with
                  | nil => rw [List.flatten_cons, List.flatten_nil, List.append_nil] at g4; omega
                  | cons y t => exact ⟨x, y, t, rfl⟩
              obtain ⟨x, y, t, rfl⟩ := hls
              have hx := g2 x List.mem_cons_self
              have hy := g2 y (by simp)
              have ht : Blks k t := fun u hu => g2 u (by simp [hu])
              rw [List.flatten_cons, List.flatten_cons] at g3 g4
              simp only [List.length_append, List.append_assoc] at g3 g4
              have e2 : (x :: y :: t).flatten ++ r = x ++ (y ++ (t.flatten ++ r)) := by simp
              rw [e2]
              have e3 : (l2.flatten.length : Int) + (k : Int) = ((l2.flatten.length + k : Nat) : Int) := by omega
              ((try with_reducible refine Cw.go [] ?_); (try simp (disch := (first | assumption | omega | (simp only [lenS, lenT, UInt64.reduceToNat]; try omega))) only [↓Sx.S0, Sx.S1, Tryd.fx, Nat.reduceAdd, Nat.reducePow, Int.reducePow, Nat.reduceBEq, ↓reduceIte, UInt8.reduceToNat, UInt16.reduceToNat, UInt32.reduceToNat, UInt64.reduceToNat, Int.reduceToNat, e3]))
              refine Ow.callE rfl rfl Tryd.call172 (by simp [keys]) (fun w' hw' => symMerge_spec (2 * k) rb n c l2.flatten x y (t.flatten ++ r) rest l2.flatten.length (l2.flatten.length + k) (2 * k + l2.flatten.length) w' rfl (by omega) (by omega) (by rw [List.length_append]; omega) hs hx.2 hy.2 (by omega) (by omega) (by omega) (hw'.has _ _ List.mem_cons_self)) (fun v1 o1 hS1 => ?_)
              obtain ⟨rfl, Z, rfl, z1, z2, z3⟩ := hS1
              have e4 : ((2 * k + l2.flatten.length : Nat) : Int) + ((2 * k : Nat) : Int) = ((2 * k + (l2.flatten.length + 2 * k) : Nat) : Int) := by omega
              refine Ow.go rfl ?_
              simp (disch := (first | assumption | omega | (simp only [lenS, lenT, UInt64.reduceToNat]; try omega))) only [↓Sx.S0, Sx.S1, Tryd.fx, Nat.reduceAdd, Nat.reducePow, Int.reducePow, Nat.reduceBEq, ↓reduceIte, UInt8.reduceToNat, UInt16.reduceToNat, UInt32.reduceToNat, UInt64.reduceToNat, Int.reduceToNat, e1, e4]
              have e5 : (l2 ++ [Z]).flatten = l2.flatten ++ Z := by simp
              have e6 : (l2.flatten ++ Z).length = 2 * k + l2.flatten.length := by rw [List.length_append]; omega
              refine Again.mk ⟨l2 ++ [Z], t⟩ (by show t.length < (x :: y :: t).length; simp only [List.length_cons]; omega) ⟨g1.snoc (by omega) z2, ht, ?_, ?_⟩ ?_ ?_
              · show StE d ((l2 ++ [Z]).flatten ++ (t.flatten ++ r))
                rw [e5, List.append_assoc]
                refine g3.trans (StP.St.app (StP.St.refl _ _) ?_)
                rw [← List.append_assoc]
                exact StP.St.app z3 (StP.St.refl _ _)
              · show (l2 ++ [Z]).flatten.length + (t.flatten.length + r.length) = n
                rw [e5, e6]; omega
              · rw [e5, List.append_assoc]
              · dsimp only
                rw [e5, e6, show l2.flatten.length + 2 * k = 2 * k + l2.flatten.length by omega]
                rfl
            · have e7 : (k : Int) * 2 = ((2 * k : Nat) : Int) := by omega
              have e3 : (l2.flatten.length : Int) + (k : Int) = ((l2.flatten.length + k : Nat) : Int) := by omega
              have hls : ls = [] ∨ ∃ x, ls = [x] := by
                cases ls with
                | nil => exact .inl rfl
                | cons x t =>
                  have hx := (g2 x List.mem_cons_self).1
                  cases t with
                  | nil => exact .inr ⟨x, rfl⟩
                  | cons y t =>
                    have hy := (g2 y (by simp)).1
                    rw [List.flatten_cons, List.flatten_cons, List.length_append, List.length_append] at g4
                    omega
              have fin : ∀ r', (ls.flatten ++ r).length = r'.length → StE (ls.flatten ++ r) r' → StE d (l2.flatten ++ r') ∧ l2.flatten.length + r'.length = n := by
                intro r' hl ht'
                rw [List.length_append] at hl
                exact ⟨g3.trans (StP.St.app (StP.St.refl _ _) ht'), by omega⟩
              rcases hls with rfl | ⟨x, rfl⟩
              · rw [List.flatten_nil, List.length_nil] at g4
                ((try with_reducible refine Cw.go [] ?_); (try simp (disch := (first | assumption | omega | (simp only [lenS, lenT, UInt64.reduceToNat]; try omega))) only [↓Sx.S0, Sx.S1, Tryd.fx, Nat.reduceAdd, Nat.reducePow, Int.reducePow, Nat.reduceBEq, ↓reduceIte, UInt8.reduceToNat, UInt16.reduceToNat, UInt32.reduceToNat, UInt64.reduceToNat, Int.reduceToNat]))
                ((try with_reducible refine Cw.go [] ?_); (try simp (disch := (first | assumption | omega | (simp only [lenS, lenT, UInt64.reduceToNat]; try omega))) only [↓Sx.S0, Sx.S1, Tryd.fx, Nat.reduceAdd, Nat.reducePow, Int.reducePow, Nat.reduceBEq, ↓reduceIte, UInt8.reduceToNat, UInt16.reduceToNat, UInt32.reduceToNat, UInt64.reduceToNat, Int.reduceToNat, e3, e7]))
                obtain ⟨w1, w2⟩ := fin r rfl (StP.St.refl _ _)
                refine Again.mk ⟨2 * k, l2, r⟩ (by show n - 2 * k < n - k; omega) ⟨by show 0 < 2 * k; omega, g1, h2, by show r.length < 2 * k; omega, w1, w2⟩ rfl rfl
              · have hx := g2 x List.mem_cons_self
                rw [List.flatten_cons, List.flatten_nil, List.append_nil] at g4 fin
                rw [List.flatten_cons, List.flatten_nil, List.append_nil]
                by_cases hr : r.length = 0
                · obtain rfl : r = [] := List.eq_nil_of_length_eq_zero hr
                  ((try with_reducible refine Cw.go [] ?_); (try simp (disch := (first | assumption | omega | (simp only [lenS, lenT, UInt64.reduceToNat]; try omega))) only [↓Sx.S0, Sx.S1, Tryd.fx, Nat.reduceAdd, Nat.reducePow, Int.reducePow, Nat.reduceBEq, ↓reduceIte, UInt8.reduceToNat, UInt16.reduceToNat, UInt32.reduceToNat, UInt64.reduceToNat, Int.reduceToNat]))
                  ((try with_reducible refine Cw.go [] ?_); (try simp (disch := (first | assumption | omega | (simp only [lenS, lenT, UInt64.reduceToNat]; try omega))) only [↓Sx.S0, Sx.S1, Tryd.fx, Nat.reduceAdd, Nat.reducePow, Int.reducePow, Nat.reduceBEq, ↓reduceIte, UInt8.reduceToNat, UInt16.reduceToNat, UInt32.reduceToNat, UInt64.reduceToNat, Int.reduceToNat, e3, e7]))
                  obtain ⟨w1, w2⟩ := fin x (by rw [List.append_nil]) (by rw [List.append_nil]; exact StP.St.refl _ _)
                  refine Again.mk ⟨2 * k, l2, x⟩ (by show n - 2 * k < n - k; omega) ⟨by show 0 < 2 * k; omega, g1, hx.2, by show x.length < 2 * k; omega, w1, w2⟩ ?_ rfl
                  rw [List.append_nil]
                · have e8 : x ++ r = x ++ (r ++ []) := by rw [List.append_nil]
                  rw [e8]
                  ((try with_reducible refine Cw.go [] ?_); (try simp (disch := (first | assumption | omega | (simp only [lenS, lenT, UInt64.reduceToNat]; try omega))) only [↓Sx.S0, Sx.S1, Tryd.fx, Nat.reduceAdd, Nat.reducePow, Int.reducePow, Nat.reduceBEq, ↓reduceIte, UInt8.reduceToNat, UInt16.reduceToNat, UInt32.reduceToNat, UInt64.reduceToNat, Int.reduceToNat]))
                  ((try with_reducible refine Cw.go [] ?_); (try simp (disch := (first | assumption | omega | (simp only [lenS, lenT, UInt64.reduceToNat]; try omega))) only [↓Sx.S0, Sx.S1, Tryd.fx, Nat.reduceAdd, Nat.reducePow, Int.reducePow, Nat.reduceBEq, ↓reduceIte, UInt8.reduceToNat, UInt16.reduceToNat, UInt32.reduceToNat, UInt64.reduceToNat, Int.reduceToNat, e3, e7]))
                  refine Ow.callE rfl rfl Tryd.call172 (by simp [keys]) (fun w' hw' => symMerge_spec (2 * k) rb n c l2.flatten x r [] rest l2.flatten.length (l2.flatten.length + k) n w' rfl (by omega) (by omega) (by simp) hs hx.2 h2 (by omega) (by omega) (by omega) (hw'.has _ _ List.mem_cons_self)) (fun v1 o1 hS1 => ?_)
                  obtain ⟨rfl, Z, rfl, z1, z2, z3⟩ := hS1
                  rw [show Z ++ [] = Z from List.append_nil Z]
                  refine Ow.go rfl ?_
                  simp (disch := (first | assumption | omega | (simp only [lenS, lenT, UInt64.reduceToNat]; try omega))) only [↓Sx.S0, Sx.S1, Tryd.fx, Nat.reduceAdd, Nat.reducePow, Int.reducePow, Nat.reduceBEq, ↓reduceIte, UInt8.reduceToNat, UInt16.reduceToNat, UInt32.reduceToNat, UInt64.reduceToNat, Int.reduceToNat, e7]
                  obtain ⟨w1, w2⟩ := fin Z (by rw [List.length_append]; omega) z3
                  refine Again.mk ⟨2 * k, l2, Z⟩ (by show n - 2 * k < n - k; omega) ⟨by show 0 < 2 * k; omega, g1, z2, by show Z.length < 2 * k; omega, w1, w2⟩ rfl rfl
        · ((try with_reducible refine Cw.go [] ?_); (try simp (disch := (first | assumption | omega | (simp only [lenS, lenT, UInt64.reduceToNat]; try omega))) only [↓Sx.S0, Sx.S1, Tryd.fx, Nat.reduceAdd, Nat.reducePow, Int.reducePow, Nat.reduceBEq, ↓reduceIte, UInt8.reduceToNat, UInt16.reduceToNat, UInt32.reduceToNat, UInt64.reduceToNat, Int.reduceToNat]))
          have hZ : SortedE (ls.flatten ++ r) := by
            cases ls with
            | nil => exact h2
            | cons x ls =>
              have hx := h1 x List.mem_cons_self
              rw [List.flatten_cons, List.length_append] at h5
              obtain rfl : r = [] := List.eq_nil_of_length_eq_zero (by omega)
              cases ls with
              | nil => simpa using hx.2
              | cons y ls =>
                have hy := h1 y (by simp)
                rw [List.flatten_cons, List.length_append] at h5
                omega
          have hZl : (ls.flatten ++ r).length = d.length := by rw [List.length_append]; omega
          refine ⟨_, _, _, (by simp (disch := (first | assumption | omega | (simp only [lenS, lenT, UInt64.reduceToNat]; try omega))) only [↓Sx.S0, Sx.S1, Tryd.fx, Nat.reduceAdd, Nat.reducePow, Int.reducePow, Nat.reduceBEq, ↓reduceIte, UInt8.reduceToNat, UInt16.reduceToNat, UInt32.reduceToNat, UInt64.reduceToNat, Int.reduceToNat]; rfl), rfl, trivial, ?_⟩
          exact ⟨rfl, _, rfl, hZl, hZ, h4⟩
end Go.Proofs
end
namespace Go.Sx
open Go
/-- Every function may be called; a round's frame, or none. -/
def wideR (r : Option Nat) : Fence := { Fence.wide with round := r }
def noDefer : Op → Bool
  | .defer _ => false
  | _ => true
section
variable {P : Program} {w0 : World} {f : Fr} {L : Heap} {K : Kont} {N : Fr → Heap → Prop} {ops : Array Oper} {rest : List Oper} {r : Option Nat} {n : Nat}
theorem calls_wideR {k : FuncId} {args : Array Value} {w : World} {R : Ending → World → Prop} (h : Calls P k args w R) : CallsIn (wideR r) n P k args w R :=
  (callsIn_wide.2 h : CallsIn Fence.wide n P k args w R)
theorem rows_wideR {row : String} {args : Array Value} {w : World} {R : Value → World → Prop} (h : Rows P row args w R) : RowsIn (wideR r) n P row args w R :=
  (fun c cs _ => let ⟨v, w', hr, s⟩ := h c cs; ⟨v, w', hr, stepsIn_wide.2 s⟩ : RowsIn Fence.wide n P row args w R)
theorem oper_in {o : Oper} {a : Act} {w : World} {next : Act → World → Prop} {Q : Exit → Act → World → Prop} (hd : noDefer o.op = true) (h : o.wp P a w next Q) : o.wpIn (wideR r) n P a w next Q := by
  refine ⟨fun _ _ => trivial, ?_⟩
  rw [Oper.semAt_eq _ _ _ (fun c e => by rw [e] at hd; cases hd)]
  unfold Oper.wp at h
  generalize (execOp a.eval o).run P w = x at h
  match x, h with
  | .ok (.value v) _, h => exact h
  | .ok .skip _, h => exact h
  | .ok (.defer e) _, h => exact h
  | .ok (.enter k args) w', h =>
    have h' : Calls P k args w' _ := h
    exact ⟨fun (e : false = true) => (by cases e), calls_wideR h'⟩
  | .ok (.row row args) w', h =>
    have h' : Rows P row args w' _ := h
    exact ⟨fun (e : false = true) => (by cases e), rows_wideR h'⟩
  | .halt (.panic u) _, h => exact h
theorem list_in {Q : Exit → Act → World → Prop} {l2 : List Oper} : ∀ (l1 : List Oper) (a : Act) (w : World), (l1.all fun o => noDefer o.op) = true →
    wpList P ops (fun e a w => e = .normal ∧ wpListIn (wideR r) n P ops Q l2 a w) l1 a w → wpListIn (wideR r) n P ops Q (l1 ++ l2) a w
  | [], _, _, _, h => h.2
  | o :: l1, a, w, hd, h => by
    rw [List.cons_append]
    unfold wpList at h
    unfold wpListIn
    rw [List.all_cons, Bool.and_eq_true] at hd
    split at h
    · rename_i hw
      rw [if_pos hw]
      rcases h with h | ⟨-, hl⟩
      · exact oper_in hd.1 (upon_mono (fun a w hx => list_in l1 a w hd.2 hx) (fun e a w hne hq => hne hq.1) h)
      · obtain ⟨_, _, he, -⟩ := hl
        cases he
    · rename_i hw
      rw [if_neg hw]
      exact ⟨fun _ _ => trivial, list_in l1 _ _ hd.2 h⟩
/-- Operations of a region, in a round or not, where yield may be called. -/
def OwI (r : Option Nat) (P : Program) (w0 : World) (ops : Array Oper) (l : List Oper) (f : Fr) (L : Heap) (N : Fr → Heap → Prop) : Prop :=
  ∀ w, Hp w0 L w → wpListIn (wideR r) 0 P ops (postN w0 N) l (act f) w
theorem OwI.nil (h : N f L) : OwI r P w0 ops [] f L N := fun _ hw => ⟨rfl, rfl, L, hw, by simpa [act] using h⟩
theorem OwI.pre {l1 l2 : List Oper} (hd : (l1.all fun o => noDefer o.op) = true) (h : Ow P w0 ops .seq l1 f L (fun f' L' => OwI r P w0 ops l2 f' L' N)) : OwI r P w0 ops (l1 ++ l2) f L N := by
  intro w hw
  refine list_in l1 _ _ hd ?_
  have h1 := h w hw
  have mono : ∀ (l : List Oper) (a : Act) (w : World), wpList P ops (postN w0 (fun f' L' => OwI r P w0 ops l2 f' L' N)) l a w → wpList P ops (fun e a w => e = .normal ∧ wpListIn (wideR r) 0 P ops (postN w0 N) l2 a w) l a w := by
    intro l
    induction l with
    | nil =>
      rintro a w ⟨-, hd', L', hp, hO⟩
      refine ⟨rfl, ?_⟩
      have := hO w hp
      rwa [← act_of hd'] at this
    | cons o l ih =>
      intro a w h
      unfold wpList at h ⊢
      split at h
      · rename_i hw
        rw [if_pos hw]
        rcases h with h | ⟨-, hl⟩
        · exact .inl (upon_mono ih (fun e a w hne hq => hne hq.1) h)
        · obtain ⟨_, _, he, -⟩ := hl
          cases he
      · rename_i hw
        rw [if_neg hw]
        exact ih _ _ h
  exact mono l1 _ _ h1
theorem Ow.mono_seq {l : List Oper} {N' : Fr → Heap → Prop} (h : Ow P w0 ops .seq l f L N) (hN : ∀ f L, N f L → N' f L) : Ow P w0 ops .seq l f L N' := by
  intro w hw
  have h1 := h w hw
  clear h
  revert h1
  generalize act f = a
  clear hw
  induction l generalizing a w with
  | nil => rintro ⟨h1, h2, L', h3, h4⟩; exact ⟨h1, h2, L', h3, hN _ _ h4⟩
  | cons o l ih =>
    intro h
    unfold wpList at h ⊢
    split at h
    · rename_i hw
      rw [if_pos hw]
      rcases h with h | ⟨-, hl⟩
      · exact .inl (upon_mono (fun a w hx => ih w a hx) (fun e a w hne hq => hne hq.1) h)
      · obtain ⟨_, _, he, -⟩ := hl
        cases he
    · rename_i hw
      rw [if_neg hw]
      exact ih _ _ h
theorem OwI.all {l : List Oper} (hd : (l.all fun o => noDefer o.op) = true) (h : Ow P w0 ops .seq l f L N) : OwI r P w0 ops l f L N := by
  have := OwI.pre (r := r) (l2 := []) (N := N) hd (Ow.mono_seq h (fun f L hN => OwI.nil hN))
  simpa using this
theorem Cw.regionI {id : Nat} {l : List Oper} (h : OwI none P w0 l.toArray l f L (K .normal)) : Cw P w0 (.region id l.toArray false) f L K := by
  intro w hw
  have h1 : (Code.region id l.toArray false).wpIn Fence.wide 0 P (postN w0 (K .normal)) (act f) w := wpIn_region_lit (h w hw)
  exact wp_mono (wpIn_wide.1 h1) fun _ _ _ h => postN_post h
theorem run_yieldOp {x y : Operand} {ts : Array TypeId} {l : Nat} {d : Option Tmp} {ty : TypeId} {ps : String} {af : Array Edge} {g : Option (Nat × Bool)} (hx : ev f x = .func (.yield l) #[] #[]) (w : World) :
    (execOp (ev f) ⟨d, .call ⟨.value x, #[y], ts⟩, ty, ps, af, g⟩).run P w = (Instr.yield l #[ev f y]).run P w := by
  simp only [execOp, resolve, hx, Deferred.ofValue, Sem.run_bind, Sem.run_pure, Result.andThen_ok, invoke]
  simp
/-- yield is called: a chunk is handed to the round. -/
theorem OwI.yieldX {x y : Operand} {ts : Array TypeId} {l : Nat} {X Y : Heap} {S : Heap → Prop} {d : Option Tmp} {ty : TypeId} {ps : String} {af : Array Edge} {g : Option (Nat × Bool)} (hL : L = X ++ Y)
    (hs : skipped ops f ⟨d, .call ⟨.value x, #[y], ts⟩, ty, ps, af, g⟩ = false) (hx : ev f x = .func (.yield l) #[] #[])
    (hc : ∀ w, Hp w X w → YieldAt (wideR r) 0 P l #[ev f y] w (fun e w' => ∃ D, e = .returned (.bool true) ∧ Hp w D w' ∧ Ext w X D ∧ S D))
    (hn : ∀ D, Came w0 L X D → S D → OwI r P w0 ops rest (putF f d (.bool true)) (D ++ Y) N) : OwI r P w0 ops (⟨d, .call ⟨.value x, #[y], ts⟩, ty, ps, af, g⟩ :: rest) f L N := by
  subst hL
  intro w hw
  unfold wpListIn
  rw [if_pos (by rw [wanted_eq, hs]; rfl)]
  refine ⟨fun _ _ => trivial, ?_⟩
  rw [Oper.semAt_eq _ _ _ (fun c e => by cases e), act_eval', run_yieldOp hx]
  obtain ⟨fn, tmps, assign, body, hy, hR⟩ := hc w hw.part
  rw [hy]
  refine ⟨fun (e : false = true) => (by cases e), hR.mono ?_⟩
  rintro e w' ⟨D, rfl, hp, hX, hS⟩
  have := hn D ⟨fun c hc => (hX.new c hc).imp id fun h => ⟨above_of fun b hb => Nat.lt_of_lt_of_le (hw.lt hb) h, Nat.le_trans hw.size h⟩, hX.all⟩ hS w' (hw.join hp hX.all hX.new)
  rw [← act_put] at this
  exact this
/-- A code in a round's frame. -/
def CwR (r : Option Nat) (P : Program) (w0 : World) (c : Code) (f : Fr) (L : Heap) (K : Kont) : Prop := ∀ w, Hp w0 L w → c.wpIn (wideR r) 0 P (post w0 K) (act f) w
theorem CwR.region {id : Nat} {l : List Oper} (hd : (l.all fun o => noDefer o.op) = true) (h : Ow P w0 l.toArray .seq l f L (K .normal)) : CwR r P w0 (.region id l.toArray false) f L K :=
  fun w hw => wpIn_mono (wpIn_region_lit (OwI.all hd h w hw)) fun _ _ _ h => postN_post h
theorem CwR.block {id : Nat} {c : Code} (h : CwR r P w0 c f L (blockK id K)) : CwR r P w0 (.block id c) f L K := by
  intro w hw
  refine wpIn_block (wpIn_mono (h w hw) ?_)
  rintro e a w' ⟨hd, L', hp, k⟩
  cases e with
  | exit i =>
    simp only [Exit.inBlock]
    simp only [blockK] at k
    split
    · rename_i e; rw [if_pos e] at k; exact ⟨hd, L', hp, k⟩
    · rename_i e; rw [if_neg e] at k; exact ⟨hd, L', hp, k⟩
  | _ => exact ⟨hd, L', hp, k⟩
theorem Hp.put {w : World} (h : Hp w0 L w) {b : Nat} {o : Obj} (hb : b ∈ keys L) : Hp w0 (setB L b o) (w.putObj b o) := h.set hb rfl rfl rfl rfl
/-- What a round does, by its parts. -/
theorem YieldAt.of {l : Nat} {rc : Loop} {X : Heap} {args : Array Value} {w : World} {r0 : Option Nat} {S : Heap → Prop} (hX : Hp w X w) (hl : look X l = some (.loop rc)) (hr : rc.state = .ready) (hp : rc.pending = none) (hs : args.size = rc.params.size)
    (h : CwR (some l) P w rc.assign ((rc.params.zip args).foldl (fun tmps (p : Tmp × Value) => tmps.setIfInBounds p.1 p.2) rc.tmps).toList X (fun e f1 L1 => e = .normal ∧ look L1 l = some (.loop rc) ∧
      CwR (some l) P w rc.body f1 (setB L1 l (.loop { rc with state := .busy })) (fun e _ L2 => e = .normal ∧ look L2 l = some (.loop { rc with state := .busy }) ∧ S (setB L2 l (.loop rc))))) :
    YieldAt (wideR r0) 0 P l args w (fun e w' => ∃ D, e = .returned (.bool true) ∧ Hp w D w' ∧ S D) := by
  obtain ⟨st, pe, fn0, tm, pa, asg, bo, de⟩ := rc
  obtain rfl : st = .ready := hr
  obtain rfl : pe = none := hp
  have hl0 := hX.has _ _ (look_mem hl)
  refine ⟨fn0, _, asg, bo, run_yield hl0 hs, roundIn_of_wpIn (F := wideR r0) (n := 0) trivial ?_⟩
  have h1 := h w hX
  have ea : act ((pa.zip args).foldl (fun tmps (p : Tmp × Value) => tmps.setIfInBounds p.1 p.2) tm).toList = { tmps := (pa.zip args).foldl (fun tmps (p : Tmp × Value) => tmps.setIfInBounds p.1 p.2) tm, defers := [] } := by
    simp [act]
  simp only at h1
  rw [ea] at h1
  refine wpIn_mono h1 ?_
  rintro e a1 w1 ⟨hd1, L1, hp1, rfl, hl1, hbody⟩
  have hb1 := run_beginRound (P := P) (hp1.has _ _ (look_mem hl1)) rfl
  refine ⟨_, hb1, ?_⟩
  have h2 := hbody _ (hp1.put (o := .loop { state := .busy, pending := none, fn := fn0, tmps := tm, params := pa, assign := asg, body := bo, defers := de }) (key_of_look hl1))
  rw [← act_of hd1] at h2
  refine wpIn_mono h2 ?_
  rintro e a2 w2 ⟨hd2, L2, hp2, rfl, hl2, hS⟩
  have he := run_endRound (P := P) none (hp2.has _ _ (look_mem hl2))
  exact ⟨_, _, he, _, rfl, hp2.put (key_of_look hl2), hS⟩
/-! ### With a mark among the deferred calls -/
def postD (ds : List Deferred) (w0 : World) (K : Kont) (e : Exit) (a : Act) (w : World) : Prop := a.defers = ds ∧ ∃ L, Hp w0 L w ∧ K e a.tmps.toList L
def CwE (ds : List Deferred) (P : Program) (w0 : World) (c : Code) (f : Fr) (L : Heap) (K : Kont) : Prop := ∀ w, Hp w0 L w → c.wp P (postD ds w0 K) ⟨f.toArray, ds⟩ w
theorem CwE.seq {ds : List Deferred} {x y : Code} (h : CwE ds P w0 x f L (thenK (fun f L => CwE ds P w0 y f L K) K)) : CwE ds P w0 (.seq x y) f L K := by
  intro w hw
  refine wp_seq (wp_mono (h w hw) ?_)
  rintro e a w' ⟨hd, L', hp, k⟩
  cases e with
  | normal =>
    have := k w' hp
    have ea : a = ⟨a.tmps.toList.toArray, ds⟩ := by cases a; simp only at hd; subst hd; simp
    rw [ea]
    exact this
  | _ => exact ⟨hd, L', hp, k⟩
theorem CwE.ret {ds : List Deferred} (h : K .ret f L) : CwE ds P w0 .ret f L K := fun _ hw => wp_ret ⟨rfl, L, hw, by simpa using h⟩
/-- Values, one by one. -/
def evVs (P : Program) (w0 : World) (L : Heap) : List Oper → Fr → Option Fr
  | [], f => some f
  | o :: r, f => match o.guard, evalV P w0 L f o.op with
    | none, some v => evVs P w0 L r (putF f o.dst v)
    | _, _ => none
theorem evVs_sound {ds : List Deferred} {Q : Exit → Act → World → Prop} {w : World} (hw : Hp w0 L w) : ∀ (l : List Oper) (f f' : Fr), evVs P w0 L l f = some f' → Q .normal ⟨f'.toArray, ds⟩ w → wpList P ops Q l ⟨f.toArray, ds⟩ w
  | [], f, f', h, hQ => by cases h; exact hQ
  | o :: l, f, f', h, hQ => by
    unfold evVs at h
    split at h
    · rename_i v hg hv
      unfold wpList
      have hwn : Region.wanted o (yielded ops (⟨f.toArray, ds⟩ : Act).tmps) = true := by unfold Region.wanted; rw [hg]
      rw [if_pos hwn]
      refine .inl ?_
      unfold Oper.wp
      have he : (⟨f.toArray, ds⟩ : Act).eval = ev f := by
        have := act_eval' f
        funext x
        exact (congrFun this x)
      rw [he, run_evalV hw hv]
      have hp : (⟨f.toArray, ds⟩ : Act).put o.dst v = ⟨(putF f o.dst v).toArray, ds⟩ := by
        have := act_put f o.dst v
        cases hd : o.dst with
        | none => rfl
        | some d => simp only [Act.put, putF, setF_eq]
      show wpList P ops Q l ((⟨f.toArray, ds⟩ : Act).put o.dst v) w
      rw [hp]
      exact evVs_sound hw l _ f' h hQ
    · cases h
theorem CwE.region {ds : List Deferred} {id : Nat} {l : List Oper} {f' : Fr} (h : evVs P w0 L l f = some f') (hk : K .normal f' L) : CwE ds P w0 (.region id l.toArray false) f L K :=
  fun w hw => wp_region_lit (evVs_sound hw l f f' h ⟨rfl, L, hw, by simpa using hk⟩)
theorem Gr.at_ {L : Heap} {E : TypeId} {m n : Nat} {v : Value} {cs : List Value} (h : Gr L E m v n cs) {b : Nat} (hb : slB v = some b) : ∃ a, look L b = some (.cells a E (0, 0)) := by
  rcases h with h | ⟨rfl, rfl, c, rfl, hl⟩
  · rcases h.inv with ⟨rfl, -, -⟩ | ⟨c, cc, rest, rfl, hl, -⟩
    · cases hb
    · have : c = b := by simpa [slB, vsl] using hb
      subst this; exact ⟨_, hl⟩
  · have : c = b := by simpa [slB, vsl] using hb
    subst this; exact ⟨_, hl⟩
theorem Gr.ne {L : Heap} {E : TypeId} {m n : Nat} {v : Value} {cs : List Value} (h : Gr L E m v n cs) {b : Nat} {o : Obj} (hl : look L b = some o) (ho : ∀ a, o ≠ .cells a E (0, 0)) : slB v ≠ some b := fun e => by
  obtain ⟨a, ha⟩ := h.at_ e
  rw [hl] at ha
  exact ho a (Option.some.inj ha)
theorem Gr.setB {L : Heap} {E : TypeId} {m n : Nat} {v : Value} {cs : List Value} (h : Gr L E m v n cs) {b : Nat} (hb : slB v ≠ some b) (x : Obj) : Gr (setB L b x) E m v n cs :=
  h.keep fun c o hc ho => by rw [look_setB_ne (fun e : b = c => hb (by rw [e]; exact hc))]; exact ho
theorem fold1 (p : Tmp) (v : Value) (tm : Array Value) : ((#[p] : Array Tmp).zip #[v]).foldl (fun t (q : Tmp × Value) => t.setIfInBounds q.1 q.2) tm = tm.setIfInBounds p v := by simp
/-- The loop's record. -/
def recR (fn : FuncId) (f : Fr) (ps : Array Tmp) (assign body : Code) (dk : Nat) (st : LoopState) : Loop := { state := st, pending := none, fn, tmps := f.toArray, params := ps, assign, body, defers := dk }
theorem wp_rangeF {g : Operand} {ps : Array Tmp} {assign body : Code} {Q : Exit → Act → World → Prop} {gf : Nat} {lb : Array Value} {S : Nat → Heap → Prop} {w : World} (hw : Hp w0 L w) (hg : ev f g = .func (.func gf) #[] lb) (eg : ∀ args w, (callFunc gf args).run P w = .ok (.enter gf args) w)
    (hcall : ∀ fn dk w1 rc, rc = recR fn f ps assign body dk .ready → Above L dk → w0.heap.size ≤ dk → Hp w0 (L ++ [(dk, .deferred (some [])), (dk + 1, .loop rc)]) w1 →
      Rets P gf (#[.func (.yield (dk + 1)) #[] #[]] ++ lb) w1 (XS w1 (L ++ [(dk, .deferred (some [])), (dk + 1, .loop rc)]) (fun _ D => look D (dk + 1) = some (.loop rc) ∧ S dk D)))
    (hnext : ∀ dk fn D w3 rc, look D (dk + 1) = some (.loop rc) → Above L dk → w0.heap.size ≤ dk → S dk D → Ext w0 L D → Hp w0 (setB D (dk + 1) (.loop (recR fn f ps assign body dk .exhausted))) w3 → Q .normal ⟨f.toArray, [{ target := .collected dk, args := #[] }]⟩ w3) :
    (Code.rangeFunc g ps assign body).wp P Q (act f) w := by
  refine wpIn_wide (n := 0) |>.1 (wpIn_rangeFunc ?_)
  intro fn _
  have hw1 : Hp w0 (L ++ [(w.heap.size, .deferred (some [])), (w.heap.size + 1, .loop (recR fn f ps assign body w.heap.size .ready))]) ((w.alloc (.deferred (some []))).alloc (.loop (recR fn f ps assign body w.heap.size .ready))) := by
    have h1 := hw.alloc (.deferred (some []))
    have h2 := h1.alloc (.loop (recR fn f ps assign body w.heap.size .ready))
    rw [World.size_alloc, List.append_assoc] at h2
    exact h2
  have hab : Above L w.heap.size := above_of fun b hb => hw.lt hb
  obtain ⟨W1, hW1⟩ : ∃ W1, ((w.alloc (.deferred (some []))).alloc (.loop (recR fn f ps assign body w.heap.size .ready))) = W1 := ⟨_, rfl⟩
  have hent : (Instr.enterLoop fn (act f).tmps ps assign body Fence.wide.round).run P w = .ok (w.heap.size + 1, [{ target := .collected w.heap.size, args := #[] }]) W1 := by
    rw [← hW1]; exact run_enterLoop_outer fn _ _ _ _
  rw [hW1] at hw1
  refine ⟨w.heap.size + 1, [{ target := .collected w.heap.size, args := #[] }], W1, { target := .fn (.func gf) lb, args := #[.func (.yield (w.heap.size + 1)) #[] #[]] }, W1, gf, #[.func (.yield (w.heap.size + 1)) #[] #[]] ++ lb, W1, hent, ?_, fun _ _ => trivial, ?_, fun (e : false = true) => (by cases e), ?_⟩
  · have hg' : (act f).eval g = .func (.func gf) #[] lb := by rw [act_eval]; exact hg
    simp only [resolve, hg']
    simp [go_sem]
  · simp [invoke, go_sem, eg]
  · refine callsIn_wide.2 (Calls.mono (hcall fn w.heap.size _ _ rfl hab hw.size hw1) ?_)
    rintro e w2 ⟨v, D, rfl, hp, hX, hl, hS⟩
    have hD : Hp w0 D w2 := by
      have := Hp.join (Y := []) (by simpa using hw1) hp hX.all hX.new
      simpa using this
    have he := run_endLoop (P := P) (hD.has _ _ (look_mem hl)) (by simp [recR])
    refine ⟨none, _, he, ?_⟩
    have h3 := hD.put (o := .loop (recR fn f ps assign body w.heap.size .exhausted)) (key_of_look hl)
    refine hnext w.heap.size fn D _ _ hl hab hw.size hS ⟨fun c hc => ?_, fun c hc => hX.all c (by rw [keys_app]; exact List.mem_append_left _ hc)⟩ h3
    rcases hX.new c hc with h | h
    · rw [keys_app, List.mem_append] at h
      rcases h with h | h
      · exact .inl h
      · simp [keys] at h
        have := hw.size
        exact .inr (by omega)
    · have := hw1.size
      exact .inr (by omega)
theorem wp_preC {x y : Code} {Q : Exit → Act → World → Prop} {w : World} (hw : Hp w0 L w) (h : Cw P w0 x f L (fun e f' L' => e = .normal ∧ ∀ w', Hp w0 L' w' → y.wp P Q (act f') w')) : (Code.seq x y).wp P Q (act f) w := by
  refine wp_seq (wp_mono (h w hw) ?_)
  rintro e a w' ⟨hd, L', hp, rfl, k⟩
  have := k w' hp
  rw [← act_of hd] at this
  exact this
/-- An iterator over some elements: whatever is done at each of them. -/
def SeqOk (P : Program) (gf : Nat) (lb : Array Value) {α : Type} (enc : α → Value) (xs : List α) (w : World) : Prop :=
  ∀ (l : Nat) (J : List α → Heap → Prop) (w1 : World) (X : Heap), (∀ b, b < w.heap.size → w1.heap[b]? = w.heap[b]?) → (∀ b, b ∈ keys X → w.heap.size ≤ b) → w.heap.size ≤ w1.heap.size → Hp w1 X w1 → J [] X → (∀ pre X Y, J pre X → J pre (X ++ Y)) →
    (∀ pre x post X2 w2, xs = pre ++ x :: post → Hp w2 X2 w2 → (∀ b, b ∈ keys X2 → w.heap.size ≤ b) → J pre X2 → YieldAt (wideR none) 0 P l #[enc x] w2 (fun e w3 => ∃ D, e = .returned (.bool true) ∧ Hp w2 D w3 ∧ Ext w2 X2 D ∧ J (pre ++ [x]) D)) →
    Rets P gf (#[.func (.yield l) #[] #[]] ++ lb) w1 (XS w1 X (fun _ D => J xs D))
/-- A function's contract, where its body holds a range over a function. -/
theorem Rets.enterR {k : FuncId} {fn : Func} {c : Code} {rs : List ResultVar} {args : Array Value} {w : World} {S : Value → Heap → Prop} {m : Nat}
    (hf : P.funcs[k]? = some fn) (hb : fn.body = some c) (hr : fn.results = rs.toArray) (hn : fn.ntmps = m)
    (h : c.wp P (fun e a w' => (e = .normal ∨ e = .ret) ∧ ∃ dk, a.defers = [{ target := .collected dk, args := #[] }] ∧ ∃ L, Hp w L w' ∧ look L dk = some (.deferred (some [])) ∧ ∃ vs, resVs P w (setB L dk (.deferred none)) a.tmps.toList rs = some vs ∧ S (tupV vs) (setB L dk (.deferred none)))
      (act (args.toList ++ List.replicate (m - args.size) undef)) w) : Rets P k args w S := by
  refine callsIn_wide (n := 0) |>.1 (callsIn_of_wp_marks hf hb trivial ?_)
  have ea : ({ tmps := args ++ Array.replicate (fn.ntmps - args.size) undef, defers := [] } : Act) = act (args.toList ++ List.replicate (m - args.size) undef) := by
    rw [hn]; simp [act]
  rw [ea]
  refine wpIn_wide.2 (wp_mono h ?_)
  rintro e a w' ⟨he, dk, hd, L, hp, hl, vs, hv, hS⟩
  have hp' : Hp w (setB L dk (.deferred none)) (w'.putObj dk (.deferred none)) := hp.put (key_of_look hl)
  have key : LeavesInM Fence.wide 0 P fn a.tmps (fun e w' => ∃ v D, e = .returned v ∧ Hp w D w' ∧ S v D) a.defers .returning w' := by
    rw [hd]
    refine ⟨by simp, .inl ⟨dk, _, rfl, run_takeDeferred (hp.has _ _ (look_mem hl)), ?_⟩⟩
    have ha : (act a.tmps.toList).tmps = a.tmps := by simp [act]
    have hres := run_results hr hp' hv
    rw [ha] at hres
    exact ⟨_, hres, _, _, rfl, hp', hS⟩
  rcases he with rfl | rfl
  · exact key
  · exact key
end
end Go.Sx
section
open Go Go.Proofs Go.Sx Go.StP
namespace Go.Proofs
set_option maxRecDepth 10000
set_option maxHeartbeats 4000000
set_option linter.unusedSimpArgs false
abbrev EntS (w : World) (v : Value) (l : List EntL) : Prop := SlV 34 entC ent0 w v l
/-! ### slices.Values -/
theorem Values_spec (v : Value) (w : World) (hv : Value.oneCell' v = true ∧ v.cells = #[v]) :
    Rets Tryd.prog 97 #[v] w (fun v' D => ∃ b1, w.heap.size ≤ b1 ∧ v' = .func (.func 127) #[] #[vp b1 0] ∧ D = [(b1, .cells #[v] 49 (0, 0))]) := by
  refine Rets.enter Tryd.func97 rfl (rs := [.tmp 2]) Tryd.results97 Tryd.ntmps97 ?_
  simp only [List.size_toArray, List.length_cons, List.length_nil, Nat.reduceAdd, Nat.reduceSub, List.replicate_succ, List.replicate_zero, List.cons_append, List.nil_append]
  ((try with_reducible refine Cw.go [] ?_); (try simp (disch := (first | assumption | omega | (simp only [lenS, lenT, UInt64.reduceToNat]; try omega))) only [↓Sx.S0, Sx.S1, Tryd.fx, Nat.reduceAdd, Nat.reducePow, Int.reducePow, Nat.reduceBEq, ↓reduceIte, UInt8.reduceToNat, UInt16.reduceToNat, UInt32.reduceToNat, UInt64.reduceToNat, Int.reduceToNat]))
  refine Ow.box rfl rfl fun b1 hb1 hw1 => ?_
  simp only [ev_tmp, getF_0, hv.2, List.nil_append]
  refine Ow.go rfl ?_
  simp (disch := (first | assumption | omega | (simp only [lenS, lenT, UInt64.reduceToNat]; try omega))) only [↓Sx.S0, Sx.S1, Tryd.fx, Nat.reduceAdd, Nat.reducePow, Int.reducePow, Nat.reduceBEq, ↓reduceIte, UInt8.reduceToNat, UInt16.reduceToNat, UInt32.reduceToNat, UInt64.reduceToNat, Int.reduceToNat]
  refine ⟨_, (by simp (disch := (first | assumption | omega | (simp only [lenS, lenT, UInt64.reduceToNat]; try omega))) only [↓Sx.S0, Sx.S1, Tryd.fx, Nat.reduceAdd, Nat.reducePow, Int.reducePow, Nat.reduceBEq, ↓reduceIte, UInt8.reduceToNat, UInt16.reduceToNat, UInt32.reduceToNat, UInt64.reduceToNat, Int.reduceToNat]; rfl), ?_⟩
  exact ⟨b1, hw1, by simp [tupV, ev, getF], rfl⟩
theorem readB_app_new (w0 : World) {L : Heap} {b : Nat} {o : Obj} (h : Above L b) : readB w0 (L ++ [(b, o)]) b = some o := read_look (look_new h)
structure ValG where
  k : Nat
  X : Heap
set_option linter.defProp false
def uOG_1 := And.intro (And.intro (@load_entR) (@store_entR)) (And.intro (@load_ent) (And.intro (@store_entr) (@cells_ent)))
theorem Values1_seq (b1 : Nat) (v : Value) (ls : List EntL) (w : World) (hv : EntS w v ls) (hb : w.heap[b1]? = some (.cells #[v] 49 (0, 0))) (hls : ls.length < 1000000) :
    SeqOk Tryd.prog 127 #[vp b1 0] (fun x => .agg (entC x).toArray) ls w := by
  intro l J w1 X hold hX hsz hp hJ0 hJm hY
  have hb1 := (Array.getElem?_eq_some_iff.1 hb).1
  obtain ⟨b, off, arr, E, fz, hr⟩ := hv.row
  have rd : ∀ X', Ext w1 X X' → ∀ c, c < w.heap.size → readB w1 X' c = w.heap[c]? := fun X' hE c hc => by
    rw [read_none (hE.not (Nat.lt_of_lt_of_le hc hsz) (fun hm => by have := hX c hm; omega)), hold c hc]
  have r1 : readB w1 X b1 = some (.cells #[v] 49 (0, 0)) := by rw [rd X (Ext.refl _ _) b1 hb1, hb]
  have ld1 : loadV (some (false, 1)) (some (.cells #[v] 49 (0, 0))) 0 = some v := rfl
  have ln := hv.len
  show Rets Tryd.prog _ #[.func (.yield l) #[] #[], vp b1 0] w1 (XS w1 X (fun _ D => J ls D))
  refine Rets.enterX Tryd.func127 rfl (rs := []) Tryd.results127 Tryd.ntmps127 (fun p hp' => hp.has _ _ hp') hp.nodup ?_
  simp only [List.size_toArray, List.length_cons, List.length_nil, Nat.reduceAdd, Nat.reduceSub, List.replicate_succ, List.replicate_zero, List.cons_append, List.nil_append]
  ((try with_reducible refine Cw.go [] ?_); (try simp (disch := (first | assumption | omega | (simp only [lenS, lenT, UInt64.reduceToNat]; try omega))) only [↓Sx.S0, Sx.S1, Tryd.fx, uOG_1, Nat.reduceAdd, Nat.reducePow, Int.reducePow, Nat.reduceBEq, ↓reduceIte, UInt8.reduceToNat, UInt16.reduceToNat, UInt32.reduceToNat, UInt64.reduceToNat, Int.reduceToNat, r1, ld1, ln]))
  refine Cw.loopG (G := ValG) [8, 9, 10, 4, 11, 12, 13, 14, 15, 7] (fun g => [(7, vi g.k)]) (fun g => g.X) (fun g => g.k ≤ ls.length ∧ J (ls.take g.k) g.X ∧ Ext w1 X g.X) (fun g => ls.length - g.k) ⟨0, X⟩ rfl rfl ?_ ?_
  · exact ⟨Nat.zero_le _, hJ0, Ext.refl _ _⟩
  · intro g j hg
    simp only [overFrom, pin, setF_0, setF_s, List.contains_cons, List.contains_nil, Nat.reduceBEq, Bool.or_false, Bool.false_or, Bool.or_true, Bool.true_or, Nat.reduceAdd, ↓reduceIte, Bool.false_eq_true]
    obtain ⟨k, X'⟩ := g
    obtain ⟨h1, h2, h3⟩ := hg
    dsimp only at h1 h2 h3 ⊢
    by_cases hk : k < ls.length
    · have hbl := hr.lt (Nat.lt_of_le_of_lt (Nat.zero_le _) hk)
      have r2 : readB w1 X' b = some (.cells arr E fz) := by rw [rd X' h3 b hbl, hr.has (Nat.lt_of_le_of_lt (Nat.zero_le _) hk)]
      have i2 := hr.idx true k hk
      have l2 := row_ent hr hk
      ((try with_reducible refine Cw.go [3] ?_); (try simp (disch := (first | assumption | omega | (simp only [lenS, lenT, UInt64.reduceToNat]; try omega))) only [↓Sx.S0, Sx.S1, Tryd.fx, uOG_1, Nat.reduceAdd, Nat.reducePow, Int.reducePow, Nat.reduceBEq, ↓reduceIte, UInt8.reduceToNat, UInt16.reduceToNat, UInt32.reduceToNat, UInt64.reduceToNat, Int.reduceToNat, r2, i2, l2]))
      refine Ow.alloc rfl rfl zrEnt fun b4 hb4 hw4 => ?_
      simp only [cells_agg, List.nil_append, List.cons_append]
      have k4 := fun o => look_new (o := o) hb4
      have s4 := fun o x => setB_new (o := o) (x := x) hb4
      have rd4 := fun o => readB_app_new w1 (o := o) hb4
      refine Ow.go rfl ?_
      simp (disch := (first | assumption | omega | (simp only [lenS, lenT, UInt64.reduceToNat]; try omega))) only [↓Sx.S0, Sx.S1, Tryd.fx, uOG_1, Nat.reduceAdd, Nat.reducePow, Int.reducePow, Nat.reduceBEq, ↓reduceIte, UInt8.reduceToNat, UInt16.reduceToNat, UInt32.reduceToNat, UInt64.reduceToNat, Int.reduceToNat, k4, s4]
      refine Cw.regionI ?_
      show OwI _ _ _ _ ([_, _] ++ [_, _]) _ _ _
      refine OwI.pre rfl ?_
      refine Ow.go rfl ?_
      simp (disch := (first | assumption | omega | (simp only [lenS, lenT, UInt64.reduceToNat]; try omega))) only [↓Sx.S0, Sx.S1, Tryd.fx, uOG_1, Nat.reduceAdd, Nat.reducePow, Int.reducePow, Nat.reduceBEq, ↓reduceIte, UInt8.reduceToNat, UInt16.reduceToNat, UInt32.reduceToNat, UInt64.reduceToNat, Int.reduceToNat, rd4]
      refine OwI.yieldX (S := fun D => J (ls.take k ++ [ls.getD k ent0]) D) (X := X') (Y := [(b4, .cells (entC (ls.getD k ent0)).toArray 108 (0, 0))]) rfl rfl rfl (fun w2 hw2 => ?_) (fun D hC hJ => ?_)
      · exact hY (ls.take k) (ls.getD k ent0) (ls.drop (k + 1)) X' w2 (by rw [← drop_cons hk, List.take_append_drop]) hw2 (fun c hc => by
          rcases h3.new c hc with h | h
          · exact hX c h
          · omega) h2
      · refine OwI.all rfl ?_
        refine Ow.go rfl ?_
        simp (disch := (first | assumption | omega | (simp only [lenS, lenT, UInt64.reduceToNat]; try omega))) only [↓Sx.S0, Sx.S1, Tryd.fx, uOG_1, Nat.reduceAdd, Nat.reducePow, Int.reducePow, Nat.reduceBEq, ↓reduceIte, UInt8.reduceToNat, UInt16.reduceToNat, UInt32.reduceToNat, UInt64.reduceToNat, Int.reduceToNat]
        refine Again.mk ⟨k + 1, D ++ [(b4, .cells (entC (ls.getD k ent0)).toArray 108 (0, 0))]⟩ (by show ls.length - (k + 1) < ls.length - k; omega) ⟨hk, ?_, ?_⟩ rfl rfl
        · show J (ls.take (k + 1)) _
          rw [take_snoc (z := ent0) hk]
          exact hJm _ _ _ hJ
        · show Ext w1 X (D ++ _)
          exact (Ext.came0 h3 hC).app hw4
    · obtain rfl : k = ls.length := by omega
      ((try with_reducible refine Cw.go [] ?_); (try simp (disch := (first | assumption | omega | (simp only [lenS, lenT, UInt64.reduceToNat]; try omega))) only [↓Sx.S0, Sx.S1, Tryd.fx, uOG_1, Nat.reduceAdd, Nat.reducePow, Int.reducePow, Nat.reduceBEq, ↓reduceIte, UInt8.reduceToNat, UInt16.reduceToNat, UInt32.reduceToNat, UInt64.reduceToNat, Int.reduceToNat]))
      refine ⟨_, (by simp (disch := (first | assumption | omega | (simp only [lenS, lenT, UInt64.reduceToNat]; try omega))) only [↓Sx.S0, Sx.S1, Tryd.fx, uOG_1, Nat.reduceAdd, Nat.reducePow, Int.reducePow, Nat.reduceBEq, ↓reduceIte, UInt8.reduceToNat, UInt16.reduceToNat, UInt32.reduceToNat, UInt64.reduceToNat, Int.reduceToNat]; rfl), ?_⟩
      rw [List.take_length] at h2
      exact ⟨h3, h2⟩
end Go.Proofs
end
section
open Go Go.Proofs Go.Sx Go.StP
namespace Go.Proofs
set_option maxRecDepth 10000
set_option maxHeartbeats 4000000
set_option linter.unusedSimpArgs false
set_option linter.defProp false
def uOH_1 := And.intro (And.intro (@load_entR) (@store_entR)) (And.intro (@load_ent) (And.intro (@store_entr) (@cells_ent)))
theorem AppendSeq_spec (gf : Nat) (lb : Array Value) (xs : List EntL) (w : World) (eg : ∀ args w, (callFunc gf args).run Tryd.prog w = .ok (.enter gf args) w) (hxs : xs.length < 1000000)
    (hseq : SeqOk Tryd.prog gf lb (fun x => .agg (entC x).toArray) xs w) :
    Rets Tryd.prog 151 #[.slice none 0 0, .func (.func gf) #[] lb] w (XS w [] (fun v D => Gr D 108 34 v xs.length (xs.map entC).flatten)) := by
  refine Rets.enterR Tryd.func151 rfl (rs := [.tmp 4]) Tryd.results151 Tryd.ntmps151 ?_
  simp only [List.size_toArray, List.length_cons, List.length_nil, Nat.reduceAdd, Nat.reduceSub, List.replicate_succ, List.replicate_zero, List.cons_append, List.nil_append]
  refine wp_preC (Hp.refl w) ?_
  ((try with_reducible refine Cw.go [] ?_); (try simp (disch := (first | assumption | omega | (simp only [lenS, lenT, UInt64.reduceToNat]; try omega))) only [↓Sx.S0, Sx.S1, Tryd.fx, uOH_1, Nat.reduceAdd, Nat.reducePow, Int.reducePow, Nat.reduceBEq, ↓reduceIte, UInt8.reduceToNat, UInt16.reduceToNat, UInt32.reduceToNat, UInt64.reduceToNat, Int.reduceToNat]))
  refine Ow.box rfl rfl fun bs hbs hws => ?_
  simp only [ev_tmp, getF_0, List.nil_append]
  refine Ow.go rfl ?_
  simp (disch := (first | assumption | omega | (simp only [lenS, lenT, UInt64.reduceToNat]; try omega))) only [↓Sx.S0, Sx.S1, Tryd.fx, uOH_1, Nat.reduceAdd, Nat.reducePow, Int.reducePow, Nat.reduceBEq, ↓reduceIte, UInt8.reduceToNat, UInt16.reduceToNat, UInt32.reduceToNat, UInt64.reduceToNat, Int.reduceToNat]
  refine ⟨rfl, fun w1 hp1 => ?_⟩
  refine wp_seq ?_
  refine wp_preC hp1 ?_
  ((try with_reducible refine Cw.go [] ?_); (try simp (disch := (first | assumption | omega | (simp only [lenS, lenT, UInt64.reduceToNat]; try omega))) only [↓Sx.S0, Sx.S1, Tryd.fx, uOH_1, Nat.reduceAdd, Nat.reducePow, Int.reducePow, Nat.reduceBEq, ↓reduceIte, UInt8.reduceToNat, UInt16.reduceToNat, UInt32.reduceToNat, UInt64.reduceToNat, Int.reduceToNat]))
  refine ⟨rfl, fun w2 hp2 => ?_⟩
  refine wp_block ?_
  refine wp_rangeF (S := fun dk D => Sx.look D dk = some (.deferred (some [])) ∧ ∃ v, Sx.look D bs = some (.cells #[v] 49 (0, 0)) ∧ Gr D 108 34 v xs.length (xs.map entC).flatten) hp2 rfl eg (fun fn dk w3 rc hrc hab hdk hp3 => ?_) (fun dk fn D w3 rc hrc hab hdk hS hE hp3 => ?_)
  · have hne : bs ≠ dk := by
      have := above_to hab (show bs ∈ keys [(bs, _)] by simp [keys]); omega
    have hne1 : bs ≠ dk + 1 := by
      have := above_to hab (show bs ∈ keys [(bs, _)] by simp [keys]); omega
    refine Rets.mono (hseq (dk + 1) (fun pre X => Sx.look X (dk + 1) = some (.loop rc) ∧ Sx.look X dk = some (.deferred (some [])) ∧ ∃ v, Sx.look X bs = some (.cells #[v] 49 (0, 0)) ∧ Gr X 108 34 v pre.length (pre.map entC).flatten) w3 _ (fun b hb => ?_) (fun b hb => ?_) ?_ (by have := Hp.part (Y := []) (by simpa using hp3); simpa using this) ?_ ?_ ?_) ?_
    · refine hp3.old b hb (fun hm => ?_)
      simp [keys] at hm; omega
    · simp [keys] at hb; omega
    · exact hp3.size
    · refine ⟨?_, ?_, _, ?_, Gr.nl⟩
      · simp [Sx.look, hne1]
      · simp [Sx.look, hne]
      · simp [Sx.look]; rfl
    · rintro pre X Y ⟨q1, q2, v, q3, q4⟩
      exact ⟨look_app q1, look_app q2, v, look_app q3, q4.app⟩
    · rintro pre x post X2 w4 hx hp4 hX2 ⟨q1, q2, v, q3, q4⟩
      refine YieldAt.of (S := fun D => Ext w4 X2 D ∧ _) hp4 q1 (by rw [hrc]; rfl) (by rw [hrc]; rfl) (by rw [hrc]; rfl) ?_
      have hlen := congrArg List.length hx
      rw [List.length_append, List.length_cons] at hlen
      have n1 : slB v ≠ some bs := q4.ne q3 (fun a e => by cases e)
      have n2 : slB v ≠ some dk := q4.ne q2 (fun a e => by cases e)
      have n3 : slB v ≠ some (dk + 1) := q4.ne q1 (fun a e => by cases e)
      have hrc' := hrc
      unfold recR at hrc'
      rw [hrc'] at q1 ⊢
      dsimp only
      rw [fold1]
      show CwR _ _ _ (Code.region _ (List.toArray _) false) [.slice none 0 0, .func (.func gf) #[] lb, vp bs 0, undef, .slice none 0 0, undef, .func (.func gf) #[] lb, .agg (entC x).toArray, undef, undef, undef, undef, undef] X2 _
      refine CwR.region rfl ?_
      refine Ow.alloc rfl rfl zrEnt fun b5 hb5 hw5 => ?_
      simp only [cells_agg, List.nil_append, List.cons_append]
      have k5 := fun o => look_new (o := o) hb5
      have s5 := fun o x => setB_new (o := o) (x := x) hb5
      refine Ow.go rfl ?_
      simp (disch := (first | assumption | omega | (simp only [lenS, lenT, UInt64.reduceToNat]; try omega))) only [↓Sx.S0, Sx.S1, Tryd.fx, uOH_1, Nat.reduceAdd, Nat.reducePow, Int.reducePow, Nat.reduceBEq, ↓reduceIte, UInt8.reduceToNat, UInt16.reduceToNat, UInt32.reduceToNat, UInt64.reduceToNat, Int.reduceToNat, k5, s5]
      refine ⟨trivial, look_app q1, ?_⟩
      refine CwR.block (CwR.region rfl ?_)
      generalize hBZ : Loop.mk .busy _ _ _ _ _ _ _ = BZ
      have hk5 : dk + 1 < b5 := above_to hb5 (key_of_look q1)
      have hk5' : dk < b5 := above_to hb5 (key_of_look q2)
      have hs5 : bs < b5 := above_to hb5 (key_of_look q3)
      have l1 : Sx.look (setB (X2 ++ [(b5, Obj.cells (entC x).toArray 108 (0, 0))]) (dk + 1) (.loop BZ)) (dk + 1) = some (.loop BZ) := look_setB (look_app q1)
      have l2 : Sx.look (setB (X2 ++ [(b5, Obj.cells (entC x).toArray 108 (0, 0))]) (dk + 1) (.loop BZ)) dk = some (.deferred (some [])) := by rw [look_setB_ne (by omega)]; exact look_app q2
      have l3 : Sx.look (setB (X2 ++ [(b5, Obj.cells (entC x).toArray 108 (0, 0))]) (dk + 1) (.loop BZ)) bs = some (.cells #[v] 49 (0, 0)) := by rw [look_setB_ne (by omega)]; exact look_app q3
      have l4 : Sx.look (setB (X2 ++ [(b5, Obj.cells (entC x).toArray 108 (0, 0))]) (dk + 1) (.loop BZ)) b5 = some (.cells (entC x).toArray 108 (0, 0)) := by rw [look_setB_ne (by omega)]; exact look_new hb5
      have lg : Gr (setB (X2 ++ [(b5, Obj.cells (entC x).toArray 108 (0, 0))]) (dk + 1) (.loop BZ)) 108 34 v pre.length (pre.map entC).flatten := (q4.app (M := [(b5, Obj.cells (entC x).toArray 108 (0, 0))])).setB n3 _
      have le : Ext w4 X2 (setB (X2 ++ [(b5, Obj.cells (entC x).toArray 108 (0, 0))]) (dk + 1) (.loop BZ)) := ((Ext.refl w4 X2).app hw5).setB
      generalize setB (X2 ++ [(b5, Obj.cells (entC x).toArray 108 (0, 0))]) (dk + 1) (.loop BZ) = L1 at *
      have rbs := read_look (w0 := w4) l3
      have rb5 := read_look (w0 := w4) l4
      have ld1 : loadV (some (false, 1)) (some (.cells #[v] 49 (0, 0))) 0 = some v := rfl
      refine Ow.go rfl ?_
      simp (disch := (first | assumption | omega | (simp only [lenS, lenT, UInt64.reduceToNat]; try omega))) only [↓Sx.S0, Sx.S1, Tryd.fx, uOH_1, Nat.reduceAdd, Nat.reducePow, Int.reducePow, Nat.reduceBEq, ↓reduceIte, UInt8.reduceToNat, UInt16.reduceToNat, UInt32.reduceToNat, UInt64.reduceToNat, Int.reduceToNat, rbs, rb5, ld1]
      refine Ow.buildSlice (e := 108) (entC x).toArray rfl rfl (slice_one Tryd.underlying49 aggEnt zrEnt (by decide) (entC_len x)) fun b6 hb6 hw6 => ?_
      refine Ow.go rfl ?_
      simp (disch := (first | assumption | omega | (simp only [lenS, lenT, UInt64.reduceToNat]; try omega))) only [↓Sx.S0, Sx.S1, Tryd.fx, uOH_1, Nat.reduceAdd, Nat.reducePow, Int.reducePow, Nat.reduceBEq, ↓reduceIte, UInt8.reduceToNat, UInt16.reduceToNat, UInt32.reduceToNat, UInt64.reduceToNat, Int.reduceToNat]
      refine Ow.appendG (e := 108) (k := 1) (new := entC x) v rfl rfl rfl Tryd.underlying49 aggEnt (by kernel_rfl) zrEnt (by rw [cells_ent, List.size_toArray, entC_len]) Tryd.underlying49 (by intro k h; cases h) lg.app (fun w' hw' => AppX.one1 (hw'.has _ _ (List.mem_append_right _ List.mem_cons_self)) (entC_len x) (entC_one x)) (by show (entC x).length = 1 * 34; rw [entC_len]) (by omega) (fun v2 L2 hB hB2 hG hS => ?_)
      have g1 := hG.look _ _ n3 (look_app l1)
      have g2 := hG.look _ _ n2 (look_app l2)
      have g3 := hG.look _ _ n1 (look_app l3)
      have c2 := hB.cell
      have st : storeV (some (false, 1)) (some (.cells #[v] 49 (0, 0))) 0 v2 = some (.cells #[v2] 49 (0, 0)) := by simp [storeV, c2, putC]
      have m2 : slB v2 ≠ some bs := hB.ne g3 (fun a e => by cases e)
      refine Ow.go rfl ?_
      simp (disch := (first | assumption | omega | (simp only [lenS, lenT, UInt64.reduceToNat]; try omega))) only [↓Sx.S0, Sx.S1, Tryd.fx, uOH_1, Nat.reduceAdd, Nat.reducePow, Int.reducePow, Nat.reduceBEq, ↓reduceIte, UInt8.reduceToNat, UInt16.reduceToNat, UInt32.reduceToNat, UInt64.reduceToNat, Int.reduceToNat, g3, st, nh_any]
      refine ⟨rfl, ?_, ?_, ?_, ?_, v2, ?_, ?_⟩
      · rw [look_setB_ne (by omega)]; exact g1
      · exact ((le.app (o := .cells (entC x).toArray 108 (0, 0)) hw6).grew hG).setB.setB
      · exact look_setB (by rw [look_setB_ne (by omega)]; exact g1)
      · rw [look_setB_ne (by omega), look_setB_ne (by omega)]; exact g2
      · rw [look_setB_ne (by omega)]; exact look_setB g3
      · rw [List.length_append, List.map_append, List.flatten_append]
        have e1 : ([x].map entC).flatten = entC x := by simp
        rw [e1]
        exact (hB.setB m2 _).setB (hB.ne g1 (fun a e => by cases e)) _
    · rintro v D ⟨hE, q1, q2⟩
      exact ⟨hE, q1, q2⟩
  · obtain ⟨hS1, v, hS2, hS3⟩ := hS
    show Code.wp _ (Code.seq _ _) _ _ _
    have hne : dk + 1 ≠ bs := by
      have := above_to hab (show bs ∈ keys [(bs, _)] by simp [keys]); omega
    have r1 := fun o => (read_setB_ne (w0 := w) (L := D) (x := o) hne).trans (read_look hS2)
    have ld1 : loadV (some (false, 1)) (some (.cells #[v] 49 (0, 0))) 0 = some v := rfl
    refine wp_mono (CwE.seq (ds := [{ target := .collected dk, args := #[] }]) (K := fun e f' L' => e = .ret ∧ L' = setB D (dk + 1) _ ∧ getF f' 4 = v) (CwE.region (f' := [.slice none 0 0, .func (.func gf) #[] lb, vp bs 0, undef, v, undef, .func (.func gf) #[] lb, undef, undef, undef, undef, undef, v]) ?_ (CwE.ret ⟨rfl, rfl, rfl⟩)) w3 hp3) ?_
    · simp (disch := (first | assumption | omega | (simp only [lenS, lenT, UInt64.reduceToNat]; try omega))) only [↓Sx.S0, Sx.S1, Tryd.fx, uOH_1, Nat.reduceAdd, Nat.reducePow, Int.reducePow, Nat.reduceBEq, ↓reduceIte, UInt8.reduceToNat, UInt16.reduceToNat, UInt32.reduceToNat, UInt64.reduceToNat, Int.reduceToNat, evVs, evalV, r1, ld1]
    · rintro e a w5 ⟨hd, L, hp5, rfl, rfl, hv⟩
      refine ⟨.inr rfl, dk, hd, _, hp5, ?_, [v], ?_, ?_, ?_⟩
      · rw [look_setB_ne (by omega)]; exact hS1
      · rw [resVs_cons, resVs_nil, resV_tmp, hv]; rfl
      · refine ⟨fun c hc => ?_, fun c hc => by cases hc⟩
        rw [keys_setB, keys_setB] at hc
        rcases hE.new c hc with h | h
        · simp [keys] at h; exact .inr (by omega)
        · exact .inr h
      · exact (hS3.setB (hS3.ne hrc (fun a e => by cases e)) _).setB (hS3.ne hS1 (fun a e => by cases e)) _
end Go.Proofs
end
section
open Go Go.Proofs Go.Sx Go.StP
namespace Go.Proofs
set_option maxRecDepth 10000
set_option maxHeartbeats 4000000
set_option linter.unusedSimpArgs false
theorem Collect_spec (gf : Nat) (lb : Array Value) (xs : List EntL) (w : World) (eg : ∀ args w, (callFunc gf args).run Tryd.prog w = .ok (.enter gf args) w) (hxs : xs.length < 1000000)
    (hseq : ∀ w', Hp w [] w' → SeqOk Tryd.prog gf lb (fun x => .agg (entC x).toArray) xs w') :
    Rets Tryd.prog 125 #[.func (.func gf) #[] lb] w (XS w [] (fun v D => Gr D 108 34 v xs.length (xs.map entC).flatten)) := by
  refine Rets.enterX Tryd.func125 rfl (rs := [.tmp 2]) Tryd.results125 Tryd.ntmps125 (fun p hp => by cases hp) (by simp [keys]) ?_
  simp only [List.size_toArray, List.length_cons, List.length_nil, Nat.reduceAdd, Nat.reduceSub, List.replicate_succ, List.replicate_zero, List.cons_append, List.nil_append]
  ((try with_reducible refine Cw.go [] ?_); (try simp (disch := (first | assumption | omega | (simp only [lenS, lenT, UInt64.reduceToNat]; try omega))) only [↓Sx.S0, Sx.S1, Tryd.fx, Nat.reduceAdd, Nat.reducePow, Int.reducePow, Nat.reduceBEq, ↓reduceIte, UInt8.reduceToNat, UInt16.reduceToNat, UInt32.reduceToNat, UInt64.reduceToNat, Int.reduceToNat]))
  refine Ow.callC rfl rfl Tryd.call151 (fun w' hw' => AppendSeq_spec gf lb xs w' eg hxs (hseq w' hw')) (fun B v D hA hB hN hS => ?_)
  refine Ow.go rfl ?_
  simp (disch := (first | assumption | omega | (simp only [lenS, lenT, UInt64.reduceToNat]; try omega))) only [↓Sx.S0, Sx.S1, Tryd.fx, Nat.reduceAdd, Nat.reducePow, Int.reducePow, Nat.reduceBEq, ↓reduceIte, UInt8.reduceToNat, UInt16.reduceToNat, UInt32.reduceToNat, UInt64.reduceToNat, Int.reduceToNat]
  refine ⟨_, (by simp (disch := (first | assumption | omega | (simp only [lenS, lenT, UInt64.reduceToNat]; try omega))) only [↓Sx.S0, Sx.S1, Tryd.fx, Nat.reduceAdd, Nat.reducePow, Int.reducePow, Nat.reduceBEq, ↓reduceIte, UInt8.reduceToNat, UInt16.reduceToNat, UInt32.reduceToNat, UInt64.reduceToNat, Int.reduceToNat]; rfl), ?_⟩
  exact ⟨Ext.of_new (New.mono hB hN), hS⟩
theorem insertion_nil (w : World) : Rets Tryd.prog 171 #[.slice none 0 0, vi 0, vi 0, lessV] w (fun v D => v = .tuple #[] ∧ D = []) := by
  refine Rets.enterV Tryd.func171 rfl (rs := []) Tryd.results171 Tryd.ntmps171 ?_
  simp only [List.size_toArray, List.length_cons, List.length_nil, Nat.reduceAdd, Nat.reduceSub, List.replicate_succ, List.replicate_zero, List.cons_append, List.nil_append]
  ((try with_reducible refine Cw.go [] ?_); (try simp (disch := (first | assumption | omega | (simp only [lenS, lenT, UInt64.reduceToNat]; try omega))) only [↓Sx.S0, Sx.S1, Tryd.fx, Nat.reduceAdd, Nat.reducePow, Int.reducePow, Nat.reduceBEq, ↓reduceIte, UInt8.reduceToNat, UInt16.reduceToNat, UInt32.reduceToNat, UInt64.reduceToNat, Int.reduceToNat]))
  refine Cw.loopG (G := Unit) [12, 13, 14, 17, 9, 18, 19, 20, 21, 22, 23, 24, 25, 26, 27, 28, 29, 30, 31, 32, 33, 34, 37, 38, 39, 40, 41, 42, 43, 44, 45, 46, 47, 48, 49, 50, 51, 52, 35, 36, 15, 16, 8] (fun g => [(8, vi 1)]) (fun g => []) (fun g => True) (fun g => 0) () rfl rfl ?_ ?_
  · trivial
  · intro g j hg
    simp only [overFrom, pin, setF_0, setF_s, List.contains_cons, List.contains_nil, Nat.reduceBEq, Bool.or_false, Bool.false_or, Bool.or_true, Bool.true_or, Nat.reduceAdd, ↓reduceIte, Bool.false_eq_true]
    ((try with_reducible refine Cw.go [] ?_); (try simp (disch := (first | assumption | omega | (simp only [lenS, lenT, UInt64.reduceToNat]; try omega))) only [↓Sx.S0, Sx.S1, Tryd.fx, Nat.reduceAdd, Nat.reducePow, Int.reducePow, Nat.reduceBEq, ↓reduceIte, UInt8.reduceToNat, UInt16.reduceToNat, UInt32.reduceToNat, UInt64.reduceToNat, Int.reduceToNat]))
    refine ⟨_, (by simp (disch := (first | assumption | omega | (simp only [lenS, lenT, UInt64.reduceToNat]; try omega))) only [↓Sx.S0, Sx.S1, Tryd.fx, Nat.reduceAdd, Nat.reducePow, Int.reducePow, Nat.reduceBEq, ↓reduceIte, UInt8.reduceToNat, UInt16.reduceToNat, UInt32.reduceToNat, UInt64.reduceToNat, Int.reduceToNat]; rfl), trivial, ?_⟩
    rfl
theorem stable_nil (w : World) : Rets Tryd.prog 152 #[.slice none 0 0, vi 0, lessV] w (fun v D => v = .tuple #[] ∧ D = []) := by
  refine Rets.enterV Tryd.func152 rfl (rs := []) Tryd.results152 Tryd.ntmps152 ?_
  simp only [List.size_toArray, List.length_cons, List.length_nil, Nat.reduceAdd, Nat.reduceSub, List.replicate_succ, List.replicate_zero, List.cons_append, List.nil_append]
  ((try with_reducible refine Cw.go [] ?_); (try simp (disch := (first | assumption | omega | (simp only [lenS, lenT, UInt64.reduceToNat]; try omega))) only [↓Sx.S0, Sx.S1, Tryd.fx, Nat.reduceAdd, Nat.reducePow, Int.reducePow, Nat.reduceBEq, ↓reduceIte, UInt8.reduceToNat, UInt16.reduceToNat, UInt32.reduceToNat, UInt64.reduceToNat, Int.reduceToNat]))
  refine Cw.loopG (G := Unit) [11, 12, 13, 14, 15, 16, 17, 18, 19, 7, 20, 21, 22, 8] (fun g => [(7, vi 0), (8, vi 20)]) (fun g => []) (fun g => True) (fun g => 0) () rfl rfl ?_ ?_
  · trivial
  · intro g j hg
    simp only [overFrom, pin, setF_0, setF_s, List.contains_cons, List.contains_nil, Nat.reduceBEq, Bool.or_false, Bool.false_or, Bool.or_true, Bool.true_or, Nat.reduceAdd, ↓reduceIte, Bool.false_eq_true]
    ((try with_reducible refine Cw.go [] ?_); (try simp (disch := (first | assumption | omega | (simp only [lenS, lenT, UInt64.reduceToNat]; try omega))) only [↓Sx.S0, Sx.S1, Tryd.fx, Nat.reduceAdd, Nat.reducePow, Int.reducePow, Nat.reduceBEq, ↓reduceIte, UInt8.reduceToNat, UInt16.reduceToNat, UInt32.reduceToNat, UInt64.reduceToNat, Int.reduceToNat]))
    refine Ow.callFV rfl Tryd.call171 (fun w' hw' => insertion_nil w') ?_
    refine Ow.go rfl ?_
    simp (disch := (first | assumption | omega | (simp only [lenS, lenT, UInt64.reduceToNat]; try omega))) only [↓Sx.S0, Sx.S1, Tryd.fx, Nat.reduceAdd, Nat.reducePow, Int.reducePow, Nat.reduceBEq, ↓reduceIte, UInt8.reduceToNat, UInt16.reduceToNat, UInt32.reduceToNat, UInt64.reduceToNat, Int.reduceToNat]
    refine Cw.loopG (G := Unit) [28, 29, 30, 31, 32, 7, 8, 33, 34, 35, 36, 37, 38, 39, 40, 41, 42, 43, 44, 45, 46, 47, 48, 49, 50, 51, 9, 52, 53, 54, 55, 56, 57, 58, 59, 60, 61, 62, 6] (fun g => [(6, vi 20)]) (fun g => []) (fun g => True) (fun g => 0) () rfl rfl ?_ ?_
    · trivial
    · intro u ju hu
      simp only [overFrom, pin, setF_0, setF_s, List.contains_cons, List.contains_nil, Nat.reduceBEq, Bool.or_false, Bool.false_or, Bool.or_true, Bool.true_or, Nat.reduceAdd, ↓reduceIte, Bool.false_eq_true]
      ((try with_reducible refine Cw.go [] ?_); (try simp (disch := (first | assumption | omega | (simp only [lenS, lenT, UInt64.reduceToNat]; try omega))) only [↓Sx.S0, Sx.S1, Tryd.fx, Nat.reduceAdd, Nat.reducePow, Int.reducePow, Nat.reduceBEq, ↓reduceIte, UInt8.reduceToNat, UInt16.reduceToNat, UInt32.reduceToNat, UInt64.reduceToNat, Int.reduceToNat]))
      refine ⟨_, (by simp (disch := (first | assumption | omega | (simp only [lenS, lenT, UInt64.reduceToNat]; try omega))) only [↓Sx.S0, Sx.S1, Tryd.fx, Nat.reduceAdd, Nat.reducePow, Int.reducePow, Nat.reduceBEq, ↓reduceIte, UInt8.reduceToNat, UInt16.reduceToNat, UInt32.reduceToNat, UInt64.reduceToNat, Int.reduceToNat]; rfl), trivial, ?_⟩
      rfl
theorem SortStable_nil (w : World) : Rets Tryd.prog 126 #[.slice none 0 0, lessV] w (fun v D => v = .tuple #[] ∧ D = []) := by
  refine Rets.enterV Tryd.func126 rfl (rs := []) Tryd.results126 Tryd.ntmps126 ?_
  simp only [List.size_toArray, List.length_cons, List.length_nil, Nat.reduceAdd, Nat.reduceSub, List.replicate_succ, List.replicate_zero, List.cons_append, List.nil_append]
  ((try with_reducible refine Cw.go [] ?_); (try simp (disch := (first | assumption | omega | (simp only [lenS, lenT, UInt64.reduceToNat]; try omega))) only [↓Sx.S0, Sx.S1, Tryd.fx, Nat.reduceAdd, Nat.reducePow, Int.reducePow, Nat.reduceBEq, ↓reduceIte, UInt8.reduceToNat, UInt16.reduceToNat, UInt32.reduceToNat, UInt64.reduceToNat, Int.reduceToNat, len_nil]))
  refine Ow.callFV rfl Tryd.call152 (fun w' hw' => stable_nil w') ?_
  refine Ow.go rfl ?_
  simp (disch := (first | assumption | omega | (simp only [lenS, lenT, UInt64.reduceToNat]; try omega))) only [↓Sx.S0, Sx.S1, Tryd.fx, Nat.reduceAdd, Nat.reducePow, Int.reducePow, Nat.reduceBEq, ↓reduceIte, UInt8.reduceToNat, UInt16.reduceToNat, UInt32.reduceToNat, UInt64.reduceToNat, Int.reduceToNat]
  refine ⟨_, (by simp (disch := (first | assumption | omega | (simp only [lenS, lenT, UInt64.reduceToNat]; try omega))) only [↓Sx.S0, Sx.S1, Tryd.fx, Nat.reduceAdd, Nat.reducePow, Int.reducePow, Nat.reduceBEq, ↓reduceIte, UInt8.reduceToNat, UInt16.reduceToNat, UInt32.reduceToNat, UInt64.reduceToNat, Int.reduceToNat]; rfl), trivial, ?_⟩
  rfl
theorem SortStable_spec (rb n c : Nat) (d : List EntL) (rest : List Value) (w : World) (hn : n = d.length) (hs : n < 1000000) (ho : w.heap[rb]? = some (entO rest d)) :
    Rets Tryd.prog 126 #[vsl rb 0 n c, lessV] w (fun v D => ∃ o, D = [(rb, o)] ∧ v = .tuple #[] ∧ ∃ Z, o = entO rest Z ∧ Z.length = d.length ∧ SortedE Z ∧ StE d Z) := by
  refine Rets.enterM Tryd.func126 rfl (rs := []) Tryd.results126 Tryd.ntmps126 ho ?_
  simp only [List.size_toArray, List.length_cons, List.length_nil, Nat.reduceAdd, Nat.reduceSub, List.replicate_succ, List.replicate_zero, List.cons_append, List.nil_append]
  ((try with_reducible refine Cw.go [] ?_); (try simp (disch := (first | assumption | omega | (simp only [lenS, lenT, UInt64.reduceToNat]; try omega))) only [↓Sx.S0, Sx.S1, Tryd.fx, Nat.reduceAdd, Nat.reducePow, Int.reducePow, Nat.reduceBEq, ↓reduceIte, UInt8.reduceToNat, UInt16.reduceToNat, UInt32.reduceToNat, UInt64.reduceToNat, Int.reduceToNat]))
  refine Ow.callE rfl rfl Tryd.call152 (by simp [keys]) (fun w' hw' => stable_spec rb n c d rest w' hn hs (hw'.has _ _ List.mem_cons_self)) (fun v1 o1 hS1 => ?_)
  obtain ⟨rfl, Z, rfl, z1, z2, z3⟩ := hS1
  refine Ow.go rfl ?_
  simp (disch := (first | assumption | omega | (simp only [lenS, lenT, UInt64.reduceToNat]; try omega))) only [↓Sx.S0, Sx.S1, Tryd.fx, Nat.reduceAdd, Nat.reducePow, Int.reducePow, Nat.reduceBEq, ↓reduceIte, UInt8.reduceToNat, UInt16.reduceToNat, UInt32.reduceToNat, UInt64.reduceToNat, Int.reduceToNat]
  refine ⟨_, _, _, (by simp (disch := (first | assumption | omega | (simp only [lenS, lenT, UInt64.reduceToNat]; try omega))) only [↓Sx.S0, Sx.S1, Tryd.fx, Nat.reduceAdd, Nat.reducePow, Int.reducePow, Nat.reduceBEq, ↓reduceIte, UInt8.reduceToNat, UInt16.reduceToNat, UInt32.reduceToNat, UInt64.reduceToNat, Int.reduceToNat]; rfl), rfl, trivial, ?_⟩
  exact ⟨rfl, Z, rfl, z1, z2, z3⟩
/-- Sorted, of the same. -/
def SortOf (l Z : List EntL) : Prop := Z.length = l.length ∧ SortedE Z ∧ StE l Z
theorem SortOf.eq {l Z Z' : List EntL} (h : SortOf l Z) (h' : SortOf l Z') : Z = Z' := StP.St.eq h.2.1 h'.2.1 (h.2.2.symm.trans h'.2.2)
theorem Sorted_spec (gf : Nat) (lb : Array Value) (xs : List EntL) (w : World) (eg : ∀ args w, (callFunc gf args).run Tryd.prog w = .ok (.enter gf args) w) (hxs : xs.length < 1000000)
    (hseq : ∀ w', Hp w [] w' → SeqOk Tryd.prog gf lb (fun x => .agg (entC x).toArray) xs w') :
    Rets Tryd.prog 96 #[.func (.func gf) #[] lb, lessV] w (XS w [] (fun v D => ∃ Z, SortOf xs Z ∧ Gr D 108 34 v xs.length (Z.map entC).flatten)) := by
  refine Rets.enterX Tryd.func96 rfl (rs := [.tmp 4]) Tryd.results96 Tryd.ntmps96 (fun p hp => by cases hp) (by simp [keys]) ?_
  simp only [List.size_toArray, List.length_cons, List.length_nil, Nat.reduceAdd, Nat.reduceSub, List.replicate_succ, List.replicate_zero, List.cons_append, List.nil_append]
  ((try with_reducible refine Cw.go [] ?_); (try simp (disch := (first | assumption | omega | (simp only [lenS, lenT, UInt64.reduceToNat]; try omega))) only [↓Sx.S0, Sx.S1, Tryd.fx, Nat.reduceAdd, Nat.reducePow, Int.reducePow, Nat.reduceBEq, ↓reduceIte, UInt8.reduceToNat, UInt16.reduceToNat, UInt32.reduceToNat, UInt64.reduceToNat, Int.reduceToNat]))
  refine Ow.callC rfl rfl Tryd.call125 (fun w' hw' => Collect_spec gf lb xs w' eg hxs (fun w2 h2 => hseq w2 (hw'.trans_nil h2))) (fun B v D hA hB hN hS => ?_)
  rw [List.nil_append]
  refine Ow.go rfl ?_
  simp (disch := (first | assumption | omega | (simp only [lenS, lenT, UInt64.reduceToNat]; try omega))) only [↓Sx.S0, Sx.S1, Tryd.fx, Nat.reduceAdd, Nat.reducePow, Int.reducePow, Nat.reduceBEq, ↓reduceIte, UInt8.reduceToNat, UInt16.reduceToNat, UInt32.reduceToNat, UInt64.reduceToNat, Int.reduceToNat]
  have main : ∀ rb c rest, v = vsl rb 0 xs.length c → Sx.look D rb = some (entO rest xs) → True := fun _ _ _ _ _ => trivial
  have hE := Ext.of_new (New.mono hB hN)
  rcases hS with hS | ⟨h0, h1, rb, rfl, hl⟩
  · rcases hS.inv with ⟨rfl, h0, h1⟩ | ⟨rb, c, rest, rfl, hl, -, hc, hc0, hr⟩
    · obtain rfl : xs = [] := List.eq_nil_of_length_eq_zero h0
      refine Ow.callFV rfl Tryd.call126 (fun w' hw' => SortStable_nil w') ?_
      refine Ow.go rfl ?_
      simp (disch := (first | assumption | omega | (simp only [lenS, lenT, UInt64.reduceToNat]; try omega))) only [↓Sx.S0, Sx.S1, Tryd.fx, Nat.reduceAdd, Nat.reducePow, Int.reducePow, Nat.reduceBEq, ↓reduceIte, UInt8.reduceToNat, UInt16.reduceToNat, UInt32.reduceToNat, UInt64.reduceToNat, Int.reduceToNat]
      refine ⟨_, (by simp (disch := (first | assumption | omega | (simp only [lenS, lenT, UInt64.reduceToNat]; try omega))) only [↓Sx.S0, Sx.S1, Tryd.fx, Nat.reduceAdd, Nat.reducePow, Int.reducePow, Nat.reduceBEq, ↓reduceIte, UInt8.reduceToNat, UInt16.reduceToNat, UInt32.reduceToNat, UInt64.reduceToNat, Int.reduceToNat]; rfl), ?_⟩
      exact ⟨hE, [], ⟨rfl, List.Pairwise.nil, StP.St.refl _ _⟩, Gr.nl⟩
    · refine Ow.callE rfl rfl Tryd.call126 (key_of_look hl) (fun w' hw' => SortStable_spec rb xs.length c xs rest w' rfl hxs (hw'.has _ _ (look_mem hl))) (fun v1 o1 hS1 => ?_)
      obtain ⟨rfl, Z, rfl, z1, z2, z3⟩ := hS1
      refine Ow.go rfl ?_
      simp (disch := (first | assumption | omega | (simp only [lenS, lenT, UInt64.reduceToNat]; try omega))) only [↓Sx.S0, Sx.S1, Tryd.fx, Nat.reduceAdd, Nat.reducePow, Int.reducePow, Nat.reduceBEq, ↓reduceIte, UInt8.reduceToNat, UInt16.reduceToNat, UInt32.reduceToNat, UInt64.reduceToNat, Int.reduceToNat]
      refine ⟨_, (by simp (disch := (first | assumption | omega | (simp only [lenS, lenT, UInt64.reduceToNat]; try omega))) only [↓Sx.S0, Sx.S1, Tryd.fx, Nat.reduceAdd, Nat.reducePow, Int.reducePow, Nat.reduceBEq, ↓reduceIte, UInt8.reduceToNat, UInt16.reduceToNat, UInt32.reduceToNat, UInt64.reduceToNat, Int.reduceToNat]; rfl), ?_⟩
      refine ⟨hE.setB, Z, ⟨z1, z2, z3⟩, .inl ?_⟩
      rw [← z1]
      exact Buf.at_ (look_setB hl) (by rw [flat_len entC_len]) (by rw [z1]; exact hr) (by omega) hc0
  · obtain rfl : xs = [] := List.eq_nil_of_length_eq_zero h0
    refine Ow.callE rfl rfl Tryd.call126 (key_of_look hl) (fun w' hw' => SortStable_spec rb 0 0 [] [] w' rfl (by omega) (hw'.has _ _ (look_mem hl))) (fun v1 o1 hS1 => ?_)
    obtain ⟨rfl, Z, rfl, z1, z2, z3⟩ := hS1
    obtain rfl : Z = [] := List.eq_nil_of_length_eq_zero z1
    refine Ow.go rfl ?_
    simp (disch := (first | assumption | omega | (simp only [lenS, lenT, UInt64.reduceToNat]; try omega))) only [↓Sx.S0, Sx.S1, Tryd.fx, Nat.reduceAdd, Nat.reducePow, Int.reducePow, Nat.reduceBEq, ↓reduceIte, UInt8.reduceToNat, UInt16.reduceToNat, UInt32.reduceToNat, UInt64.reduceToNat, Int.reduceToNat]
    refine ⟨_, (by simp (disch := (first | assumption | omega | (simp only [lenS, lenT, UInt64.reduceToNat]; try omega))) only [↓Sx.S0, Sx.S1, Tryd.fx, Nat.reduceAdd, Nat.reducePow, Int.reducePow, Nat.reduceBEq, ↓reduceIte, UInt8.reduceToNat, UInt16.reduceToNat, UInt32.reduceToNat, UInt64.reduceToNat, Int.reduceToNat]; rfl), ?_⟩
    exact ⟨hE.setB, [], ⟨rfl, List.Pairwise.nil, StP.St.refl _ _⟩, .inr ⟨rfl, rfl, rb, rfl, look_setB hl⟩⟩
end Go.Proofs
end
