/-
  The fifth part: stores; a list of operations; calls; new blocks.
  No conditions.
-/
import Derived.Test.YtbmfinobafcmiaaDoorSx4
import Derived.Test.YtbmfinobafcmiaaDoorSxG
namespace Go.Sx
open Go
set_option linter.unusedSimpArgs false

/-! ### Stores -/
def putC (cs : Array Value) (off : Nat) : List Value → Array Value
  | [] => cs
  | v :: r => putC (cs.setIfInBounds off v) (off + 1) r

theorem size_putC (vs : List Value) : ∀ (cs : Array Value) (off : Nat), (putC cs off vs).size = cs.size := by
  induction vs with
  | nil => intros; rfl
  | cons v r ih => intro cs off; rw [putC, ih]; simp

def storeV (m : Option (Bool × Nat)) (o : Option Obj) (off : Nat) (v : Value) : Option Obj :=
  match m, o with
  | some (_, n), some (.cells cs E fz) => if v.cells.size = n ∧ off + n ≤ cs.size ∧ (fz.2 ≤ fz.1 ∨ off + n ≤ fz.1) ∧ v.cells.toList.all Value.oneCell' = true then some (.cells (putC cs off v.cells.toList) E fz) else none
  | _, _ => none

/-- A store at an address: the block, and what it holds then. -/
def storeAtV (m : Option (Bool × Nat)) (L : Heap) (a v : Value) : Option Heap :=
  match a with
  | .pointer (some ⟨b, off, none⟩) => match storeV m (look L b) off v with
    | some o => some (setB L b o)
    | none => none
  | _ => none

section
variable {P : Program} {w0 w : World} {L : Heap}

theorem setCell_row {b off : Nat} {v : Value} {cs : Array Value} {E : TypeId} {fz : Nat × Nat} (hb : w.heap[b]? = some (.cells cs E fz)) :
    w.setCell ⟨b, off, none⟩ v = { w with heap := w.heap.setIfInBounds b (.cells (cs.setIfInBounds off v) E fz) } := by
  have hlt := (Array.getElem?_eq_some_iff.1 hb).1
  unfold World.setCell
  congr 1
  apply Array.ext_getElem?
  intro i
  rw [Array.getElem?_modify]
  by_cases hi : b = i
  · subst hi
    rw [if_pos rfl, hb]
    simp [hlt]
  · rw [if_neg hi, Array.getElem?_setIfInBounds_ne hi]

theorem run_storeCells {b off : Nat} {E : TypeId} {fz : Nat × Nat} : ∀ (vs : List Value) (i : Nat) (cs : Array Value) (w : World), w.heap[b]? = some (.cells cs E fz) →
    off + i + vs.length ≤ cs.size → (fz.2 ≤ fz.1 ∨ off + i + vs.length ≤ fz.1) → vs.all Value.oneCell' = true →
    (storeCells ⟨b, off, none⟩ vs i).run P w = .ok () { w with heap := w.heap.setIfInBounds b (.cells (putC cs (off + i) vs) E fz) }
  | [], i, cs, w, hb, _, _, _ => by
    have hlt := (Array.getElem?_eq_some_iff.1 hb)
    have : w.heap.setIfInBounds b (.cells cs E fz) = w.heap := by
      apply Array.ext_getElem?
      intro j
      by_cases hj : b = j
      · subst hj; rw [hb]; simp [hlt.1]
      · rw [Array.getElem?_setIfInBounds_ne hj]
    simp only [storeCells, putC, this]; rfl
  | v :: r, i, cs, w, hb, hs, hf, ho => by
    simp only [List.all_cons, Bool.and_eq_true] at ho
    simp only [List.length_cons] at hs hf
    have hc : w.cell? ⟨b, off + i, none⟩ = some (cs[off + i]'(by omega)) := by
      rw [cell_of_row w b _ cs E fz hb, Array.getElem?_eq_getElem (by omega)]
    have hfz : w.frozen? ⟨b, off + i, none⟩ = false := by
      simp only [World.frozen?, hb, Bool.and_eq_false_iff, decide_eq_false_iff_not]
      omega
    have hlt := (Array.getElem?_eq_some_iff.1 hb).1
    simp only [storeCells, add_spot, Sem.run_bind, run_store P w _ v .plain ho.1, hc, hfz, Bool.false_eq_true, ↓reduceIte, Result.andThen_ok, setCell_row hb]
    have hb' : ({ w with heap := w.heap.setIfInBounds b (.cells (cs.setIfInBounds (off + i) v) E fz) } : World).heap[b]? = some (.cells (cs.setIfInBounds (off + i) v) E fz) := by
      simp [hlt]
    rw [run_storeCells r (i + 1) _ _ hb' (by simp; omega) (by omega) ho.2]
    simp [putC, Nat.add_assoc]

theorem run_storeAtV {t : TypeId} {a v : Value} {L' : Heap} (hw : Hp w0 L w) (h : storeAtV (aggT P t) L a v = some L') : ∃ w', (Instr.storeAt t a v).run P w = .ok () w' ∧ Hp w0 L' w' := by
  unfold storeAtV at h
  split at h
  · rename_i b off
    split at h
    · rename_i o hs
      cases h
      unfold storeV at hs
      split at hs
      · rename_i m n cs E fz hm hl
        split at hs
        · rename_i hc
          obtain ⟨h1, h2, h3, h4⟩ := hc
          cases hs
          have hb := hw.has _ _ (look_mem hl)
          have hlen : v.cells.toList.length = n := by simpa using h1
          refine ⟨{ w with heap := w.heap.setIfInBounds b (.cells (putC cs off v.cells.toList) E fz) }, ?_, hw.set (List.mem_map.2 ⟨_, look_mem hl, rfl⟩) rfl rfl rfl rfl⟩
          simp only [Instr.storeAt, Instr.sureAddr, Sem.run_bind, Sem.run_pure, Result.andThen_ok, storeVar, run_sizeOf hm w, h1, ne_eq, not_true_eq_false, ↓reduceIte]
          rw [run_storeCells v.cells.toList 0 cs w hb (by omega) (by omega) h4]
          rfl
        · cases hs
      · cases hs
    · cases h
  · cases h
end

/-! ### A list of operations -/
def yieldF (ops : Array Oper) (f : Fr) (j : Nat) : Option Bool :=
  match (ops[j]?).bind (·.dst) with
  | some d => match getF f d with
    | .bool b => some b
    | _ => none
  | none => none

theorem yielded_eq (ops : Array Oper) (f : Fr) (j : Nat) : yielded ops f.toArray j = yieldF ops f j := by
  unfold yielded yieldF
  cases (ops[j]?).bind (·.dst) with
  | none => rfl
  | some d =>
    simp only [Option.bind_some]
    have := getF_eq f d
    rw [Array.getD_eq_getD_getElem?] at this
    cases h : f.toArray[d]? with
    | none =>
      rw [h] at this
      simp only [Option.getD_none] at this
      rw [← this]; rfl
    | some v =>
      rw [h] at this
      simp only [Option.getD_some] at this
      rw [← this]
      cases v <;> rfl

/-- How a region's operations come: in their order; in any order: the indices in an order that serves for all, and what turns something; the same behind the first that turns something. -/
inductive Md where
  | seq
  | qui (is ts : List Nat)
  | any (is ts : List Nat)

/-- Does the operation's value hang on its operands alone? -/
def pureK (P : Program) : Op → Bool
  | .move _ => true
  | .assign _ => true
  | .pick .. => true
  | .binOp .. => true
  | .unOp .. => true
  | .convert s d _ => match cvT P s d with | .int _ => true | .str => true | _ => false
  | .nilCheck _ => true
  | .fieldAddr .. => true
  | .field .. => true
  | .indexAddr .. => true
  | .index .. => true
  | .extract .. => true
  | .slice .. => true
  | .makeFunc .. => true
  | .call ⟨.builtin .len, _, _⟩ => true
  | .call ⟨.builtin .cap, _, _⟩ => true
  | _ => false

/-- Does the operation read at most? -/
def readK : Op → Bool
  | .load .. => true
  | .convert .. => true
  | _ => false

/-- What turns something waits for i by a word of its own, or has come. -/
def waitsB (ops : Array Oper) (ts : List Nat) (listed : Array Bool) (i : Nat) : Bool :=
  (List.range ops.size).all fun j => j == i || listed.getD j true || !ts.contains j || match ops[j]? with
    | some oj => oj.after.any fun e => Region.binds .any e && e.on == i
    | none => true

/-- Is the order 'is' as good as every other one? ('ts': what turns something.) -/
def orderB (P : Program) (ops : Array Oper) (ts : List Nat) : List Nat → Array Bool → Bool
  | [], listed => (Region.ready .any ops listed).isEmpty
  | k :: is, listed =>
    (match ops[k]? with
      | some o =>
        ((Region.ready .any ops listed == [k]) && !(ts.contains k && (pureK P o.op || readK o.op))) ||
        (!ts.contains k && (Region.ready .any ops listed).contains k && Region.free .any ops listed k &&
          (pureK P o.op || (readK o.op && waitsB ops ts listed k && ts.all fun t => !listed.getD t true)))
      | none => false) && orderB P ops ts is (listed.setIfInBounds k true)

def postN (w0 : World) (N : Fr → Heap → Prop) (e : Exit) (a : Act) (w : World) : Prop := e = .normal ∧ a.defers = [] ∧ ∃ L, Hp w0 L w ∧ N a.tmps.toList L

/-- These are the operations with these indices, and their order serves. -/
structure Fits (P : Program) (ops : Array Oper) (ts is : List Nat) (l : List Oper) (listed : Array Bool) : Prop where
  len : is.length = l.length
  at_ : ∀ j : Nat, l[j]? = (is[j]?).bind fun i : Nat => ops[i]?
  sel : Region.noSelect ops = true
  order : orderB P ops ts is listed = true

/-- A list of operations of a region 'ops', from a frame, where L is known. -/
def Ow (P : Program) (w0 : World) (ops : Array Oper) (md : Md) (l : List Oper) (f : Fr) (L : Heap) (N : Fr → Heap → Prop) : Prop :=
  match md with
  | .seq => ∀ w, Hp w0 L w → wpList P ops (postN w0 N) l (act f) w
  | .qui is ts => ∀ listed, Fits P ops ts is l listed → (∀ t, t ∈ ts → listed.getD t true = false) → ∀ w, Hp w0 L w → wpAnyG P ops (postN w0 N) ts (Hp w0 L) l.length listed (act f) w
  | .any is ts => ∀ listed, Fits P ops ts is l listed → (∃ t ∈ ts, listed.getD t true = true) → ∀ w, Hp w0 L w → wpAny P .any ops (postN w0 N) l.length listed (act f) w

def Md.next : Md → Md
  | .seq => .seq
  | .qui is ts => match is with
    | k :: is => if ts.contains k then .any is ts else .qui is ts
    | [] => .qui [] ts
  | .any is ts => .any is.tail ts

/-- Behind an operation that may turn something; none: it must not come here. -/
def Md.turn : Md → Option Md
  | .seq => some .seq
  | .qui is ts => match is with
    | k :: is => if ts.contains k then some (.any is ts) else none
    | [] => none
  | .any is ts => some (.any is.tail ts)

def skipped (ops : Array Oper) (f : Fr) (o : Oper) : Bool :=
  match o.guard with
  | none => false
  | some (j, want) => !(yieldF ops f j == some want)

theorem wanted_eq (ops : Array Oper) (f : Fr) (o : Oper) : Region.wanted o (yielded ops (act f).tmps) = !skipped ops f o := by
  unfold Region.wanted skipped
  cases o.guard with
  | none => rfl
  | some p => simp only [act, yielded_eq, Bool.not_not]

section
variable {P : Program} {w0 : World} {f : Fr} {L : Heap} {K : Kont} {N : Fr → Heap → Prop} {ops : Array Oper} {o : Oper} {rest : List Oper} {md : Md} {ts is : List Nat} {listed : Array Bool}

theorem Fits.nil (h : Fits P ops ts is [] listed) : is = [] ∧ Region.ready .any ops listed = [] := by
  have := h.len
  have hi : is = [] := by cases is with | nil => rfl | cons _ _ => cases this
  subst hi
  exact ⟨rfl, by simpa [orderB] using h.order⟩

theorem Fits.cons (h : Fits P ops ts is (o :: rest) listed) : ∃ k is', is = k :: is' ∧ ops[k]? = some o ∧ Fits P ops ts is' rest (listed.setIfInBounds k true) ∧
    ((pureK P o.op = true ∨ readK o.op = true) → k ∉ ts) ∧ (Region.ready .any ops listed = [k] ∨ (k ∉ ts ∧ k ∈ Region.ready .any ops listed ∧ Region.free .any ops listed k = true ∧
      (pureK P o.op = true ∨ (readK o.op = true ∧ waitsB ops ts listed k = true ∧ ∀ t, t ∈ ts → listed.getD t true = false)))) := by
  cases is with
  | nil => have := h.len; cases this
  | cons k is' =>
    have hk : ops[k]? = some o := by have := h.at_ 0; simpa using this.symm
    have ho := h.order
    simp only [orderB, hk, Bool.and_eq_true, Bool.or_eq_true, beq_iff_eq, Bool.not_eq_true', List.contains_eq_mem, decide_eq_true_eq, decide_eq_false_iff_not, List.all_eq_true, Bool.and_eq_false_iff, Bool.or_eq_false_iff] at ho
    refine ⟨k, is', rfl, hk, ⟨by have := h.len; simpa using this, fun j => by have := h.at_ (j + 1); simpa using this, h.sel, ho.2⟩, ?_⟩
    rcases ho.1 with ⟨h1, h2⟩ | ⟨⟨⟨h1, h2⟩, h3⟩, h4⟩
    · refine ⟨fun hx => ?_, .inl h1⟩
      rcases h2 with h2 | ⟨h2, h3⟩
      · exact h2
      · rcases hx with hx | hx
        · rw [hx] at h2; cases h2
        · rw [hx] at h3; cases h3
    · refine ⟨fun _ => h1, .inr ⟨h1, h2, h3, ?_⟩⟩
      rcases h4 with h4 | ⟨⟨h4, h5⟩, h6⟩
      · exact .inl h4
      · exact .inr ⟨h4, h5, h6⟩

theorem Ow.nil (h : N f L) : Ow P w0 ops md [] f L N := by
  cases md with
  | seq => exact fun w hw => wpList_nil ⟨rfl, rfl, L, hw, by simpa [act] using h⟩
  | qui is ts =>
    intro listed hF ht w hw
    exact ⟨fun _ => hw, hF.nil.2, rfl, rfl, L, hw, by simpa [act] using h⟩
  | any is ts =>
    intro listed hF ht w hw
    exact wpAny_done hF.nil.2 ⟨rfl, rfl, L, hw, by simpa [act] using h⟩ 0

theorem postN_post {w0 : World} {K : Kont} {e : Exit} {a : Act} {w : World} (h : postN w0 (K .normal) e a w) : post w0 K e a w := by
  obtain ⟨rfl, hd, L, hp, hk⟩ := h
  exact ⟨hd, L, hp, hk⟩

theorem postN_panic {w0 : World} {N : Fr → Heap → Prop} {c : List PanicEntry} {a a' : Act} {w : World} (h : postN w0 N (.panic c) a w) : postN w0 N (.panic c) a' w := by
  obtain ⟨h, _⟩ := h; cases h

theorem Cw.region {id : Nat} {l : List Oper} (h : Ow P w0 l.toArray .seq l f L (K .normal)) : Cw P w0 (.region id l.toArray false) f L K :=
  fun w hw => wp_mono (wp_region_lit (h w hw)) fun _ _ _ h => postN_post h

/-- The check of an order: it lists every operation once, what turns something among them; and it serves. -/
def orderOk (P : Program) (l : List Oper) (is ts : List Nat) : Bool :=
  Region.noSelect l.toArray && is.length == l.length && (ts.all fun t => decide (t < l.length)) && orderB P l.toArray ts is (Array.replicate l.length false)

/-- The operations with these indices. -/
def nthO : List Oper → Nat → Option Oper
  | [], _ => none
  | o :: _, 0 => some o
  | _ :: r, n + 1 => nthO r n
def consO : Option Oper → List Oper → List Oper
  | some o, l => o :: l
  | none, l => l
def pickL (l : List Oper) : List Nat → List Oper
  | [] => []
  | i :: is => consO (nthO l i) (pickL l is)
def nl (l : List Oper) (k : List Oper → Prop) : Prop := k l
@[congr] theorem nl_congr {x y : List Oper} {k : List Oper → Prop} (h : x = y) : nl x k = nl y k := by rw [h]
theorem nl_cons (o : Oper) (r : List Oper) (k : List Oper → Prop) : nl (o :: r) k = k (o :: r) := (rfl)
theorem nthO_0 (o : Oper) (r : List Oper) : nthO (o :: r) 0 = some o := (rfl)
theorem nthO_s (o : Oper) (r : List Oper) (n : Nat) : nthO (o :: r) (n + 1) = nthO r n := (rfl)
theorem consO_some (o : Oper) (l : List Oper) : consO (some o) l = o :: l := (rfl)
theorem pickL_nil (l : List Oper) : pickL l [] = [] := (rfl)
theorem pickL_cons (l : List Oper) (i : Nat) (is : List Nat) : pickL l (i :: is) = consO (nthO l i) (pickL l is) := (rfl)

/-- A region that asks the tape: by one order. -/
theorem Cw.regionO {id : Nat} {l : List Oper} (is ts : List Nat) (hm : P.follows .mixedOrders = true) (hB : orderOk P l is ts = true) (hl : is.map (fun i : Nat => l[i]?) = (pickL l is).map some)
    (h : nl (pickL l is) fun l' => Ow P w0 l.toArray (.qui is ts) l' f L (K .normal)) : Cw P w0 (.region id l.toArray true) f L K := by
  revert hl h
  generalize pickL l is = l'
  intro hl h w hw
  simp only [orderOk, Bool.and_eq_true, beq_iff_eq, List.all_eq_true, decide_eq_true_eq] at hB
  obtain ⟨⟨⟨h1, h2⟩, h3⟩, h4⟩ := hB
  have hlen : is.length = l'.length := by have := congrArg List.length hl; simpa using this
  refine wp_mono (wp_region_any hm ?_) fun _ _ _ h => postN_post h
  have hF : Fits P l.toArray ts is l' (Array.replicate l.length false) := ⟨hlen, fun j => by
    have := congrArg (·[j]?) hl
    simp only [List.getElem?_map] at this
    cases hj : is[j]? with
    | none =>
      rw [hj] at this
      simp only [Option.map_none] at this
      cases hj' : l'[j]? with
      | none => rfl
      | some x => rw [hj'] at this; cases this
    | some i =>
      rw [hj] at this
      simp only [Option.map_some] at this
      cases hj' : l'[j]? with
      | none => rw [hj'] at this; cases this
      | some x =>
        rw [hj'] at this
        simp only [Option.map_some, Option.some.injEq] at this
        simp [this], h1, h4⟩
  have := (h : Ow P w0 l.toArray (.qui is ts) l' f L (K .normal)) (Array.replicate l.length false) hF (fun t ht => by have := h3 t ht; simp [this]) _ hw.drew
  rw [← hlen, h2] at this
  have := wpAny_of_G _ _ _ _ this
  simpa using this

/-- An operation, by its run. -/
def OpS (P : Program) (w0 : World) (f : Fr) (L : Heap) (o : Oper) (M : Value → Heap → Prop) : Prop :=
  ∀ w, Hp w0 L w →
    (∃ v w' L', (execOp (ev f) o).run P w = .ok (.value v) w' ∧ Hp w0 L' w' ∧ M v L') ∨
    (∃ w' L', (execOp (ev f) o).run P w = .ok .skip w' ∧ Hp w0 L' w' ∧ M undef L') ∨
    (∃ k args w1, (execOp (ev f) o).run P w = .ok (.enter k args) w1 ∧ Calls P k args w1 fun e w' => ∃ v L', e = .returned v ∧ Hp w0 L' w' ∧ M v L')

theorem OpS.wp {M : Value → Heap → Prop} {next : Act → World → Prop} {Q : Exit → Act → World → Prop} (h : OpS P w0 f L o M)
    (hn : ∀ v L' w', Hp w0 L' w' → M v L' → next (act (putF f o.dst v)) w') {w : World} (hw : Hp w0 L w) : o.wp P (act f) w next Q := by
  unfold Oper.wp
  rw [act_eval']
  rcases h w hw with ⟨v, w', L', hr, hp, hm⟩ | ⟨w', L', hr, hp, hm⟩ | ⟨k, args, w1, hr, hc⟩
  · rw [hr, Oper.upon_value, act_put]; exact hn _ _ _ hp hm
  · rw [hr, Oper.upon_skip, act_put]; exact hn _ _ _ hp hm
  · rw [hr, Oper.upon_enter]
    refine hc.mono ?_
    rintro e w' ⟨v, L', rfl, hp, hm⟩
    show next ((act f).put o.dst v) w'
    rw [act_put]; exact hn _ _ _ hp hm

theorem OpS.mono {M M' : Value → Heap → Prop} (h : OpS P w0 f L o M) (hm : ∀ v L, M v L → M' v L) : OpS P w0 f L o M' := fun w hw => by
  rcases h w hw with ⟨v, w', L', hr, hp, h1⟩ | ⟨w', L', hr, hp, h1⟩ | ⟨k, args, w1, hr, hc⟩
  · exact .inl ⟨v, w', L', hr, hp, hm _ _ h1⟩
  · exact .inr (.inl ⟨w', L', hr, hp, hm _ _ h1⟩)
  · exact .inr (.inr ⟨k, args, w1, hr, hc.mono fun e w' ⟨v, L', he, hp, h1⟩ => ⟨v, L', he, hp, hm _ _ h1⟩⟩)

theorem set_here {i : Nat} (h : listed.getD i true = false) : (listed.setIfInBounds i true).getD i true = true := by
  have hlt : i < listed.size := by
    rcases Nat.lt_or_ge i listed.size with h' | h'
    · exact h'
    · simp [Array.getElem?_eq_none h'] at h
  simp [hlt]

theorem still_no {i : Nat} (hit : i ∉ ts) (ht : ∀ t, t ∈ ts → listed.getD t true = false) : ∀ t, t ∈ ts → (listed.setIfInBounds i true).getD t true = false :=
  fun t ht' => by rw [getD_set_ne true (fun (e : i = t) => hit (by rw [e]; exact ht'))]; exact ht t ht'

/-- Behind the first that turns something, one operation alone. -/
theorem any_one {k : Nat} (hk : ops[k]? = some o) (hr : Region.ready .any ops listed = [k]) (hs : skipped ops f o = false) {n : Nat} {M : Value → Heap → Prop} (h : OpS P w0 f L o M)
    (hn : ∀ v L' w', Hp w0 L' w' → M v L' → wpAny P .any ops (postN w0 N) n (listed.setIfInBounds k true) (act (putF f o.dst v)) w') {w : World} (hw : Hp w0 L w) : wpAny P .any ops (postN w0 N) (n + 1) listed (act f) w := by
  refine wpAny_all hr (by simp) ?_
  intro i hi
  simp only [List.mem_singleton] at hi
  subst hi
  unfold wpOp
  simp only [hk, wanted_eq, hs, Bool.not_false, ↓reduceIte]
  exact .inl (h.wp hn hw)

theorem Ow.step {md' : Md} (he : md.turn = some md') (hp : pureK P o.op = false) (hs : skipped ops f o = false) (h : OpS P w0 f L o (fun v L' => Ow P w0 ops md' rest (putF f o.dst v) L' N)) : Ow P w0 ops md (o :: rest) f L N := by
  cases md with
  | seq =>
    cases he
    intro w hw
    unfold wpList
    rw [wanted_eq, hs]
    simp only [Bool.not_false, ↓reduceIte]
    exact .inl (h.wp (fun v L' w' hp hm => hm w' hp) hw)
  | any is ts =>
    cases he
    intro listed hF ht w hw
    obtain ⟨k, is', rfl, hk, hF', hpt, hc⟩ := hF.cons
    obtain ⟨t, ht1, ht2⟩ := ht
    have hr : Region.ready .any ops listed = [k] := by
      rcases hc with hc | ⟨_, _, _, hc | ⟨_, _, hc⟩⟩
      · exact hc
      · rw [hp] at hc; cases hc
      · rw [hc t ht1] at ht2; cases ht2
    exact any_one hk hr hs h (fun v L' w' hp hm => hm _ hF' ⟨t, ht1, getD_keep ht2⟩ w' hp) hw
  | qui is ts =>
    intro listed hF ht w hw
    obtain ⟨k, is', rfl, hk, hF', hpt, hc⟩ := hF.cons
    simp only [Md.turn] at he
    split at he
    · rename_i hkt
      cases he
      have hkt' : k ∈ ts := by simpa using hkt
      have hr : Region.ready .any ops listed = [k] := by
        rcases hc with hc | ⟨hc, _⟩
        · exact hc
        · exact absurd hkt' hc
      have hset := set_here (ht k hkt')
      refine ⟨fun _ => hw, (fun h => by rw [hr] at h; cases h), ?_⟩
      intro i hi
      rw [hr, List.mem_singleton] at hi
      subst hi
      unfold wpOp
      simp only [hk, wanted_eq, hs, Bool.not_false, ↓reduceIte]
      exact .inl (h.wp (fun v L' w' hp hm => G_of_any _ _ _ _ ⟨i, hkt', hset⟩ (hm _ hF' ⟨i, hkt', hset⟩ w' hp)) hw)
    · cases he

/-- What leaves the known blocks as they are, in every kind of region. -/
theorem Ow.calm {v : Value} (hp : pureK P o.op = false) (hr0 : readK o.op = false) (hs : skipped ops f o = false) (h : OpS P w0 f L o (fun v' L' => v' = v ∧ L' = L))
    (hn : Ow P w0 ops md.next rest (putF f o.dst v) L N) : Ow P w0 ops md (o :: rest) f L N := by
  cases md with
  | seq => exact Ow.step rfl hp hs (h.mono fun v' L' ⟨h1, h2⟩ => by rw [h1, h2]; exact hn)
  | any is ts => exact Ow.step rfl hp hs (h.mono fun v' L' ⟨h1, h2⟩ => by rw [h1, h2]; exact hn)
  | qui is ts =>
    intro listed hF ht w hw
    obtain ⟨k, is', rfl, hk, hF', hpt, hc⟩ := hF.cons
    have hr : Region.ready .any ops listed = [k] := by
      rcases hc with hc | ⟨_, _, _, hc | ⟨hc, _⟩⟩
      · exact hc
      · rw [hp] at hc; cases hc
      · rw [hr0] at hc; cases hc
    refine ⟨fun _ => hw, (fun h => by rw [hr] at h; cases h), ?_⟩
    intro i hi
    rw [hr, List.mem_singleton] at hi
    subst hi
    unfold wpOp
    simp only [hk, wanted_eq, hs, Bool.not_false, ↓reduceIte]
    refine .inl (h.wp (fun v' L' w' hp hm => ?_) hw)
    obtain ⟨rfl, rfl⟩ := hm
    simp only [Md.next] at hn
    split at hn
    · rename_i hkt
      have hit : i ∈ ts := by simpa using hkt
      have hset := set_here (ht i hit)
      exact G_of_any _ _ _ _ ⟨i, hit, hset⟩ (hn _ hF' ⟨i, hit, hset⟩ w' hp)
    · rename_i hkt
      have hit : i ∉ ts := by simpa using hkt
      exact hn _ hF' (still_no hit ht) w' hp

theorem first_of {k : Nat} (hk : ops[k]? = some o) (h1 : k ∈ Region.ready .any ops listed) (h2 : Region.free .any ops listed k = true)
    (h3 : pureK P o.op = true ∨ (readK o.op = true ∧ waitsB ops ts listed k = true ∧ ∀ t, t ∈ ts → listed.getD t true = false)) : First ops ts k o (pureK P o.op = true) listed := by
  refine ⟨h1, Region.free_spec hk h2, h3.imp id fun ⟨_, hw, _⟩ => ?_⟩
  intro j oj hj hne hun hno hmem
  simp only [waitsB, List.all_eq_true, List.mem_range] at hw
  have := hw j (Array.getElem?_eq_some_iff.1 hj).1
  simp only [Bool.or_eq_true, beq_iff_eq, hne, hun, Bool.not_eq_true', List.contains_eq_mem, decide_eq_false_iff_not, hmem, not_true_eq_false, hj, false_or, Bool.false_eq_true] at this
  obtain ⟨e, he, hb⟩ := Array.any_eq_true'.1 this
  simp only [Bool.and_eq_true, beq_iff_eq] at hb
  exact hno e he hb.1 hb.2

theorem Ow.skip (hs : skipped ops f o = true) (h : Ow P w0 ops md.next rest (putF f o.dst undef) L N) : Ow P w0 ops md (o :: rest) f L N := by
  have hw0 : Region.wanted o (yielded ops (act f).tmps) = false := by rw [wanted_eq, hs]; rfl
  cases md with
  | seq =>
    intro w hw
    unfold wpList
    rw [hw0]
    simp only [Bool.false_eq_true, ↓reduceIte]
    rw [act_put]
    exact h w hw
  | any is ts =>
    intro listed hF ht w hw
    obtain ⟨k, is', rfl, hk, hF', hpt, hc⟩ := hF.cons
    obtain ⟨t, ht1, ht2⟩ := ht
    have hgo := h _ hF' ⟨t, ht1, getD_keep ht2⟩ w hw
    rcases hc with hc | ⟨hc1, hc2, hc3, hc4⟩
    · refine wpAny_all hc (by simp) ?_
      intro i hi
      simp only [List.mem_singleton] at hi
      subst hi
      unfold wpOp
      simp only [hk, hw0, Bool.false_eq_true, ↓reduceIte]
      rw [act_put]; exact hgo
    · refine wpAny_take (v := undef) hk hF.sel hc3 (by simpa using hc2) (fun c a w h => postN_panic h) (.inr ⟨hw0, rfl⟩) ?_
      rw [act_put]; exact hgo
  | qui is ts =>
    intro listed hF ht w hw
    obtain ⟨k, is', rfl, hk, hF', hpt, hc⟩ := hF.cons
    simp only [Md.next] at h
    rcases hc with hc | ⟨hc1, hc2, hc3, hc4⟩
    · refine ⟨fun _ => hw, fun h => (by rw [hc] at h; cases h), ?_⟩
      intro i hi
      rw [hc, List.mem_singleton] at hi
      subst hi
      unfold wpOp
      simp only [hk, hw0, Bool.false_eq_true, ↓reduceIte]
      rw [act_put]
      split at h
      · rename_i hkt
        have hit : i ∈ ts := by simpa using hkt
        have hset := set_here (ht i hit)
        exact G_of_any _ _ _ _ ⟨i, hit, hset⟩ (h _ hF' ⟨i, hit, hset⟩ w hw)
      · rename_i hkt
        exact h _ hF' (still_no (by simpa using hkt) ht) w hw
    · rw [if_neg (by simpa using hc1)] at h
      refine G_first hk hc1 (Region.noSelect_spec hF.sel) (fun c a w h => postN_panic h) _ _ _ _ (first_of (P := P) hk hc2 hc3 hc4) (.inr ht) (.inr ⟨hw0, rfl⟩) ?_
      rw [act_put]; exact h _ hF' (still_no hc1 ht) w hw

theorem evalV_pure {op : Op} {v : Value} (hp : pureK P op = true) (h : evalV P w0 L f op = some v) (w : World) : evalV P w [] f op = some v := by
  cases op <;> simp only [pureK, Bool.false_eq_true] at hp <;> first
    | exact h
    | skip
  · rename_i s d x
    simp only [evalV] at h ⊢
    cases hc : cvT P s d <;> rw [hc] at h hp <;> first
      | exact h
      | cases hp
  · rename_i t x lo hi mx
    cases mx <;> exact h
  · rename_i c
    obtain ⟨cl, args, ts⟩ := c
    cases cl with
    | builtin b => cases b <;> first | exact h | cases hp
    | value x => cases hp
    | invoke x m => cases hp

theorem evalV_kind {op : Op} {v : Value} (h : evalV P w0 L f op = some v) : pureK P op = true ∨ readK op = true := by
  unfold evalV at h
  split at h <;> first
    | exact .inl rfl
    | exact .inr rfl
    | cases h

theorem Ow.value {v : Value} (hs : skipped ops f o = false) (hv : evalV P w0 L f o.op = some v) (h : Ow P w0 ops md.next rest (putF f o.dst v) L N) : Ow P w0 ops md (o :: rest) f L N := by
  have hw0 : Region.wanted o (yielded ops (act f).tmps) = true := by rw [wanted_eq, hs]; rfl
  have hS : OpS P w0 f L o (fun v' L' => v' = v ∧ L' = L) := fun w hw => .inl ⟨v, w, L, run_evalV hw hv, hw, rfl, rfl⟩
  have hY : YieldsC P ops (Hp w0 L) (pureK P o.op = true) o v (act f) := by
    refine .inl ⟨hw0, fun w hw => ?_⟩
    rw [act_eval']
    rcases hw with hp | hw
    · exact run_evalV (Hp.refl w) (evalV_pure hp hv w)
    · exact run_evalV hw hv
  cases md with
  | seq =>
    intro w hw
    unfold wpList
    rw [hw0]
    simp only [↓reduceIte]
    exact .inl (hS.wp (fun v' L' w' hp hm => by obtain ⟨rfl, rfl⟩ := hm; exact h w' hp) hw)
  | any is ts =>
    intro listed hF ht w hw
    obtain ⟨k, is', rfl, hk, hF', hpt, hc⟩ := hF.cons
    obtain ⟨t, ht1, ht2⟩ := ht
    have hgo := fun w hw => h _ hF' ⟨t, ht1, getD_keep ht2⟩ w hw
    rcases hc with hc | ⟨hc1, hc2, hc3, hc4 | ⟨_, _, hc4⟩⟩
    · exact any_one hk hc hs hS (fun v' L' w' hp hm => by obtain ⟨rfl, rfl⟩ := hm; exact hgo w' hp) hw
    · refine wpAny_take (v := v) hk hF.sel hc3 (by simpa using hc2) (fun c a w h => postN_panic h) (.inl ⟨hw0, fun w => ?_⟩) ?_
      · rw [act_eval']; exact run_evalV (Hp.refl w) (evalV_pure hc4 hv w)
      · rw [act_put]; exact hgo w hw
    · rw [hc4 t ht1] at ht2; cases ht2
  | qui is ts =>
    intro listed hF ht w hw
    obtain ⟨k, is', rfl, hk, hF', hpt, hc⟩ := hF.cons
    have hit : k ∉ ts := hpt (evalV_kind hv)
    simp only [Md.next] at h
    rw [if_neg (by simpa using hit)] at h
    have hgo := fun w hw => h _ hF' (still_no hit ht) w hw
    rcases hc with hc | ⟨hc1, hc2, hc3, hc4⟩
    · refine ⟨fun _ => hw, fun h => (by rw [hc] at h; cases h), ?_⟩
      intro i hi
      rw [hc, List.mem_singleton] at hi
      subst hi
      unfold wpOp
      simp only [hk, hw0, ↓reduceIte]
      exact .inl (hS.wp (fun v' L' w' hp hm => by obtain ⟨rfl, rfl⟩ := hm; exact hgo w' hp) hw)
    · refine G_first hk hc1 (Region.noSelect_spec hF.sel) (fun c a w h => postN_panic h) _ _ _ _ (first_of (P := P) hk hc2 hc3 hc4) (.inr ht) hY ?_
      rw [act_put]; exact hgo w hw

theorem Ow.store {t : TypeId} {a x : Operand} {L' : Heap} {md' : Md} (he : md.turn = some md') (hs : skipped ops f o = false) (ho : o.op = .store t a x) (hv : storeAtV (aggT P t) L (ev f a) (ev f x) = some L') (h : Ow P w0 ops md' rest (putF f o.dst undef) L' N) : Ow P w0 ops md (o :: rest) f L N :=
  Ow.step he (by rw [ho]; rfl) hs fun w hw => by
    obtain ⟨w', hr, hp⟩ := run_storeAtV hw hv
    refine .inr (.inl ⟨w', L', ?_, hp, h⟩)
    simp only [execOp, ho, Sem.run_bind, hr]; rfl
end

/-! ### The walk by reckoning -/
inductive Kind where
  | value | store (t : TypeId) (a x : Operand) | other

def kindOf : Op → Kind
  | .move _ => .value
  | .assign _ => .value
  | .pick .. => .value
  | .binOp .. => .value
  | .unOp .. => .value
  | .convert .. => .value
  | .nilCheck _ => .value
  | .fieldAddr .. => .value
  | .field .. => .value
  | .indexAddr .. => .value
  | .index .. => .value
  | .load .. => .value
  | .extract .. => .value
  | .slice .. => .value
  | .makeFunc .. => .value
  | .call ⟨.builtin .len, _, _⟩ => .value
  | .call ⟨.builtin .cap, _, _⟩ => .value
  | .store t a x => .store t a x
  | _ => .other

def ov (x : Option Value) (k : Value → Prop) : Prop := match x with | some v => k v | none => False
def oh (x : Option Heap) (k : Heap → Prop) : Prop := match x with | some v => k v | none => False
/-- A frame that is to be written out. -/
def nf (f : Fr) (k : Fr → Prop) : Prop := k f
/-- Known blocks that are to be written out. -/
def nh (L : Heap) (k : Heap → Prop) : Prop := k L
@[congr] theorem ov_congr {x y : Option Value} {k : Value → Prop} (h : x = y) : ov x k = ov y k := by rw [h]
@[congr] theorem oh_congr {x y : Option Heap} {k : Heap → Prop} (h : x = y) : oh x k = oh y k := by rw [h]
@[congr] theorem nf_congr {x y : Fr} {k : Fr → Prop} (h : x = y) : nf x k = nf y k := by rw [h]
@[congr] theorem nh_congr {x y : Heap} {k : Heap → Prop} (h : x = y) : nh x k = nh y k := by rw [h]
theorem ov_some (v : Value) (k : Value → Prop) : ov (some v) k = k v := (rfl)
theorem oh_some (v : Heap) (k : Heap → Prop) : oh (some v) k = k v := (rfl)
theorem nf_cons (v : Value) (r : Fr) (k : Fr → Prop) : nf (v :: r) k = k (v :: r) := (rfl)
theorem nf_nil (k : Fr → Prop) : nf [] k = k [] := (rfl)
theorem nh_cons (v : Nat × Obj) (r : Heap) (k : Heap → Prop) : nh (v :: r) k = k (v :: r) := (rfl)
theorem nh_nil (k : Heap → Prop) : nh [] k = k [] := (rfl)

/-- If a Bool is so, one thing; else another. -/
def ib (b : Bool) (x y : Prop) : Prop := match b with | true => x | false => y
@[congr] theorem ib_congr {a b : Bool} {x y : Prop} (h : a = b) : ib a x y = ib b x y := by rw [h]
theorem ib_true (x y : Prop) : ib true x y = x := (rfl)
theorem ib_false (x y : Prop) : ib false x y = y := (rfl)

/-- One operation that is not passed over; 'go' is what follows. -/
def vcB (P : Program) (w0 : World) (st : Bool) (o : Oper) (f : Fr) (L : Heap) (go : Fr → Heap → Prop) (stop : Prop) : Prop :=
  match kindOf o.op with
  | .value => ov (evalV P w0 L f o.op) fun v => nf (putF f o.dst v) fun f' => go f' L
  | .store t a x => ib st (oh (storeAtV (aggT P t) L (ev f a) (ev f x)) fun L' => nh L' fun L' => nf (putF f o.dst undef) fun f' => go f' L') stop
  | .other => stop

def vcL (P : Program) (w0 : World) (ops : Array Oper) (st : Bool) (md : Md) : List Oper → Fr → Heap → (Md → List Oper → Fr → Heap → Prop) → Prop
  | [], f, L, k => k md [] f L
  | o :: rest, f, L, k =>
    ib (skipped ops f o) (nf (putF f o.dst undef) fun f' => vcL P w0 ops st md.next rest f' L k)
      (vcB P w0 st o f L (fun f' L' => vcL P w0 ops st md.next rest f' L' k) (k md (o :: rest) f L))

/-- May stores be carried out as they come? -/
def Md.eff : Md → Bool
  | .seq => true
  | .qui _ _ => false
  | .any _ _ => true
theorem Md.turn_eff {md : Md} (h : md.eff = true) : md.turn = some md.next := by
  cases md <;> first | rfl | cases h
theorem Md.next_eff {md : Md} (h : md.eff = true) : md.next.eff = true := by
  cases md <;> first | rfl | cases h

theorem kindOf_store {op : Op} {t : TypeId} {a x : Operand} (h : kindOf op = .store t a x) : op = .store t a x := by
  unfold kindOf at h
  split at h <;> first | (cases h; done) | (cases h; rfl)

theorem vcL_sound {P : Program} {w0 : World} {ops : Array Oper} {N : Fr → Heap → Prop} (k : Md → List Oper → Fr → Heap → Prop) (hk : ∀ md l f L, k md l f L → Ow P w0 ops md l f L N) (st : Bool) :
    ∀ (l : List Oper) (md : Md) (f : Fr) (L : Heap), (st = true → md.eff = true) → vcL P w0 ops st md l f L k → Ow P w0 ops md l f L N
  | [], md, f, L, _, h => hk _ _ _ _ h
  | o :: rest, md, f, L, hst, h => by
    unfold vcL at h
    have hst' : st = true → md.next.eff = true := fun e => Md.next_eff (hst e)
    cases hs : skipped ops f o with
    | true =>
      rw [hs] at h
      exact Ow.skip hs (vcL_sound k hk st rest _ _ L hst' h)
    | false =>
      rw [hs] at h
      simp only [ib, vcB] at h
      split at h
      · cases hv : evalV P w0 L f o.op with
        | none => rw [hv] at h; exact h.elim
        | some v => rw [hv] at h; exact Ow.value hs hv (vcL_sound k hk st rest _ _ L hst' h)
      · rename_i t a x hkd
        cases st with
        | true =>
          simp only at h
          cases hv : storeAtV (aggT P t) L (ev f a) (ev f x) with
          | none => rw [hv] at h; exact h.elim
          | some L' =>
            rw [hv] at h
            exact Ow.store (Md.turn_eff (hst rfl)) hs (kindOf_store hkd) hv (vcL_sound k hk true rest _ _ L' hst' h)
        | false => exact hk _ _ _ _ h
      · exact hk _ _ _ _ h

/-- What follows stands behind a name. -/
theorem Ow.run {P : Program} {w0 : World} {ops : Array Oper} {md : Md} {N : Fr → Heap → Prop} {l : List Oper} {f : Fr} {L : Heap} (he : md.eff = true)
    (h : ∀ k : Md → List Oper → Fr → Heap → Prop, (∀ md l f L, Ow P w0 ops md l f L N → k md l f L) → vcL P w0 ops true md l f L k) : Ow P w0 ops md l f L N :=
  vcL_sound (fun md l f L => Ow P w0 ops md l f L N) (fun _ _ _ _ h => h) true l md f L (fun _ => he) (h _ fun _ _ _ _ h => h)
theorem Ow.runQ {P : Program} {w0 : World} {ops : Array Oper} {md : Md} {N : Fr → Heap → Prop} {l : List Oper} {f : Fr} {L : Heap}
    (h : ∀ k : Md → List Oper → Fr → Heap → Prop, (∀ md l f L, Ow P w0 ops md l f L N → k md l f L) → vcL P w0 ops false md l f L k) : Ow P w0 ops md l f L N :=
  vcL_sound (fun md l f L => Ow P w0 ops md l f L N) (fun _ _ _ _ h => h) false l md f L (fun e => by cases e) (h _ fun _ _ _ _ h => h)

theorem Md.next_seq : Md.seq.next = .seq := (rfl)
theorem Md.next_any (k : Nat) (is ts : List Nat) : (Md.any (k :: is) ts).next = .any is ts := (rfl)
theorem Md.next_qui (k : Nat) (is ts : List Nat) : (Md.qui (k :: is) ts).next = if ts.contains k then .any is ts else .qui is ts := (rfl)

def boolOf : Value → Option Bool
  | .bool b => some b
  | _ => none
def yieldL (o : Option Oper) (f : Fr) : Option Bool :=
  match o with
  | some o => match o.dst with
    | some d => boolOf (getF f d)
    | none => none
  | none => none
theorem nthO_eq (l : List Oper) (j : Nat) : nthO l j = l[j]? := by
  induction l generalizing j with
  | nil => rfl
  | cons o r ih => cases j <;> simp [nthO, ih]
theorem yieldF_lit (l : List Oper) (f : Fr) (j : Nat) : yieldF l.toArray f j = yieldL (nthO l j) f := by
  unfold yieldF yieldL
  rw [nthO_eq, List.getElem?_toArray]
  cases l[j]? with
  | none => rfl
  | some o =>
    simp only [Option.bind_some]
    cases o.dst with
    | none => rfl
    | some d =>
      simp only
      cases getF f d <;> rfl
theorem yieldL_some (d : Tmp) (op : Op) (ty : TypeId) (ps : String) (af : Array Edge) (g : Option (Nat × Bool)) (f : Fr) : yieldL (some ⟨some d, op, ty, ps, af, g⟩) f = boolOf (getF f d) := (rfl)
theorem boolOf_b (b : Bool) : boolOf (.bool b) = some b := (rfl)
theorem boolOf_undef : boolOf undef = none := (rfl)
theorem some_beq (a b : Bool) : ((some a : Option Bool) == some b) = (a == b) := (rfl)
theorem none_beq (b : Bool) : ((none : Option Bool) == some b) = false := (rfl)

section
variable (P : Program) (w0 : World) (ops : Array Oper) (rest : List Oper) (f : Fr) (L : Heap) (k : Md → List Oper → Fr → Heap → Prop)
  (st : Bool) (md : Md) (d : Option Tmp) (ty : TypeId) (ps : String) (af : Array Edge)

theorem vcL_nil : vcL P w0 ops st md [] f L k = k md [] f L := (rfl)
theorem vcL_none (op : Op) : vcL P w0 ops st md (⟨d, op, ty, ps, af, none⟩ :: rest) f L k =
    vcB P w0 st ⟨d, op, ty, ps, af, none⟩ f L (fun f' L' => vcL P w0 ops st md.next rest f' L' k) (k md (⟨d, op, ty, ps, af, none⟩ :: rest) f L) := (rfl)
theorem vcL_some (op : Op) (j : Nat) (b : Bool) : vcL P w0 ops st md (⟨d, op, ty, ps, af, some (j, b)⟩ :: rest) f L k =
    ib (yieldF ops f j == some b) (vcB P w0 st ⟨d, op, ty, ps, af, some (j, b)⟩ f L (fun f' L' => vcL P w0 ops st md.next rest f' L' k) (k md (⟨d, op, ty, ps, af, some (j, b)⟩ :: rest) f L)) (nf (putF f d undef) fun f' => vcL P w0 ops st md.next rest f' L k) := by
  simp only [vcL, skipped]
  cases (yieldF ops f j == some b) <;> rfl
end
@[congr] theorem vcB_congr {P : Program} {w0 : World} {st : Bool} {o : Oper} {f : Fr} {L : Heap} {go : Fr → Heap → Prop} {stop : Prop} : vcB P w0 st o f L go stop = vcB P w0 st o f L go stop := (rfl)
section
variable (P : Program) (w0 : World) (f : Fr) (L : Heap) (st : Bool) (d : Option Tmp) (ty : TypeId) (ps : String) (af : Array Edge) (g : Option (Nat × Bool)) (go : Fr → Heap → Prop) (stop : Prop)
theorem vcB_move (x : Operand) : vcB P w0 st ⟨d, .move x, ty, ps, af, g⟩ f L go stop = ov (some (ev f x)) fun v => nf (putF f d v) fun f' => go f' L := (rfl)
theorem vcB_assign (x : Operand) : vcB P w0 st ⟨d, .assign x, ty, ps, af, g⟩ f L go stop = ov (some (ev f x)) fun v => nf (putF f d v) fun f' => go f' L := (rfl)
theorem vcB_pick (c a b : Operand) : vcB P w0 st ⟨d, .pick c a b, ty, ps, af, g⟩ f L go stop = ov (pickV (ev f c) (ev f a) (ev f b)) fun v => nf (putF f d v) fun f' => go f' L := (rfl)
theorem vcB_binOp (op : BinOp) (t t' : TypeId) (x y : Operand) : vcB P w0 st ⟨d, .binOp op t x y t', ty, ps, af, g⟩ f L go stop = ov (binX P op t (ev f x) (ev f y)) fun v => nf (putF f d v) fun f' => go f' L := (rfl)
theorem vcB_unOp (op : UnOp) (t : TypeId) (x : Operand) : vcB P w0 st ⟨d, .unOp op t x, ty, ps, af, g⟩ f L go stop = ov (unV op (ev f x)) fun v => nf (putF f d v) fun f' => go f' L := (rfl)
theorem vcB_convert (s t : TypeId) (x : Operand) : vcB P w0 st ⟨d, .convert s t x, ty, ps, af, g⟩ f L go stop = ov (convV w0 L (cvT P s t) (ev f x)) fun v => nf (putF f d v) fun f' => go f' L := (rfl)
theorem vcB_nilCheck (x : Operand) : vcB P w0 st ⟨d, .nilCheck x, ty, ps, af, g⟩ f L go stop = ov (nilV (ev f x)) fun v => nf (putF f d v) fun f' => go f' L := (rfl)
theorem vcB_fieldAddr (s : TypeId) (x : Operand) (i : Nat) : vcB P w0 st ⟨d, .fieldAddr s x i, ty, ps, af, g⟩ f L go stop = ov (fieldAddrV (fldT P s i) (ev f x)) fun v => nf (putF f d v) fun f' => go f' L := (rfl)
theorem vcB_field (s : TypeId) (x : Operand) (i : Nat) : vcB P w0 st ⟨d, .field s x i, ty, ps, af, g⟩ f L go stop = ov (fieldV (fldT P s i) (ev f x)) fun v => nf (putF f d v) fun f' => go f' L := (rfl)
theorem vcB_indexAddr (t : TypeId) (x i : Operand) : vcB P w0 st ⟨d, .indexAddr t x i, ty, ps, af, g⟩ f L go stop = ov (indexAddrV (ixT P t) (ev f x) (ixI (ev f i))) fun v => nf (putF f d v) fun f' => go f' L := (rfl)
theorem vcB_index (t : TypeId) (x i : Operand) : vcB P w0 st ⟨d, .index t x i, ty, ps, af, g⟩ f L go stop = ov (indexV (ixT P t) (ev f x) (ixI (ev f i))) fun v => nf (putF f d v) fun f' => go f' L := (rfl)
theorem vcB_load (t : TypeId) (x : Operand) : vcB P w0 st ⟨d, .load t x, ty, ps, af, g⟩ f L go stop = ov (loadAtV (aggT P t) w0 L (ev f x)) fun v => nf (putF f d v) fun f' => go f' L := (rfl)
theorem vcB_extract (x : Operand) (i : Nat) : vcB P w0 st ⟨d, .extract x i, ty, ps, af, g⟩ f L go stop = ov (extractV (ev f x) i) fun v => nf (putF f d v) fun f' => go f' L := (rfl)
theorem vcB_slice (t : TypeId) (x : Operand) (lo hi : Option Operand) : vcB P w0 st ⟨d, .slice t x lo hi none, ty, ps, af, g⟩ f L go stop = ov (sliceV (ixT P t) (ev f x) (lo.map fun o => ixI (ev f o)) (hi.map fun o => ixI (ev f o))) fun v => nf (putF f d v) fun f' => go f' L := (rfl)
theorem vcB_makeFunc (fn : Fn) (a b : Array Operand) : vcB P w0 st ⟨d, .makeFunc fn a b, ty, ps, af, g⟩ f L go stop = ov (some (.func fn (a.map (ev f)) (b.map (ev f)))) fun v => nf (putF f d v) fun f' => go f' L := (rfl)
theorem vcB_len (x : Operand) (t : TypeId) : vcB P w0 st ⟨d, .call ⟨.builtin .len, #[x], #[t]⟩, ty, ps, af, g⟩ f L go stop = ov (lenV (ixT P t) (ev f x)) fun v => nf (putF f d v) fun f' => go f' L := (rfl)
theorem vcB_cap (x : Operand) (t : TypeId) : vcB P w0 st ⟨d, .call ⟨.builtin .cap, #[x], #[t]⟩, ty, ps, af, g⟩ f L go stop = ov (capV (ixT P t) (ev f x)) fun v => nf (putF f d v) fun f' => go f' L := (rfl)
theorem vcB_store (t : TypeId) (a x : Operand) : vcB P w0 true ⟨none, .store t a x, ty, ps, af, g⟩ f L go stop = oh (storeAtV (aggT P t) L (ev f a) (ev f x)) fun L' => nh L' fun L' => go f L' := (rfl)
theorem vcB_store_f (t : TypeId) (a x : Operand) : vcB P w0 false ⟨d, .store t a x, ty, ps, af, g⟩ f L go stop = stop := (rfl)
theorem vcB_alloc (t : TypeId) : vcB P w0 st ⟨d, .alloc t, ty, ps, af, g⟩ f L go stop = stop := (rfl)
theorem vcB_box (t : TypeId) (x : Operand) : vcB P w0 st ⟨d, .box t x, ty, ps, af, g⟩ f L go stop = stop := (rfl)
theorem vcB_build (t : TypeId) (x : Array (Nat × Operand)) : vcB P w0 st ⟨d, .build t x, ty, ps, af, g⟩ f L go stop = stop := (rfl)
theorem vcB_buildSlice (t : TypeId) (n : Nat) (x : Array (Nat × Operand)) : vcB P w0 st ⟨d, .buildSlice t n x, ty, ps, af, g⟩ f L go stop = stop := (rfl)
theorem vcB_makeSlice (t : TypeId) (x y : Operand) : vcB P w0 st ⟨d, .makeSlice t x y, ty, ps, af, g⟩ f L go stop = stop := (rfl)
theorem vcB_call (x : Operand) (a : Array Operand) (t : Array TypeId) : vcB P w0 st ⟨d, .call ⟨.value x, a, t⟩, ty, ps, af, g⟩ f L go stop = stop := (rfl)
theorem vcB_append (a : Array Operand) (t : Array TypeId) : vcB P w0 st ⟨d, .call ⟨.builtin .append, a, t⟩, ty, ps, af, g⟩ f L go stop = stop := (rfl)
theorem vcB_copy (a : Array Operand) (t : Array TypeId) : vcB P w0 st ⟨d, .call ⟨.builtin .copy, a, t⟩, ty, ps, af, g⟩ f L go stop = stop := (rfl)
theorem vcB_delete (a : Array Operand) (t : Array TypeId) : vcB P w0 st ⟨d, .call ⟨.builtin .delete, a, t⟩, ty, ps, af, g⟩ f L go stop = stop := (rfl)
theorem vcB_clear (a : Array Operand) (t : Array TypeId) : vcB P w0 st ⟨d, .call ⟨.builtin .clear, a, t⟩, ty, ps, af, g⟩ f L go stop = stop := (rfl)
theorem vcB_max (a : Array Operand) (t : Array TypeId) : vcB P w0 st ⟨d, .call ⟨.builtin .max, a, t⟩, ty, ps, af, g⟩ f L go stop = stop := (rfl)
theorem vcB_min (a : Array Operand) (t : Array TypeId) : vcB P w0 st ⟨d, .call ⟨.builtin .min, a, t⟩, ty, ps, af, g⟩ f L go stop = stop := (rfl)
theorem vcB_makeMap (t : TypeId) (x : Option Operand) : vcB P w0 st ⟨d, .makeMap t x, ty, ps, af, g⟩ f L go stop = stop := (rfl)
theorem vcB_lookup (t : TypeId) (x y : Operand) (c : Bool) : vcB P w0 st ⟨d, .lookup t x y c, ty, ps, af, g⟩ f L go stop = stop := (rfl)
theorem vcB_mapUpdate (t : TypeId) (m x y : Operand) : vcB P w0 st ⟨d, .mapUpdate t m x y, ty, ps, af, g⟩ f L go stop = stop := (rfl)
theorem vcB_range (t : TypeId) (x : Operand) : vcB P w0 st ⟨d, .range t x, ty, ps, af, g⟩ f L go stop = stop := (rfl)
theorem vcB_next (x : Operand) (b : Bool) : vcB P w0 st ⟨d, .next x b, ty, ps, af, g⟩ f L go stop = stop := (rfl)
theorem vcB_insert (t : TypeId) (m x y : Operand) : vcB P w0 st ⟨d, .insert t m x y, ty, ps, af, g⟩ f L go stop = stop := (rfl)
theorem vcB_makeInterface (t : TypeId) (x : Operand) : vcB P w0 st ⟨d, .makeInterface t x, ty, ps, af, g⟩ f L go stop = stop := (rfl)
theorem vcB_mapEntry (t : TypeId) (m x : Operand) : vcB P w0 st ⟨d, .mapEntry t m x, ty, ps, af, g⟩ f L go stop = stop := (rfl)
theorem vcB_entryStore (t : TypeId) (m x y : Operand) : vcB P w0 st ⟨d, .entryStore t m x y, ty, ps, af, g⟩ f L go stop = stop := (rfl)
theorem vcB_entry (x : Operand) : vcB P w0 st ⟨d, .entry x, ty, ps, af, g⟩ f L go stop = stop := (rfl)
end
end Go.Sx
