/-
  The sixth part: calls, new blocks, what a function hands back.
  No conditions.
-/
import Derived.Test.YtbmfinobafcmiaaDoorSx5
namespace Go.Sx
open Go
set_option linter.unusedSimpArgs false

/-! ### What a function hands back -/
def resV (P : Program) (w0 : World) (L : Heap) (f : Fr) : ResultVar → Option Value
  | .tmp t => some (getF f t)
  | .cell a t => loadAtV (aggT P t) w0 L (getF f a)

def cons2 : Option Value → Option (List Value) → Option (List Value)
  | some v, some vs => some (v :: vs)
  | _, _ => none
def resVs (P : Program) (w0 : World) (L : Heap) (f : Fr) : List ResultVar → Option (List Value)
  | [] => some []
  | r :: rs => cons2 (resV P w0 L f r) (resVs P w0 L f rs)

theorem resVs_nil (P : Program) (w0 : World) (L : Heap) (f : Fr) : resVs P w0 L f [] = some [] := (rfl)
theorem resVs_cons (P : Program) (w0 : World) (L : Heap) (f : Fr) (r : ResultVar) (rs : List ResultVar) : resVs P w0 L f (r :: rs) = cons2 (resV P w0 L f r) (resVs P w0 L f rs) := (rfl)
theorem cons2_some (v : Value) (vs : List Value) : cons2 (some v) (some vs) = some (v :: vs) := (rfl)
theorem resV_tmp (P : Program) (w0 : World) (L : Heap) (f : Fr) (t : Tmp) : resV P w0 L f (.tmp t) = some (getF f t) := (rfl)
theorem resV_cell (P : Program) (w0 : World) (L : Heap) (f : Fr) (a : Tmp) (t : TypeId) : resV P w0 L f (.cell a t) = loadAtV (aggT P t) w0 L (getF f a) := (rfl)

def tupV : List Value → Value
  | [v] => v
  | vs => .tuple vs.toArray

section
variable {P : Program} {w0 w : World} {L : Heap} {f : Fr}
def resS (f : Fr) (r : ResultVar) : Sem Value :=
  match r with
  | .tmp t => pure ((act f).tmps.getD t undef)
  | .cell a t => do loadVar t (← asAddr ((act f).tmps.getD a undef))

theorem run_resV {r : ResultVar} {v : Value} (hw : Hp w0 L w) (h : resV P w0 L f r = some v) : (resS f r).run P w = .ok v w := by
  cases r with
  | tmp t => simp only [resV, Option.some.injEq] at h; subst h; simp only [resS, act, getF_eq]; rfl
  | cell a t =>
    simp only [resV] at h
    unfold loadAtV at h
    split at h
    · rename_i b off hx
      simp only [resS, act, getF_eq, hx, asAddr, Sem.run_bind, Sem.run_pure, Result.andThen_ok, run_loadVar hw h]
    · cases h

theorem run_resVs : ∀ (rs : List ResultVar) (vs : List Value), Hp w0 L w → resVs P w0 L f rs = some vs → (rs.mapM (resS f)).run P w = .ok vs w
  | [], vs, _, h => by simp only [resVs, Option.some.injEq] at h; subst h; rfl
  | r :: rs, vs, hw, h => by
    unfold resVs cons2 at h
    split at h
    · rename_i v vs' h1 h2
      simp only [Option.some.injEq] at h; subst h
      rw [List.mapM_cons, Sem.run_bind, run_resV hw h1]
      simp only [Result.andThen_ok]
      rw [Sem.run_bind, run_resVs rs vs' hw h2]
      rfl
    · cases h

theorem run_results {fn : Func} {rs : List ResultVar} {vs : List Value} (hr : fn.results = rs.toArray) (hw : Hp w0 L w) (h : resVs P w0 L f rs = some vs) : (results fn (act f).tmps).run P w = .ok (tupV vs) w := by
  unfold results
  rw [hr]
  have e : (Array.mapM (m := Sem) (resS f) rs.toArray).run P w = .ok vs.toArray w := by
    rw [List.mapM_toArray, Sem.run_map, run_resVs rs vs hw h]; rfl
  rw [Sem.run_bind]
  show Result.andThen ((Array.mapM (m := Sem) (resS f) rs.toArray).run P w) (fun a w' => (pure (if h : a.size = 1 then a[0] else Value.tuple a) : Sem Value).run P w') = _
  rw [e]
  cases vs with
  | nil => rfl
  | cons v r => cases r <;> rfl
end

/-- A call returns, with a value and what has been turned or made. -/
def Rets (P : Program) (k : FuncId) (args : Array Value) (w : World) (S : Value → Heap → Prop) : Prop :=
  Calls P k args w fun e w' => ∃ v D, e = .returned v ∧ Hp w D w' ∧ S v D

theorem Rets.mono {P : Program} {k : FuncId} {args : Array Value} {w : World} {S S' : Value → Heap → Prop} (h : Rets P k args w S) (hs : ∀ v D, S v D → S' v D) : Rets P k args w S' :=
  Calls.mono h fun _ _ ⟨v, D, he, hp, hS⟩ => ⟨v, D, he, hp, hs _ _ hS⟩

/-- An old block is made known. -/
theorem Cw.own {P : Program} {w0 : World} {c : Code} {f : Fr} {L : Heap} {K : Kont} {b : Nat} {o : Obj} (hb : w0.heap[b]? = some o) (hn : b ∉ keys L) (h : Cw P w0 c f (L ++ [(b, o)]) K) : Cw P w0 c f L K :=
  fun w hw => h w (hw.own hb hn)

/-- What must hold where the body ends. -/
def retK (P : Program) (w0 : World) (rs : List ResultVar) (S : Value → Heap → Prop) : Kont
  | .normal, f, L => ∃ vs, resVs P w0 L f rs = some vs ∧ S (tupV vs) L
  | .ret, f, L => ∃ vs, resVs P w0 L f rs = some vs ∧ S (tupV vs) L
  | _, _, _ => False

theorem Rets.enter {P : Program} {k : FuncId} {fn : Func} {c : Code} {rs : List ResultVar} {args : Array Value} {w : World} {S : Value → Heap → Prop} {n : Nat}
    (hf : P.funcs[k]? = some fn) (hb : fn.body = some c) (hr : fn.results = rs.toArray) (hn : fn.ntmps = n)
    (h : Cw P w c (args.toList ++ List.replicate (n - args.size) undef) [] (retK P w rs S)) : Rets P k args w S := by
  refine calls_of_wp hf hb ?_
  have e : ({ tmps := args ++ Array.replicate (fn.ntmps - args.size) undef, defers := [] } : Act) = act (args.toList ++ List.replicate (n - args.size) undef) := by
    rw [hn]; simp only [act]; congr 1; apply Array.ext'; simp
  rw [e]
  refine wp_mono (h w (Hp.refl w)) ?_
  rintro e a w' ⟨hd, L, hp, hk⟩
  have ha := act_of hd
  cases e with
  | normal =>
    obtain ⟨vs, h1, h2⟩ := hk
    exact ⟨hd, tupV vs, by rw [ha]; exact run_results hr hp h1, tupV vs, L, rfl, hp, h2⟩
  | ret =>
    obtain ⟨vs, h1, h2⟩ := hk
    exact ⟨hd, tupV vs, by rw [ha]; exact run_results hr hp h1, tupV vs, L, rfl, hp, h2⟩
  | exit i => exact hk.elim
  | goto i => exact hk.elim
  | panic c => exact hk.elim
  | outgrown => exact hk.elim

/-- All blocks are from n on. -/
def New (n : Nat) : Heap → Prop
  | [] => True
  | (b, _) :: r => n ≤ b ∧ New n r

theorem New.le {n : Nat} {L : Heap} (h : New n L) : ∀ b, b ∈ keys L → n ≤ b := by
  induction L with
  | nil => intro b hb; cases hb
  | cons p r ih =>
    obtain ⟨c, o⟩ := p
    intro b hb
    rcases List.mem_cons.1 hb with hb | hb
    · rw [hb]; exact h.1
    · exact ih h.2 b hb

theorem Hp.garbage {w w' : World} {D : Heap} (h : Hp w D w') (hn : New w.heap.size D) : Hp w [] w' :=
  h.drop (fun _ hp => by cases hp) List.nodup_nil (fun p hp hlt _ => by
    have := hn.le p.1 (List.mem_map.2 ⟨p, hp, rfl⟩); omega)

/-- What must hold where the body ends, if nothing but garbage is left. -/
def retV (P : Program) (w0 : World) (rs : List ResultVar) (S : Value → Prop) : Kont
  | .normal, f, L => ∃ vs, resVs P w0 L f rs = some vs ∧ New w0.heap.size L ∧ S (tupV vs)
  | .ret, f, L => ∃ vs, resVs P w0 L f rs = some vs ∧ New w0.heap.size L ∧ S (tupV vs)
  | _, _, _ => False

theorem Rets.enterV {P : Program} {k : FuncId} {fn : Func} {c : Code} {rs : List ResultVar} {args : Array Value} {w : World} {S : Value → Prop} {n : Nat}
    (hf : P.funcs[k]? = some fn) (hb : fn.body = some c) (hr : fn.results = rs.toArray) (hn : fn.ntmps = n)
    (h : Cw P w c (args.toList ++ List.replicate (n - args.size) undef) [] (retV P w rs S)) : Rets P k args w (fun v D => S v ∧ D = []) := by
  have := Rets.enter (S := fun v D => New w.heap.size D ∧ S v) hf hb hr hn (h.mono (by
    intro e f L hk
    cases e <;> first
      | exact hk
      | exact hk.elim))
  refine Calls.mono this ?_
  rintro e w' ⟨v, D, he, hp, hn, hS⟩
  exact ⟨v, [], he, hp.garbage hn, hS, rfl⟩

/-- What must hold where the body ends, if one old block is turned and else nothing but garbage is left. -/
def retM (P : Program) (w0 : World) (rs : List ResultVar) (b : Nat) (S : Value → Obj → Prop) : Kont
  | .normal, f, L => ∃ vs o N, resVs P w0 L f rs = some vs ∧ L = (b, o) :: N ∧ New w0.heap.size N ∧ S (tupV vs) o
  | .ret, f, L => ∃ vs o N, resVs P w0 L f rs = some vs ∧ L = (b, o) :: N ∧ New w0.heap.size N ∧ S (tupV vs) o
  | _, _, _ => False

theorem Rets.enterM {P : Program} {k : FuncId} {fn : Func} {c : Code} {rs : List ResultVar} {args : Array Value} {w : World} {S : Value → Obj → Prop} {n b : Nat} {o : Obj}
    (hf : P.funcs[k]? = some fn) (hb : fn.body = some c) (hr : fn.results = rs.toArray) (hn : fn.ntmps = n) (ho : w.heap[b]? = some o)
    (h : Cw P w c (args.toList ++ List.replicate (n - args.size) undef) [(b, o)] (retM P w rs b S)) : Rets P k args w (fun v D => ∃ o, D = [(b, o)] ∧ S v o) := by
  have := Rets.enter (S := fun v D => ∃ o N, D = (b, o) :: N ∧ New w.heap.size N ∧ S v o) hf hb hr hn
    (Cw.own ho (by simp [keys]) (h.mono (by
      intro e f L hk
      cases e with
      | normal => obtain ⟨vs, o, N, h1, h2, h3, h4⟩ := hk; exact ⟨vs, h1, o, N, h2, h3, h4⟩
      | ret => obtain ⟨vs, o, N, h1, h2, h3, h4⟩ := hk; exact ⟨vs, h1, o, N, h2, h3, h4⟩
      | _ => exact hk.elim)))
  refine Calls.mono this ?_
  rintro e w' ⟨v, D, he, hp, o', N, rfl, hN, hS⟩
  have hbl := (Array.getElem?_eq_some_iff.1 ho).1
  refine ⟨v, [(b, o')], he, hp.drop (fun p hp => ?_) (by simp [keys]) (fun p hp hlt hnk => ?_), o', rfl, hS⟩
  · simp only [List.mem_singleton] at hp; subst hp; exact List.mem_cons_self
  · rcases List.mem_cons.1 hp with h | h
    · exfalso; apply hnk; rw [h]; simp [keys]
    · have := hN.le p.1 (List.mem_map.2 ⟨p, h, rfl⟩); omega

/-! ### Blocks above those that are known -/
def Above : Heap → Nat → Prop
  | [], _ => True
  | (b, _) :: r, n => b < n ∧ Above r n

theorem above_of {L : Heap} {n : Nat} (h : ∀ b, b ∈ keys L → b < n) : Above L n := by
  induction L with
  | nil => trivial
  | cons p r ih =>
    obtain ⟨b, o⟩ := p
    exact ⟨h b List.mem_cons_self, ih fun c hc => h c (List.mem_cons_of_mem _ hc)⟩

/-- What is known behind a call that was made where L was known and B blocks lay: D. -/
def Mrg (w0 : World) (L : Heap) (B : Nat) (D L' : Heap) : Prop := ∀ w w', w.heap.size = B → Hp w0 L w → Hp w D w' → Hp w0 L' w'

theorem Mrg.nil {w0 : World} {L : Heap} {B : Nat} : Mrg w0 L B [] L := fun _ _ _ h k => h.trans_nil k

theorem Hp.same {w0 w : World} {L M : Heap} (h : Hp w0 L w) (hs : ∀ p, p ∈ M ↔ p ∈ L) (hn : (keys M).Nodup) : Hp w0 M w := by
  have hk : ∀ b, b ∈ keys M ↔ b ∈ keys L := fun b => by
    constructor <;> intro hb <;> obtain ⟨p, hp, rfl⟩ := List.mem_map.1 hb
    · exact List.mem_map.2 ⟨p, (hs p).1 hp, rfl⟩
    · exact List.mem_map.2 ⟨p, (hs p).2 hp, rfl⟩
  exact ⟨fun b o hm => h.has b o ((hs _).1 hm), hn, fun b hb hm => h.old b hb (fun hm' => hm ((hk b).2 hm')), h.size, h.tape, h.os, h.output⟩

theorem filter_keys_all {L D : Heap} (h : ∀ b, b ∈ keys L → b ∉ keys D) : L.filter (fun p => !(keys D).contains p.1) = L := by
  apply List.filter_eq_self.2
  intro p hp
  have := h p.1 (List.mem_map.2 ⟨p, hp, rfl⟩)
  simpa using this

theorem Mrg.fresh {w0 : World} {L D : Heap} {B : Nat} (hD : ∀ b, b ∈ keys D → B ≤ b) : Mrg w0 L B D (L ++ D) := by
  intro w w' hB h k
  have := h.trans k
  rwa [filter_keys_all (fun b hb hm => by have := h.lt hb; have := hD b hm; omega)] at this

theorem keys_append (L M : Heap) : keys (L ++ M) = keys L ++ keys M := List.map_append

theorem Mrg.set {w0 : World} {L : Heap} {B b : Nat} {o : Obj} (hb : b ∈ keys L) : Mrg w0 L B [(b, o)] (setB L b o) := by
  intro w w' hB h k
  have ht := h.trans k
  refine ht.same (fun p => ?_) (by rw [keys_setB]; exact h.nodup)
  obtain ⟨c, x⟩ := p
  simp only [List.mem_append, List.mem_filter, keys, List.map_cons, List.map_nil, List.contains_eq_mem, List.mem_singleton, Prod.mk.injEq, Bool.not_eq_true', decide_eq_false_iff_not]
  constructor
  · intro hm
    rcases mem_setB h.nodup hm with ⟨h1, h2⟩ | ⟨h1, h2⟩
    · exact .inr ⟨h1, h2⟩
    · exact .inl ⟨h2, h1⟩
  · rintro (⟨h1, h2⟩ | ⟨rfl, rfl⟩)
    · have : ∀ (L : Heap), (c, x) ∈ L → c ≠ b → (c, x) ∈ setB L b o := by
        intro L
        induction L with
        | nil => intro hm _; cases hm
        | cons q r ih =>
          obtain ⟨e, y⟩ := q
          intro hm hne
          unfold setB
          split
          · rename_i he
            rcases List.mem_cons.1 hm with hm | hm
            · simp only [Prod.mk.injEq] at hm; exact absurd (hm.1.trans he) hne
            · exact List.mem_cons_of_mem _ hm
          · rcases List.mem_cons.1 hm with hm | hm
            · rw [hm]; exact List.mem_cons_self
            · exact List.mem_cons_of_mem _ (ih hm hne)
      exact this L h1 h2
    · have : ∀ (L : Heap), c ∈ keys L → (c, x) ∈ setB L c x := by
        intro L
        induction L with
        | nil => intro hm; cases hm
        | cons q r ih =>
          obtain ⟨e, y⟩ := q
          intro hm
          unfold setB
          split
          · rename_i he; subst he; exact List.mem_cons_self
          · rename_i he
            rcases List.mem_cons.1 hm with hm | hm
            · exact absurd hm.symm he
            · exact List.mem_cons_of_mem _ (ih hm)
      exact this L hb

theorem Mrg.setFresh {w0 : World} {L D : Heap} {B b : Nat} {o : Obj} (hb : b ∈ keys L) (hD : ∀ c, c ∈ keys D → B ≤ c) : Mrg w0 L B ((b, o) :: D) (setB L b o ++ D) := by
  intro w w' hB h k
  -- first the set, in a world of its own; then what is new
  have ht := h.trans k
  have hbl := h.lt hb
  have hbD : b ∉ keys D := fun hm => by have := hD b hm; omega
  have hset : Hp w0 (setB L b o) { w with heap := w.heap.setIfInBounds b o } := h.set hb rfl rfl rfl rfl
  have hk2 : Hp { w with heap := w.heap.setIfInBounds b o } D w' := by
    refine ⟨fun c x hm => k.has c x (List.mem_cons_of_mem _ hm), ?_, ?_, by simpa using k.size, k.tape, k.os, k.output⟩
    · have := k.nodup
      simp only [keys, List.map_cons, List.nodup_cons] at this
      exact this.2
    · intro c hc hm
      simp only [Array.size_setIfInBounds] at hc
      by_cases hcb : c = b
      · subst hcb
        rw [k.has c o List.mem_cons_self]
        simp [hbl]
      · rw [k.old c hc (fun hm' => by
          simp only [keys, List.map_cons, List.mem_cons] at hm'
          exact hm'.elim hcb hm)]
        show _ = (w.heap.setIfInBounds b o)[c]?
        rw [Array.getElem?_setIfInBounds_ne (Ne.symm hcb)]
  have := hset.trans hk2
  rwa [filter_keys_all (fun c hc hm => by
    rw [keys_setB] at hc
    have := h.lt hc; have := hD c hm; omega)] at this

section
variable {P : Program} {w0 : World} {f : Fr} {L : Heap} {N : Fr → Heap → Prop} {ops : Array Oper} {rest : List Oper} {md : Md}
  {d : Option Tmp} {ty : TypeId} {ps : String} {af : Array Edge} {g : Option (Nat × Bool)}

theorem run_call {x : Operand} {args : Array Operand} {ts : Array TypeId} {k : FuncId} {fst cap : Array Value} (hx : ev f x = .func (.func k) fst cap)
    (hk : ∀ a w, (callFunc k a).run P w = .ok (.enter k a) w) (w : World) :
    (execOp (ev f) ⟨d, .call ⟨.value x, args, ts⟩, ty, ps, af, g⟩).run P w = .ok (.enter k (fst ++ args.map (ev f) ++ cap)) w := by
  simp only [execOp, resolve, hx, Deferred.ofValue, Sem.run_bind, Sem.run_pure, Result.andThen_ok, invoke, hk]

/-- A call, by its callee's contract. -/
theorem Ow.call {x : Operand} {args : Array Operand} {ts : Array TypeId} {k : FuncId} {fst cap : Array Value} {S : Nat → Value → Heap → Prop} {md' : Md} (he : md.turn = some md')
    (hs : skipped ops f ⟨d, .call ⟨.value x, args, ts⟩, ty, ps, af, g⟩ = false) (hx : ev f x = .func (.func k) fst cap)
    (hk : ∀ a w, (callFunc k a).run P w = .ok (.enter k a) w) (hc : ∀ w, Hp w0 L w → Rets P k (fst ++ args.map (ev f) ++ cap) w (S w.heap.size))
    (hn : ∀ B v D, Above L B → w0.heap.size ≤ B → S B v D → ∃ L', Mrg w0 L B D L' ∧ Ow P w0 ops md' rest (putF f d v) L' N) :
    Ow P w0 ops md (⟨d, .call ⟨.value x, args, ts⟩, ty, ps, af, g⟩ :: rest) f L N := by
  refine Ow.step he rfl hs fun w hw => .inr (.inr ⟨k, _, w, run_call hx hk w, ?_⟩)
  refine Calls.mono (hc w hw) ?_
  rintro e w' ⟨v, D, rfl, hp, hS⟩
  obtain ⟨L', hm, hO⟩ := hn w.heap.size v D (above_of fun b hb => hw.lt hb) hw.size hS
  exact ⟨v, L', rfl, hm w w' rfl hw hp, hO⟩

/-- A call that leaves nothing but garbage: in any kind of region. -/
theorem Ow.callV {x : Operand} {args : Array Operand} {ts : Array TypeId} {k : FuncId} {fst cap : Array Value} {v : Value}
    (hs : skipped ops f ⟨d, .call ⟨.value x, args, ts⟩, ty, ps, af, g⟩ = false) (hx : ev f x = .func (.func k) fst cap)
    (hk : ∀ a w, (callFunc k a).run P w = .ok (.enter k a) w) (hc : ∀ w, Hp w0 L w → Rets P k (fst ++ args.map (ev f) ++ cap) w (fun v' D => v' = v ∧ D = []))
    (hn : Ow P w0 ops md.next rest (putF f d v) L N) :
    Ow P w0 ops md (⟨d, .call ⟨.value x, args, ts⟩, ty, ps, af, g⟩ :: rest) f L N := by
  refine Ow.calm rfl rfl hs (fun w hw => .inr (.inr ⟨k, _, w, run_call hx hk w, ?_⟩)) hn
  refine Calls.mono (hc w hw) ?_
  rintro e w' ⟨v', D, rfl, hp, rfl, rfl⟩
  exact ⟨_, _, rfl, hw.trans_nil hp, rfl, rfl⟩

/-- The same for a function that is named: its arguments as a list. -/
theorem Ow.callF {l : List Operand} {ts : Array TypeId} {k : FuncId} {S : Nat → Value → Heap → Prop} {md' : Md} (he : md.turn = some md')
    (hs : skipped ops f ⟨d, .call ⟨.value (.func k), l.toArray, ts⟩, ty, ps, af, g⟩ = false)
    (hk : ∀ a w, (callFunc k a).run P w = .ok (.enter k a) w) (hc : ∀ w, Hp w0 L w → Rets P k (l.map (ev f)).toArray w (S w.heap.size))
    (hn : ∀ B v D, Above L B → w0.heap.size ≤ B → S B v D → ∃ L', Mrg w0 L B D L' ∧ Ow P w0 ops md' rest (putF f d v) L' N) :
    Ow P w0 ops md (⟨d, .call ⟨.value (.func k), l.toArray, ts⟩, ty, ps, af, g⟩ :: rest) f L N :=
  Ow.call he hs rfl hk (fun w hw => by simpa using hc w hw) hn
theorem Ow.callFV {l : List Operand} {ts : Array TypeId} {k : FuncId} {v : Value}
    (hs : skipped ops f ⟨d, .call ⟨.value (.func k), l.toArray, ts⟩, ty, ps, af, g⟩ = false)
    (hk : ∀ a w, (callFunc k a).run P w = .ok (.enter k a) w) (hc : ∀ w, Hp w0 L w → Rets P k (l.map (ev f)).toArray w (fun v' D => v' = v ∧ D = []))
    (hn : Ow P w0 ops md.next rest (putF f d v) L N) :
    Ow P w0 ops md (⟨d, .call ⟨.value (.func k), l.toArray, ts⟩, ty, ps, af, g⟩ :: rest) f L N :=
  Ow.callV hs rfl hk (fun w hw => by simpa using hc w hw) hn

/-- The type's nought. -/
def zeroV (P : Program) (t : TypeId) : Option Value := (P.info? t).bind (·.zero)

theorem run_zeroV {t : TypeId} {z : Value} (h : zeroV P t = some z) (w : World) : (zeroValue t).run P w = .ok z w := by
  unfold zeroV at h
  cases hi : P.info? t with
  | none => rw [hi] at h; cases h
  | some i =>
    rw [hi] at h
    simp only [Option.bind_some] at h
    simp only [zeroValue, Sem.run_bind, typeInfo, run_program, Result.andThen_ok, hi, Sem.run_pure, h]

theorem Ow.alloc {t : TypeId} {z : Value} {md' : Md} (he : md.turn = some md') (hs : skipped ops f ⟨d, .alloc t, ty, ps, af, g⟩ = false) (hz : zeroV P t = some z)
    (hn : ∀ b, Above L b → w0.heap.size ≤ b → Ow P w0 ops md' rest (putF f d (vp b 0)) (L ++ [(b, .cells z.cells t)]) N) :
    Ow P w0 ops md (⟨d, .alloc t, ty, ps, af, g⟩ :: rest) f L N := by
  refine Ow.step he rfl hs fun w hw => .inl ⟨vp w.heap.size 0, w.alloc (.cells z.cells t), _, ?_, hw.alloc _, hn _ (above_of fun b hb => hw.lt hb) hw.size⟩
  simp only [execOp, Instr.alloc, Sem.run_bind, run_zeroV hz w, Result.andThen_ok]
  rfl

theorem Ow.box {t : TypeId} {x : Operand} {md' : Md} (he : md.turn = some md') (hs : skipped ops f ⟨d, .box t x, ty, ps, af, g⟩ = false)
    (hn : ∀ b, Above L b → w0.heap.size ≤ b → Ow P w0 ops md' rest (putF f d (vp b 0)) (L ++ [(b, .cells (ev f x).cells t)]) N) :
    Ow P w0 ops md (⟨d, .box t x, ty, ps, af, g⟩ :: rest) f L N := by
  refine Ow.step he rfl hs fun w hw => .inl ⟨vp w.heap.size 0, w.alloc (.cells (ev f x).cells t), _, ?_, hw.alloc _, hn _ (above_of fun b hb => hw.lt hb) hw.size⟩
  simp only [execOp, Instr.box, Sem.run_bind, Result.andThen_ok]
  rfl

/-- Where the parts of an array or a struct lie. -/
def plcT (P : Program) (t : TypeId) : Option (List (Nat × Nat)) :=
  match P.underlying t with
  | some (.struct fs) => fs.toList.mapM fun f => (aggT P f.type).map fun m => (f.offset, m.2)
  | some (.array n e) => (aggT P e).map fun m => (List.range n).map fun i => (i * m.2, m.2)
  | _ => none

def fillV (pl : List (Nat × Nat)) : Array Value → List (Nat × Value) → Option (Array Value)
  | cs, [] => some cs
  | cs, (i, v) :: r => match pl[i]? with
    | some (off, n) => if v.cells.size = n ∧ off + n ≤ cs.size then fillV pl (putC cs off v.cells.toList) r else none
    | none => none

def buildV (pl : Option (List (Nat × Nat))) (z : Option Value) (parts : List (Nat × Value)) : Option Value :=
  match pl, z with
  | some pl, some (.agg cs) => (fillV pl cs parts).map .agg
  | _, _ => none

theorem foldl_putC : ∀ (vs : List Value) (off j : Nat) (cs : Array Value), (vs.zipIdx j).foldl (fun cs (p : Value × Nat) => cs.setIfInBounds (off + p.2) p.1) cs = putC cs (off + j) vs
  | [], _, _, _ => rfl
  | v :: r, off, j, cs => by
    simp only [List.zipIdx_cons, List.foldl_cons, putC]
    rw [foldl_putC r off (j + 1)]
    rfl

theorem fill_eq {place : Nat → Option (Nat × Nat)} {pl : List (Nat × Nat)} (hp : ∀ i p, pl[i]? = some p → place i = some p) : ∀ (parts : List (Nat × Value)) (cs cs' : Array Value), fillV pl cs parts = some cs' → Instr.fill place cs parts = some cs'
  | [], _, _, h => h
  | (i, v) :: r, cs, cs', h => by
    unfold fillV at h
    split at h
    · rename_i off n hi
      split at h
      · rename_i hc
        unfold Instr.fill
        rw [hp i _ hi]
        simp only
        have h1 : (decide (v.cells.size ≠ n) || decide (off + v.cells.size > cs.size)) = false := by
          simp only [Bool.or_eq_false_iff, decide_eq_false_iff_not]; omega
        have h1' : ¬ ((decide (v.cells.size ≠ n) || decide (off + v.cells.size > cs.size)) = true) := by rw [h1]; simp
        rw [if_neg h1']
        have e : (v.cells.zipIdx.foldl (fun cs (x : Value × Nat) => match x with | (c, j) => cs.setIfInBounds (off + j) c) cs) = putC cs off v.cells.toList := by
          have := foldl_putC v.cells.toList off 0 cs
          rw [← Array.foldl_toList, Array.toList_zipIdx]
          simpa using this
        rw [e]
        exact fill_eq hp r _ _ h
      · cases h
    · cases h

theorem mapM_places {fs : List Field} {pl : List (Nat × Nat)} (h : fs.mapM (fun f => (aggT P f.type).map fun m => (f.offset, m.2)) = some pl) (w : World) :
    (fs.mapM (fun f => do pure (f.offset, ← sizeOf f.type) : Field → Sem (Nat × Nat))).run P w = .ok pl w := by
  induction fs generalizing pl with
  | nil => cases h; rfl
  | cons f r ih =>
    simp only [List.mapM_cons, Option.bind_eq_bind, Option.bind_eq_some_iff, Option.map_eq_some_iff] at h
    obtain ⟨p, ⟨m, hm, rfl⟩, ps, hps, h⟩ := h
    cases h
    rw [List.mapM_cons, Sem.run_bind]
    simp only [Sem.run_bind, run_sizeOf hm, Result.andThen_ok, Sem.run_pure, ih hps]

theorem run_buildV {t : TypeId} {parts : Array (Nat × Value)} {v : Value} (h : buildV (plcT P t) (zeroV P t) parts.toList = some v) (w : World) : (Instr.build t parts).run P w = .ok v w := by
  unfold buildV at h
  split at h
  · rename_i pl cs hpl hz
    cases hf : fillV pl cs parts.toList with
    | none => rw [hf] at h; cases h
    | some cs' =>
      rw [hf] at h
      cases h
      unfold plcT at hpl
      split at hpl
      · rename_i fs hu
        have hpl' : fs.toList.mapM (fun f => (aggT P f.type).map fun m => (f.offset, m.2)) = some pl := hpl
        have hm := mapM_places hpl' w
        have hm' : (fs.mapM (fun f => do pure (f.offset, ← sizeOf f.type) : Field → Sem (Nat × Nat))).run P w = .ok pl.toArray w := by
          rw [← Array.toArray_toList (xs := fs), List.mapM_toArray, Sem.run_map, hm]; rfl
        have hfill := fill_eq (place := (pl.toArray[·]?)) (fun i p hi => by simpa using hi) _ _ _ hf
        simp only [Instr.build, Sem.run_bind, run_zeroV hz w, Result.andThen_ok, run_underlying hu w, Value.cells]
        rw [hm']
        simp only [Result.andThen_ok, hfill, Sem.run_pure]
      · rename_i n e hu
        cases hm : aggT P e with
        | none => rw [hm] at hpl; cases hpl
        | some m =>
          rw [hm] at hpl
          simp only [Option.map_some, Option.some.injEq] at hpl
          have hfill := fill_eq (place := fun i => some (i * m.2, m.2)) (fun i p hi => by
            rw [← hpl] at hi
            simp only [List.getElem?_map, Option.map_eq_some_iff] at hi
            obtain ⟨j, hj, rfl⟩ := hi
            have : j = i := by
              have := List.getElem?_eq_some_iff.1 hj
              obtain ⟨h1, h2⟩ := this
              simpa using h2.symm
            rw [this]) _ _ _ hf
          simp only [Instr.build, Sem.run_bind, run_zeroV hz w, Result.andThen_ok, run_underlying hu w, Value.cells, run_sizeOf hm w]
          simp only [hfill, Sem.run_pure]
      · cases hpl
  · cases h

/-- A struct's or an array's value out of its parts. -/
theorem Ow.build {t : TypeId} {parts : Array (Nat × Operand)} (v : Value) (hs : skipped ops f ⟨d, .build t parts, ty, ps, af, g⟩ = false)
    (hv : buildV (plcT P t) (zeroV P t) (parts.toList.map fun p => (p.1, ev f p.2)) = some v)
    (hn : Ow P w0 ops md.next rest (putF f d v) L N) : Ow P w0 ops md (⟨d, .build t parts, ty, ps, af, g⟩ :: rest) f L N := by
  refine Ow.calm rfl rfl hs (fun w hw => .inl ⟨v, w, L, ?_, hw, rfl, rfl⟩) hn
  have h' : buildV (plcT P t) (zeroV P t) (parts.map fun (i, x) => (i, ev f x)).toList = some v := by
    rw [Array.toList_map]; exact hv
  simp only [execOp, Sem.run_bind, run_buildV h' w, Result.andThen_ok]
  rfl

/-- A pure value, by its run. -/
theorem Ow.val {o : Oper} {v : Value} {md' : Md} (he : md.turn = some md') (hp : pureK P o.op = false) (hs : skipped ops f o = false) (hv : ∀ w, Hp w0 L w → (execOp (ev f) o).run P w = .ok (.value v) w)
    (hn : Ow P w0 ops md' rest (putF f o.dst v) L N) : Ow P w0 ops md (o :: rest) f L N :=
  Ow.step he hp hs fun w hw => .inl ⟨v, w, L, hv w hw, hw, hn⟩
end

/-! ### Cells that hold bytes and words -/
def a8 (l : List UInt8) : Array Value := (l.map fun x => Value.int .u8 (x.toNat : Int)).toArray
def a32 (l : List UInt32) : Array Value := (l.map fun x => Value.int .u32 (x.toNat : Int)).toArray
end Go.Sx
