/-
  Part 0 of the walk: contracts of the functions that the law reaches, and the calculus they stand on.
  No conditions.
-/
import Derived.WalkKit
import Derived.Deep.LoopGhost
import Derived.ScopeJumps
namespace Go.Sx
open Go

/-! ### Blocks that are known -/
abbrev Heap := List (Nat × Obj)
def keys (L : Heap) : List Nat := L.map Prod.fst

def look : Heap → Nat → Option Obj
  | [], _ => none
  | (b, o) :: r, k => if b = k then some o else look r k

def setB : Heap → Nat → Obj → Heap
  | [], _, _ => []
  | (b, o) :: r, k, x => if b = k then (b, x) :: r else (b, o) :: setB r k x

theorem look_mem {L : Heap} {k : Nat} {o : Obj} (h : look L k = some o) : (k, o) ∈ L := by
  induction L with
  | nil => cases h
  | cons p r ih =>
    obtain ⟨b, x⟩ := p
    unfold look at h
    split at h
    · rename_i e
      cases h; subst e; exact List.mem_cons_self
    · exact List.mem_cons_of_mem _ (ih h)

theorem look_none {L : Heap} {k : Nat} (h : look L k = none) : k ∉ keys L := by
  induction L with
  | nil => intro h; cases h
  | cons p r ih =>
    obtain ⟨b, x⟩ := p
    unfold look at h
    split at h
    · cases h
    · rename_i e
      intro hm
      rcases List.mem_cons.1 hm with h' | h'
      · exact e h'.symm
      · exact ih h h'

theorem keys_setB (L : Heap) (k : Nat) (x : Obj) : keys (setB L k x) = keys L := by
  induction L with
  | nil => rfl
  | cons p r ih =>
    obtain ⟨b, o⟩ := p
    unfold setB
    split
    · rfl
    · simp only [keys, List.map_cons] at ih ⊢
      rw [ih]

theorem mem_setB {L : Heap} (hn : (keys L).Nodup) {k b : Nat} {x o : Obj} (h : (b, o) ∈ setB L k x) : (b = k ∧ o = x) ∨ (b ≠ k ∧ (b, o) ∈ L) := by
  induction L with
  | nil => cases h
  | cons p r ih =>
    obtain ⟨c, y⟩ := p
    simp only [keys, List.map_cons, List.nodup_cons] at hn
    unfold setB at h
    split at h
    · rename_i e
      rcases List.mem_cons.1 h with h' | h'
      · simp only [Prod.mk.injEq] at h'
        exact .inl ⟨h'.1.trans e, h'.2⟩
      · refine .inr ⟨?_, List.mem_cons_of_mem _ h'⟩
        intro e2
        exact hn.1 (by rw [e, ← e2]; exact List.mem_map.2 ⟨_, h', rfl⟩)
    · rename_i e
      rcases List.mem_cons.1 h with h' | h'
      · simp only [Prod.mk.injEq] at h'
        refine .inr ⟨by rw [h'.1]; exact e, ?_⟩
        rw [h'.1, h'.2]; exact List.mem_cons_self
      · rcases ih hn.2 h' with h2 | h2
        · exact .inl h2
        · exact .inr ⟨h2.1, List.mem_cons_of_mem _ h2.2⟩

/-- In the world w, L's blocks hold what L says; of what there was in w0 all else is as it was. -/
structure Hp (w0 : World) (L : Heap) (w : World) : Prop where
  has : ∀ b o, (b, o) ∈ L → w.heap[b]? = some o
  nodup : (keys L).Nodup
  old : ∀ b, b < w0.heap.size → b ∉ keys L → w.heap[b]? = w0.heap[b]?
  size : w0.heap.size ≤ w.heap.size
  tape : w.tape = w0.tape
  os : w.os = w0.os
  output : w.output = w0.output

theorem Hp.refl (w : World) : Hp w [] w :=
  ⟨fun _ _ h => (by cases h), List.nodup_nil, fun _ _ _ => rfl, Nat.le_refl _, rfl, rfl, rfl⟩

theorem Hp.lt {w0 w : World} {L : Heap} (h : Hp w0 L w) {b : Nat} (hb : b ∈ keys L) : b < w.heap.size := by
  obtain ⟨p, hp, rfl⟩ := List.mem_map.1 hb
  have := h.has p.1 p.2 hp
  exact (Array.getElem?_eq_some_iff.1 this).1

/-- Draws do not count. -/
theorem Hp.of_heap {w0 w w' : World} {L : Heap} (h : Hp w0 L w) (hh : w'.heap = w.heap) (ht : w'.tape = w.tape) (ho : w'.os = w.os) (hu : w'.output = w.output) : Hp w0 L w' :=
  ⟨by rw [hh]; exact h.has, h.nodup, by rw [hh]; exact h.old, by rw [hh]; exact h.size, ht.trans h.tape, ho.trans h.os, hu.trans h.output⟩

theorem Hp.drew {w0 w : World} {L : Heap} (h : Hp w0 L w) : Hp w0 L w.drew := h.of_heap rfl rfl rfl rfl

/-- A new block. -/
theorem Hp.alloc {w0 w : World} {L : Heap} (h : Hp w0 L w) (o : Obj) : Hp w0 (L ++ [(w.heap.size, o)]) (w.alloc o) := by
  have hk : ∀ b, b ∈ keys (L ++ [(w.heap.size, o)]) → b ∈ keys L ∨ b = w.heap.size := by
    intro b hb
    simp only [keys, List.map_append, List.map_cons, List.map_nil, List.mem_append, List.mem_singleton] at hb
    exact hb
  refine ⟨?_, ?_, ?_, ?_, h.tape, h.os, h.output⟩
  · intro b x hm
    rcases List.mem_append.1 hm with hm | hm
    · have hlt : b < w.heap.size := h.lt (List.mem_map.2 ⟨_, hm, rfl⟩)
      rw [RowKit.Below.heap_alloc w o b hlt]; exact h.has b x hm
    · simp only [List.mem_singleton, Prod.mk.injEq] at hm
      rw [hm.1, hm.2]; exact (by show (w.heap.push o)[w.heap.size]? = some o; simp)
  · simp only [keys, List.map_append, List.map_cons, List.map_nil]
    refine List.nodup_append.2 ⟨h.nodup, List.pairwise_singleton _ _, ?_⟩
    intro a ha b hb
    simp only [List.mem_singleton] at hb
    have := h.lt ha
    omega
  · intro b hb hn
    rw [RowKit.Below.heap_alloc w o b (Nat.lt_of_lt_of_le hb h.size)]
    refine h.old b hb (fun hm => hn ?_)
    simp only [keys, List.map_append, List.mem_append]
    exact .inl hm
  · rw [World.size_alloc]; have := h.size; omega

/-- What a block comes to hold. -/
theorem Hp.set {w0 w w' : World} {L : Heap} (h : Hp w0 L w) {b : Nat} {x : Obj} (hb : b ∈ keys L) (hh : w'.heap = w.heap.setIfInBounds b x)
    (ht : w'.tape = w.tape) (ho : w'.os = w.os) (hu : w'.output = w.output) : Hp w0 (setB L b x) w' := by
  have hlt := h.lt hb
  refine ⟨?_, by rw [keys_setB]; exact h.nodup, ?_, ?_, ht.trans h.tape, ho.trans h.os, hu.trans h.output⟩
  · intro c o hm
    rw [hh]
    rcases mem_setB h.nodup hm with ⟨rfl, rfl⟩ | ⟨hne, hm'⟩
    · simp [hlt]
    · rw [Array.getElem?_setIfInBounds_ne (Ne.symm hne)]; exact h.has c o hm'
  · intro c hc hn
    rw [keys_setB] at hn
    have hne : b ≠ c := fun e => hn (e ▸ hb)
    rw [hh, Array.getElem?_setIfInBounds_ne hne]
    exact h.old c hc hn
  · rw [hh]; simpa using h.size

/-- An old block is made known. -/
theorem Hp.own {w0 w : World} {L : Heap} (h : Hp w0 L w) {b : Nat} {o : Obj} (hb : w0.heap[b]? = some o) (hn : b ∉ keys L) : Hp w0 (L ++ [(b, o)]) w := by
  have hlt : b < w0.heap.size := (Array.getElem?_eq_some_iff.1 hb).1
  refine ⟨?_, ?_, ?_, h.size, h.tape, h.os, h.output⟩
  · intro c x hm
    rcases List.mem_append.1 hm with hm | hm
    · exact h.has c x hm
    · simp only [List.mem_singleton, Prod.mk.injEq] at hm
      rw [hm.1, hm.2, h.old b hlt hn]; exact hb
  · simp only [keys, List.map_append, List.map_cons, List.map_nil]
    refine List.nodup_append.2 ⟨h.nodup, List.pairwise_singleton _ _, ?_⟩
    intro a ha c hc
    simp only [List.mem_singleton] at hc
    subst hc
    exact fun e => hn (e ▸ ha)
  · intro c hc hm
    exact h.old c hc (fun hm' => hm (by simp only [keys, List.map_append, List.mem_append]; exact .inl hm'))

/-- What is not asked of any more: new blocks. -/
theorem Hp.drop {w0 w : World} {L M : Heap} (h : Hp w0 L w) (hM : ∀ p ∈ M, p ∈ L) (hn : (keys M).Nodup) (hold : ∀ p ∈ L, p.1 < w0.heap.size → p.1 ∉ keys M → w0.heap[p.1]? = some p.2) : Hp w0 M w := by
  refine ⟨fun b o hm => h.has b o (hM _ hm), hn, ?_, h.size, h.tape, h.os, h.output⟩
  intro b hb hm
  by_cases hk : b ∈ keys L
  · obtain ⟨p, hp, rfl⟩ := List.mem_map.1 hk
    rw [h.has _ _ hp, hold p hp hb hm]
  · exact h.old b hb hk

/-- Two worlds, one behind the other. -/
theorem Hp.trans {w0 w w' : World} {L D : Heap} (h : Hp w0 L w) (k : Hp w D w') : Hp w0 (L.filter (fun p => !(keys D).contains p.1) ++ D) w' := by
  have hf : ∀ b, b ∈ keys (L.filter (fun p => !(keys D).contains p.1)) ↔ b ∈ keys L ∧ b ∉ keys D := by
    intro b
    constructor
    · intro hb
      obtain ⟨p, hp, rfl⟩ := List.mem_map.1 hb
      have := List.mem_filter.1 hp
      refine ⟨List.mem_map.2 ⟨p, this.1, rfl⟩, ?_⟩
      simpa using this.2
    · rintro ⟨hb, hn⟩
      obtain ⟨p, hp, rfl⟩ := List.mem_map.1 hb
      exact List.mem_map.2 ⟨p, List.mem_filter.2 ⟨hp, by simpa using hn⟩, rfl⟩
  refine ⟨?_, ?_, ?_, Nat.le_trans h.size k.size, k.tape.trans h.tape, k.os.trans h.os, k.output.trans h.output⟩
  · intro b o hm
    rcases List.mem_append.1 hm with hm | hm
    · have hb : b ∈ keys (L.filter (fun p => !(keys D).contains p.1)) := List.mem_map.2 ⟨_, hm, rfl⟩
      have hb' := (hf b).1 hb
      rw [k.old b (h.lt hb'.1) hb'.2]
      exact h.has b o (List.mem_filter.1 hm).1
    · exact k.has b o hm
  · simp only [keys, List.map_append]
    refine List.nodup_append.2 ⟨?_, k.nodup, ?_⟩
    · exact List.Nodup.sublist (List.Sublist.map _ List.filter_sublist) h.nodup
    · intro a ha b hb e
      exact ((hf a).1 ha).2 (e ▸ hb)
  · intro b hb hn
    have hn' : b ∉ keys L ∧ b ∉ keys D := by
      simp only [keys, List.map_append, List.mem_append, not_or] at hn
      have hD : b ∉ keys D := hn.2
      exact ⟨fun hm => hn.1 ((hf b).2 ⟨hm, hD⟩), hD⟩
    rw [k.old b (Nat.lt_of_lt_of_le hb h.size) hn'.2]
    exact h.old b hb hn'.1

theorem Hp.trans_nil {w0 w w' : World} {L : Heap} (h : Hp w0 L w) (k : Hp w [] w') : Hp w0 L w' := by
  have := h.trans k
  rwa [show L.filter (fun p => !(keys ([] : Heap)).contains p.1) ++ [] = L from by simp [keys]] at this

/-- What L says of a block, or, if it says nothing of it, what w0 had there. -/
def readB (w0 : World) (L : Heap) (b : Nat) : Option Obj :=
  match look L b with
  | some o => some o
  | none => w0.heap[b]?

theorem Hp.read {w0 w : World} {L : Heap} (h : Hp w0 L w) {b : Nat} {o : Obj} (hr : readB w0 L b = some o) : w.heap[b]? = some o := by
  unfold readB at hr
  split at hr
  · rename_i o' hl
    cases hr
    exact h.has _ _ (look_mem hl)
  · rename_i hl
    rw [h.old b (Array.getElem?_eq_some_iff.1 hr).1 (look_none hl)]
    exact hr

/-! ### Frames -/
abbrev Fr := List Value
def getF : Fr → Nat → Value
  | [], _ => undef
  | v :: _, 0 => v
  | _ :: r, n + 1 => getF r n
def setF : Fr → Nat → Value → Fr
  | [], _, _ => []
  | _ :: r, 0, x => x :: r
  | v :: r, n + 1, x => v :: setF r n x
def putF (f : Fr) : Option Tmp → Value → Fr
  | some d, v => setF f d v
  | none, _ => f
def ev (f : Fr) : Operand → Value
  | .tmp t => getF f t
  | .const v => v
  | .global g => .pointer (some ⟨g, 0, none⟩)
  | .func k => .func (.func k) #[] #[]

theorem getF_eq (f : Fr) (t : Nat) : f.toArray.getD t undef = getF f t := by
  rw [Array.getD_eq_getD_getElem?, List.getElem?_toArray]
  induction f generalizing t with
  | nil => rfl
  | cons v r ih => cases t <;> simp [getF, ih]

theorem setF_eq (f : Fr) (d : Nat) (v : Value) : f.toArray.setIfInBounds d v = (setF f d v).toArray := by
  rw [List.setIfInBounds_toArray]
  congr 1
  induction f generalizing d with
  | nil => rfl
  | cons x r ih => cases d <;> simp [setF, ih]

def act (f : Fr) : Act := ⟨f.toArray, []⟩

theorem act_eval (f : Fr) (x : Operand) : (act f).eval x = ev f x := by
  cases x with
  | tmp t => exact getF_eq f t
  | _ => rfl

theorem act_eval' (f : Fr) : (act f).eval = ev f := funext (act_eval f)

theorem act_put (f : Fr) (d : Option Tmp) (v : Value) : (act f).put d v = act (putF f d v) := by
  cases d with
  | none => rfl
  | some d => simp only [act, Act.put, putF, setF_eq]

theorem act_of {a : Act} (h : a.defers = []) : a = act a.tmps.toList := by
  cases a with
  | mk t d => simp only at h; subst h; simp [act]

/-! ### Code -/
abbrev Kont := Exit → Fr → Heap → Prop

def post (w0 : World) (K : Kont) (e : Exit) (a : Act) (w : World) : Prop := a.defers = [] ∧ ∃ L, Hp w0 L w ∧ K e a.tmps.toList L

/-- From a frame f, in any world that L tells: the code ends, and K holds of how it ends, of the frame and of what is known then. -/
def Cw (P : Program) (w0 : World) (c : Code) (f : Fr) (L : Heap) (K : Kont) : Prop :=
  ∀ w, Hp w0 L w → c.wp P (post w0 K) (act f) w

def thenK (N : Fr → Heap → Prop) (K : Kont) : Kont
  | .normal => N
  | .exit i => K (.exit i)
  | .goto i => K (.goto i)
  | .ret => K .ret
  | .panic c => K (.panic c)
  | .outgrown => K .outgrown

def blockK (id : Nat) (K : Kont) : Kont
  | .normal => K .normal
  | .exit i => if i = id then K .normal else K (.exit i)
  | .goto i => K (.goto i)
  | .ret => K .ret
  | .panic c => K (.panic c)
  | .outgrown => K .outgrown

section
variable {P : Program} {w0 : World} {f : Fr} {L : Heap} {K : Kont}

theorem Cw.mono {c : Code} {K' : Kont} (h : Cw P w0 c f L K) (hk : ∀ e f L, K e f L → K' e f L) : Cw P w0 c f L K' :=
  fun w hw => wp_mono (h w hw) fun _ _ _ ⟨hd, L', hp, k⟩ => ⟨hd, L', hp, hk _ _ _ k⟩

theorem Cw.seq {x y : Code} (h : Cw P w0 x f L (thenK (fun f L => Cw P w0 y f L K) K)) : Cw P w0 (.seq x y) f L K := by
  intro w hw
  refine wp_seq (wp_mono (h w hw) ?_)
  rintro e a w' ⟨hd, L', hp, k⟩
  cases e with
  | normal =>
    have := k w' hp
    rw [← act_of hd] at this
    exact this
  | _ => exact ⟨hd, L', hp, k⟩

theorem Cw.skip (h : K .normal f L) : Cw P w0 .skip f L K := fun w hw => wp_skip ⟨rfl, L, hw, by simpa [act] using h⟩
theorem Cw.label {l : Nat} (h : K .normal f L) : Cw P w0 (.label l) f L K := fun w hw => wp_label ⟨rfl, L, hw, by simpa [act] using h⟩
theorem Cw.exit {i : Nat} (h : K (.exit i) f L) : Cw P w0 (.exit i) f L K := fun w hw => wp_exit ⟨rfl, L, hw, by simpa [act] using h⟩
theorem Cw.goto {i : Nat} (h : K (.goto i) f L) : Cw P w0 (.goto i) f L K := fun w hw => wp_goto ⟨rfl, L, hw, by simpa [act] using h⟩
theorem Cw.ret (h : K .ret f L) : Cw P w0 .ret f L K := fun w hw => wp_ret ⟨rfl, L, hw, by simpa [act] using h⟩

theorem Cw.cond {c : Operand} {x y : Code} {b : Bool} (hc : ev f c = .bool b) (ht : b = true → Cw P w0 x f L K) (he : b = false → Cw P w0 y f L K) : Cw P w0 (.cond c x y) f L K := by
  intro w hw
  have hc' : (act f).eval c = .bool b := (act_eval f c).trans hc
  cases b with
  | true => exact wp_cond_true hc' (ht rfl w hw)
  | false => exact wp_cond_false hc' (he rfl w hw)

theorem Cw.block {id : Nat} {c : Code} (h : Cw P w0 c f L (blockK id K)) : Cw P w0 (.block id c) f L K := by
  intro w hw
  refine wp_block (wp_mono (h w hw) ?_)
  rintro e a w' ⟨hd, L', hp, k⟩
  cases e with
  | exit i =>
    simp only [Exit.inBlock]
    simp only [blockK] at k
    split
    · rename_i e; rw [if_pos e] at k; exact ⟨hd, L', hp, k⟩
    · rename_i e; rw [if_neg e] at k; exact ⟨hd, L', hp, k⟩
  | _ => exact ⟨hd, L', hp, k⟩

/-- A loop: what holds at each round's head, by a number that every round lowers. -/
theorem Cw.loop {c : Code} (I : Nat → Fr → Heap → Prop) (n0 : Nat) (h0 : I n0 f L)
    (round : ∀ n f L, I n f L → Cw P w0 c f L (thenK (fun f' L' => ∃ n', n' < n ∧ I n' f' L') K)) : Cw P w0 (.loop c) f L K := by
  intro w hw
  refine wp_loop_ghost (fun n a w => a.defers = [] ∧ ∃ L, Hp w0 L w ∧ I n a.tmps.toList L) n0 ⟨rfl, L, hw, by simpa [act] using h0⟩ ?_
  rintro n a w ⟨hd, L, hp, hI⟩
  have := round n _ _ hI w hp
  rw [← act_of hd] at this
  refine wp_mono this ?_
  rintro e a' w' ⟨hd', L', hp', k⟩
  cases e with
  | normal =>
    obtain ⟨n', hlt, hI'⟩ := k
    exact ⟨n', hlt, hd', L', hp', hI'⟩
  | _ => exact ⟨hd', L', hp', k⟩
end

/-! ### A loop told by a ghost: which slots are turned, what the pinned ones hold, what the blocks hold -/
def over (j : Nat → Value) (M : List Nat) (f : Fr) : Fr := f.zipIdx.map fun p => if M.contains p.2 then j p.2 else p.1
def pin (f : Fr) : List (Nat × Value) → Fr
  | [] => f
  | (t, v) :: r => pin (setF f t v) r

def overFrom (j : Nat → Value) (M : List Nat) : Nat → Fr → Fr
  | _, [] => []
  | n, v :: r => (if M.contains n then j n else v) :: overFrom j M (n + 1) r

/-- What a round must hand on. -/
def Again {G : Type} (M : List Nat) (S : G → List (Nat × Value)) (H : G → Heap) (J : G → Prop) (μ : G → Nat) (f : Fr) (g : G) (f' : Fr) (L' : Heap) : Prop :=
  ∃ g', μ g' < μ g ∧ J g' ∧ L' = H g' ∧ f' = pin (overFrom (getF f') M 0 f) (S g')
theorem Again.mk {G : Type} {M : List Nat} {S : G → List (Nat × Value)} {H : G → Heap} {J : G → Prop} {μ : G → Nat} {f : Fr} {g : G} {f' : Fr} {L' : Heap} (g' : G)
    (hμ : μ g' < μ g) (hJ : J g') (hL : L' = H g') (hf : f' = pin (overFrom (getF f') M 0 f) (S g')) : Again M S H J μ f g f' L' := ⟨g', hμ, hJ, hL, hf⟩

section
variable {P : Program} {w0 : World} {f : Fr} {L : Heap} {K : Kont}
theorem Cw.loopG {c : Code} {G : Type} (M : List Nat) (S : G → List (Nat × Value)) (H : G → Heap) (J : G → Prop) (μ : G → Nat) (g0 : G)
    (hf : f = pin (overFrom (getF f) M 0 f) (S g0)) (hL : L = H g0) (hJ : J g0)
    (round : ∀ (g : G) (j : Nat → Value), J g → Cw P w0 c (pin (overFrom j M 0 f) (S g)) (H g)
      (thenK (Again M S H J μ f g) K)) : Cw P w0 (.loop c) f L K := by
  refine Cw.loop (fun n f' L' => ∃ g j, n = μ g ∧ J g ∧ L' = H g ∧ f' = pin (overFrom j M 0 f) (S g)) (μ g0) ⟨g0, getF f, rfl, hJ, hL, hf⟩ ?_
  rintro n f' L' ⟨g, j, rfl, hg, rfl, rfl⟩
  refine (round g j hg).mono ?_
  intro e f'' L'' k
  cases e with
  | normal =>
    obtain ⟨g', h1, h2, h3, h4⟩ := k
    exact ⟨_, h1, g', getF f'', rfl, h2, h3, h4⟩
  | _ => exact k
end

end Go.Sx
section
namespace Go.Sx
set_option linter.unusedSimpArgs false
open Go

def bitV (op : BinOp) (k : IntKind) (a b : BitVec k.bits) : Option (BitVec k.bits) :=
  match op with
  | .and => some (a &&& b)
  | .or => some (a ||| b)
  | .xor => some (a ^^^ b)
  | .andNot => some (a &&& ~~~b)
  | _ => none

def cmpV (op : BinOp) (a b : Int) : Option Value :=
  match op with
  | .eql => some (.bool (a == b))
  | .neq => some (.bool (a != b))
  | .lss => some (.bool (decide (a < b)))
  | .leq => some (.bool (decide (a ≤ b)))
  | .gtr => some (.bool (decide (a > b)))
  | .geq => some (.bool (decide (a ≥ b)))
  | _ => none

def intV (op : BinOp) (k : IntKind) (a b : Int) : Option Value :=
  match op with
  | .add => some (.int k (k.wrap (a + b)))
  | .sub => some (.int k (k.wrap (a - b)))
  | .mul => some (.int k (k.wrap (a * b)))
  | .quo => if b = 0 then none else some (.int k (k.wrap (a.tdiv b)))
  | .rem => if b = 0 then none else some (.int k (a.tmod b))
  | .and => (bitV .and k (BitVec.ofInt k.bits a) (BitVec.ofInt k.bits b)).map fun r => .int k (k.wrap (r.toNat : Int))
  | .or => (bitV .or k (BitVec.ofInt k.bits a) (BitVec.ofInt k.bits b)).map fun r => .int k (k.wrap (r.toNat : Int))
  | .xor => (bitV .xor k (BitVec.ofInt k.bits a) (BitVec.ofInt k.bits b)).map fun r => .int k (k.wrap (r.toNat : Int))
  | .andNot => (bitV .andNot k (BitVec.ofInt k.bits a) (BitVec.ofInt k.bits b)).map fun r => .int k (k.wrap (r.toNat : Int))
  | op => cmpV op a b

def shiftV (op : BinOp) (k : IntKind) (a b : Int) : Option Value :=
  if b < 0 then none else
    match op with
    | .shl => some (.int k (k.wrap (a * 2 ^ (min b.toNat k.bits))))
    | .shr => some (.int k (a.fdiv (2 ^ (min b.toNat k.bits))))
    | _ => none

def strV (op : BinOp) (a b : ByteArray) : Option Value :=
  let eq := a.toList == b.toList
  let lt := Op.bytesLess a.toList b.toList
  match op with
  | .add => if a.size + b.size ≤ 9223372036854775807 then some (.string (a ++ b)) else none
  | .eql => some (.bool eq)
  | .neq => some (.bool !eq)
  | .lss => some (.bool lt)
  | .leq => some (.bool (lt || eq))
  | .gtr => some (.bool !(lt || eq))
  | .geq => some (.bool !lt)
  | _ => none

/-- Numbers and texts, two and two. -/
def binV (op : BinOp) (x y : Value) : Option Value :=
  match x, y with
  | .int k a, .int k' b =>
    match op with
    | .shl => shiftV .shl k a b
    | .shr => shiftV .shr k a b
    | op => if k = k' then intV op k a b else none
  | .string a, .string b => strV op a b
  | _, _ => none

def unV (op : UnOp) (x : Value) : Option Value :=
  match op, x with
  | .neg, .int k n => some (.int k (k.wrap (0 - n)))
  | .xor, .int k n => (bitV .xor k (BitVec.ofInt k.bits (if k.signed then -1 else k.max)) (BitVec.ofInt k.bits n)).map fun r => .int k (k.wrap (r.toNat : Int))
  | .not, .bool b => some (.bool !b)
  | _, _ => none

def convI (k : IntKind) (x : Value) : Option Value :=
  match x with
  | .int _ n => some (.int k (k.wrap n))
  | _ => none

theorem run_binV {P : Program} {op : BinOp} {t : TypeId} {x y v : Value} (w : World) (h : binV op x y = some v) : (binOp op t x y).run P w = .ok v w := by
  unfold binV at h
  split at h
  · rename_i k a k' b
    split at h
    · unfold shiftV at h
      split at h
      · cases h
      · rename_i hb
        simp only [Option.some.injEq] at h; subst h
        simp only [binOp, Op.shift, hb, ↓reduceIte]; rfl
    · unfold shiftV at h
      split at h
      · cases h
      · rename_i hb
        simp only [Option.some.injEq] at h; subst h
        simp only [binOp, Op.shift, hb, ↓reduceIte]; rfl
    · rename_i h1 h2
      split at h
      · rename_i hk
        subst hk
        cases op <;> simp only [intV, bitV, cmpV, Option.map_some, Option.some.injEq, reduceCtorEq] at h <;> first
          | (subst h; simp only [binOp, Op.intArith, Op.intBits, Op.intCmp, ne_eq, not_true_eq_false, ↓reduceIte]; rfl)
          | (split at h
             · cases h
             · rename_i hb
               simp only [Option.some.injEq] at h; subst h
               simp only [binOp, Op.intDiv, ne_eq, not_true_eq_false, ↓reduceIte, hb]; rfl)
          | (exact (h1 rfl).elim)
          | (exact (h2 rfl).elim)
      · cases h
  · rename_i a b
    have hm : (9223372036854775807 : Int) = IntKind.i64.max := by decide
    cases op <;> simp only [strV, reduceCtorEq, Option.some.injEq] at h <;> first
      | (subst h; simp only [binOp, Op.stringOp]; rfl)
      | (split at h
         · rename_i hs
           simp only [Option.some.injEq] at h; subst h
           have h0 : ¬ (((a.size + b.size : Nat) : Int) > IntKind.i64.max) := by rw [← hm]; omega
           simp only [binOp, Op.stringOp, h0, ↓reduceIte]; rfl
         · cases h)
  · cases h

theorem run_unV {P : Program} {op : UnOp} {x v : Value} (w : World) (h : unV op x = some v) : (Op.unary op x).run P w = .ok v w := by
  unfold unV at h
  split at h
  · simp only [Option.some.injEq] at h; subst h; rfl
  · simp only [bitV, Option.map_some, Option.some.injEq] at h; subst h; rfl
  · simp only [Option.some.injEq] at h; subst h; rfl
  · cases h

/-! ### int -/
theorem wrap_i64 (n : Int) (h : -9223372036854775808 ≤ n ∧ n ≤ 9223372036854775807) : IntKind.wrap .i64 n = n := by
  simp only [IntKind.wrap, IntKind.bits, IntKind.signed, Bool.true_and]
  split <;> rename_i h' <;> simp only [ge_iff_le, decide_eq_true_eq, Int.not_le] at h' <;> omega
theorem wrap_u8_ofInt (n : Int) : IntKind.wrap .u8 n = ((UInt8.ofInt n).toNat : Int) := by
  simp only [IntKind.wrap, IntKind.bits, IntKind.signed, Bool.false_and, Bool.false_eq_true, ↓reduceIte]
  rw [show UInt8.ofInt n = UInt8.ofNat (n % 2 ^ 8).toNat from rfl, UInt8.toNat_ofNat']
  omega
theorem wrap_u16_ofInt (n : Int) : IntKind.wrap .u16 n = ((UInt16.ofInt n).toNat : Int) := by
  simp only [IntKind.wrap, IntKind.bits, IntKind.signed, Bool.false_and, Bool.false_eq_true, ↓reduceIte]
  rw [show UInt16.ofInt n = UInt16.ofNat (n % 2 ^ 16).toNat from rfl, UInt16.toNat_ofNat']
  omega
theorem wrap_u32_ofInt (n : Int) : IntKind.wrap .u32 n = ((UInt32.ofInt n).toNat : Int) := by
  simp only [IntKind.wrap, IntKind.bits, IntKind.signed, Bool.false_and, Bool.false_eq_true, ↓reduceIte]
  rw [show UInt32.ofInt n = UInt32.ofNat (n % 2 ^ 32).toNat from rfl, UInt32.toNat_ofNat']
  omega
theorem wrap_u64_ofInt (n : Int) : IntKind.wrap .u64 n = ((UInt64.ofInt n).toNat : Int) := by
  simp only [IntKind.wrap, IntKind.bits, IntKind.signed, Bool.false_and, Bool.false_eq_true, ↓reduceIte]
  rw [show UInt64.ofInt n = UInt64.ofNat (n % 2 ^ 64).toNat from rfl, UInt64.toNat_ofNat']
  omega
def vi (n : Int) : Value := .int .i64 n
theorem lit_i64 (n : Int) : Value.int .i64 n = vi n := (rfl)
theorem bin_add_i (a b : Int) (h : -9223372036854775808 ≤ a + b ∧ a + b ≤ 9223372036854775807) : binV .add (vi a) (vi b) = some (vi (a + b)) := by
  simp only [binV, vi, intV, ↓reduceIte, wrap_i64 _ h]
theorem bin_sub_i (a b : Int) (h : -9223372036854775808 ≤ a - b ∧ a - b ≤ 9223372036854775807) : binV .sub (vi a) (vi b) = some (vi (a - b)) := by
  simp only [binV, vi, intV, ↓reduceIte, wrap_i64 _ h]
theorem bin_mul_i (a b : Int) (h : -9223372036854775808 ≤ a * b ∧ a * b ≤ 9223372036854775807) : binV .mul (vi a) (vi b) = some (vi (a * b)) := by
  simp only [binV, vi, intV, ↓reduceIte, wrap_i64 _ h]
/-- Go's division where the numbers are not below 0. -/
theorem bin_quo_i (a b : Int) (h : 0 ≤ a ∧ 0 < b ∧ a ≤ 9223372036854775807) : binV .quo (vi a) (vi b) = some (vi (a / b)) := by
  have h0 : (b = 0) = False := by simp only [eq_iff_iff, iff_false]; omega
  have e : a.tdiv b = a / b := Int.tdiv_eq_ediv_of_nonneg h.1
  have h1 : 0 ≤ a / b := Int.ediv_nonneg h.1 (by omega)
  have h2 : a / b ≤ a := Int.ediv_le_self b h.1
  simp only [binV, vi, intV, ↓reduceIte, h0, e, wrap_i64 (a / b) ⟨by omega, by omega⟩]
theorem bin_rem_i (a b : Int) (h : 0 ≤ a ∧ 0 < b) : binV .rem (vi a) (vi b) = some (vi (a % b)) := by
  have h0 : (b = 0) = False := by simp only [eq_iff_iff, iff_false]; omega
  have e : a.tmod b = a % b := Int.tmod_eq_emod_of_nonneg h.1
  simp only [binV, vi, intV, ↓reduceIte, h0, e]
theorem bin_eql_i (a b : Int) : binV .eql (vi a) (vi b) = some (.bool (a == b)) := (rfl)
theorem bin_neq_i (a b : Int) : binV .neq (vi a) (vi b) = some (.bool (a != b)) := (rfl)
theorem bin_lss_i (a b : Int) : binV .lss (vi a) (vi b) = some (.bool (decide (a < b))) := (rfl)
theorem bin_leq_i (a b : Int) : binV .leq (vi a) (vi b) = some (.bool (decide (a ≤ b))) := (rfl)
theorem bin_gtr_i (a b : Int) : binV .gtr (vi a) (vi b) = some (.bool (decide (b < a))) := (rfl)
theorem bin_geq_i (a b : Int) : binV .geq (vi a) (vi b) = some (.bool (decide (b ≤ a))) := (rfl)
theorem un_neg_i (a : Int) (h : -9223372036854775807 ≤ a ∧ a ≤ 9223372036854775807) : unV .neg (vi a) = some (vi (-a)) := by
  simp only [unV, vi, Int.zero_sub, wrap_i64 (-a) ⟨by omega, by omega⟩]
theorem un_not (b : Bool) : unV .not (.bool b) = some (.bool !b) := (rfl)
theorem conv_i64_i64 (n : Int) (h : -9223372036854775808 ≤ n ∧ n ≤ 9223372036854775807) : convI .i64 (vi n) = some (vi n) := by
  simp only [convI, vi, wrap_i64 _ h]
theorem shl_i_v (a : Int) (kk : IntKind) (c : Nat) (h : c < 63 ∧ 0 ≤ a ∧ a * 2 ^ c ≤ 9223372036854775807) : binV .shl (vi a) (.int kk (c : Int)) = some (vi (a * 2 ^ c)) := by
  have h0 : ((c : Int) < 0) = False := by simp only [eq_iff_iff, iff_false]; omega
  have hm : min c 64 = c := by omega
  have hp : (0 : Int) ≤ a * 2 ^ c := Int.mul_nonneg h.2.1 (Int.pow_nonneg (by omega))
  simp only [binV, vi, shiftV, h0, ↓reduceIte, Int.toNat_natCast, IntKind.bits, hm, wrap_i64 (a * 2 ^ c) ⟨by omega, h.2.2⟩]
theorem shr_i_v (a : Int) (kk : IntKind) (c : Nat) (h : c < 64 ∧ 0 ≤ a) : binV .shr (vi a) (.int kk (c : Int)) = some (vi (a / 2 ^ c)) := by
  have h0 : ((c : Int) < 0) = False := by simp only [eq_iff_iff, iff_false]; omega
  have hm : min c 64 = c := by omega
  have hp : (0 : Int) ≤ 2 ^ c := Int.pow_nonneg (by omega)
  simp only [binV, vi, shiftV, h0, ↓reduceIte, Int.toNat_natCast, IntKind.bits, hm, Int.fdiv_eq_ediv_of_nonneg _ hp]

/-! ### UInt8 -/
def v8 (x : UInt8) : Value := .int .u8 (x.toNat : Int)
theorem wrap_u8 (n : Nat) (h : n < 256) : IntKind.wrap .u8 (n : Int) = (n : Int) := by
  simp only [IntKind.wrap, IntKind.bits, IntKind.signed, Bool.false_and, Bool.false_eq_true, ↓reduceIte]
  omega
theorem wrap_u8_mod (n : Nat) : IntKind.wrap .u8 (n : Int) = ((n % 256 : Nat) : Int) := by
  simp only [IntKind.wrap, IntKind.bits, IntKind.signed, Bool.false_and, Bool.false_eq_true, ↓reduceIte]
  omega
theorem bv_u8 (x : UInt8) : BitVec.ofInt (IntKind.bits .u8) (x.toNat : Int) = x.toBitVec := by
  apply BitVec.eq_of_toNat_eq
  simp only [IntKind.bits, BitVec.ofInt_natCast, BitVec.toNat_ofNat, UInt8.toNat_toBitVec]
  exact Nat.mod_eq_of_lt x.toNat_lt

theorem lit_u8 (n : Nat) (h : n < 256) : Value.int .u8 (no_index (@OfNat.ofNat Int n _)) = v8 (@OfNat.ofNat UInt8 n _) := by
  have : ((@OfNat.ofNat UInt8 n _).toNat : Int) = (@OfNat.ofNat Int n _) := by
    have e : (@OfNat.ofNat UInt8 n _).toNat = n := by rw [UInt8.toNat_ofNat]; exact Nat.mod_eq_of_lt h
    rw [e]; rfl
  rw [v8, this]
theorem bin_add_u8 (x y : UInt8) : binV .add (v8 x) (v8 y) = some (v8 (x + y)) := by
  simp only [binV, v8, intV, ↓reduceIte, UInt8.toNat_add]
  rw [← Int.natCast_add, wrap_u8_mod]
theorem bin_mul_u8 (x y : UInt8) : binV .mul (v8 x) (v8 y) = some (v8 (x * y)) := by
  simp only [binV, v8, intV, ↓reduceIte, UInt8.toNat_mul]
  rw [← Int.natCast_mul, wrap_u8_mod]
theorem bin_sub_u8 (x y : UInt8) : binV .sub (v8 x) (v8 y) = some (v8 (x - y)) := by
  have hx := x.toNat_lt; have hy := y.toNat_lt
  have e : IntKind.wrap .u8 ((x.toNat : Int) - (y.toNat : Int)) = ((x - y).toNat : Int) := by
    rw [UInt8.toNat_sub]
    simp only [IntKind.wrap, IntKind.bits, IntKind.signed, Bool.false_and, Bool.false_eq_true, ↓reduceIte]
    omega
  simp only [binV, v8, intV, ↓reduceIte, e]
theorem bin_and_u8 (x y : UInt8) : binV .and (v8 x) (v8 y) = some (v8 (x &&& y)) := by
  simp only [binV, v8, intV, ↓reduceIte, bitV, bv_u8, Option.map_some]
  show some (Value.int .u8 (IntKind.wrap .u8 ((x &&& y).toNat : Int))) = _
  rw [wrap_u8 _ (x &&& y).toNat_lt]
theorem bin_or_u8 (x y : UInt8) : binV .or (v8 x) (v8 y) = some (v8 (x ||| y)) := by
  simp only [binV, v8, intV, ↓reduceIte, bitV, bv_u8, Option.map_some]
  show some (Value.int .u8 (IntKind.wrap .u8 ((x ||| y).toNat : Int))) = _
  rw [wrap_u8 _ (x ||| y).toNat_lt]
theorem bin_xor_u8 (x y : UInt8) : binV .xor (v8 x) (v8 y) = some (v8 (x ^^^ y)) := by
  simp only [binV, v8, intV, ↓reduceIte, bitV, bv_u8, Option.map_some]
  show some (Value.int .u8 (IntKind.wrap .u8 ((x ^^^ y).toNat : Int))) = _
  rw [wrap_u8 _ (x ^^^ y).toNat_lt]
theorem un_xor_u8 (x : UInt8) : unV .xor (v8 x) = some (v8 (~~~ x)) := by
  have hx := x.toNat_lt
  have e : (BitVec.ofInt (IntKind.bits .u8) (IntKind.max .u8)) = BitVec.allOnes 8 := rfl
  have e2 : (BitVec.allOnes 8 ^^^ x.toBitVec) = (~~~ x).toBitVec := by rw [UInt8.toBitVec_not]; exact BitVec.allOnes_xor
  simp only [unV, v8, bitV, bv_u8, IntKind.signed, Bool.false_eq_true, ↓reduceIte, e, Option.map_some]
  show some (Value.int .u8 (IntKind.wrap .u8 ((BitVec.allOnes 8 ^^^ x.toBitVec).toNat : Int))) = _
  rw [e2]
  show some (Value.int .u8 (IntKind.wrap .u8 ((~~~ x).toNat : Int))) = _
  rw [wrap_u8 _ (~~~ x).toNat_lt]
def shr_u8 (x : UInt8) (n : Nat) : UInt8 := UInt8.ofNat (x.toNat / 2 ^ n)
def shl_u8 (x : UInt8) (n : Nat) : UInt8 := UInt8.ofNat (x.toNat * 2 ^ n)
theorem bin_lss_u8 (x y : UInt8) : binV .lss (v8 x) (v8 y) = some (.bool (decide (x < y))) := by
  simp only [binV, v8, intV, ↓reduceIte, cmpV, UInt8.lt_iff_toNat_lt, Int.ofNat_lt, Int.ofNat_le]
theorem bin_leq_u8 (x y : UInt8) : binV .leq (v8 x) (v8 y) = some (.bool (decide (x ≤ y))) := by
  simp only [binV, v8, intV, ↓reduceIte, cmpV, UInt8.le_iff_toNat_le, Int.ofNat_lt, Int.ofNat_le]
theorem bin_gtr_u8 (x y : UInt8) : binV .gtr (v8 x) (v8 y) = some (.bool (decide (y < x))) := by
  simp only [binV, v8, intV, ↓reduceIte, cmpV, UInt8.lt_iff_toNat_lt, Int.ofNat_lt, Int.ofNat_le, gt_iff_lt, ge_iff_le]
theorem bin_geq_u8 (x y : UInt8) : binV .geq (v8 x) (v8 y) = some (.bool (decide (y ≤ x))) := by
  simp only [binV, v8, intV, ↓reduceIte, cmpV, UInt8.le_iff_toNat_le, Int.ofNat_lt, Int.ofNat_le, gt_iff_lt, ge_iff_le]
theorem beq_u8 (x y : UInt8) : ((x.toNat : Int) == (y.toNat : Int)) = (x == y) := by
  rw [Bool.eq_iff_iff, beq_iff_eq, beq_iff_eq, Int.ofNat_inj, UInt8.toNat_inj]
theorem bin_eql_u8 (x y : UInt8) : binV .eql (v8 x) (v8 y) = some (.bool (x == y)) := by
  simp only [binV, v8, intV, ↓reduceIte, cmpV, beq_u8]
theorem bin_neq_u8 (x y : UInt8) : binV .neq (v8 x) (v8 y) = some (.bool (x != y)) := by
  simp only [binV, v8, intV, ↓reduceIte, cmpV, bne, beq_u8]
theorem bin_quo_u8 (x y : UInt8) (h : 0 < y.toNat) : binV .quo (v8 x) (v8 y) = some (v8 (x / y)) := by
  have hx := x.toNat_lt
  have e : IntKind.wrap .u8 ((x.toNat : Int).tdiv (y.toNat : Int)) = ((x / y).toNat : Int) := by
    rw [UInt8.toNat_div, Int.tdiv_eq_ediv_of_nonneg (by omega), ← Int.natCast_ediv, wrap_u8_mod]
    congr 1
    exact Nat.mod_eq_of_lt (Nat.lt_of_le_of_lt (Nat.div_le_self _ _) hx)
  have h0 : ((y.toNat : Int) = 0) = False := by simp only [eq_iff_iff, iff_false]; omega
  simp only [binV, v8, intV, ↓reduceIte, h0, e]
theorem bin_rem_u8 (x y : UInt8) (h : 0 < y.toNat) : binV .rem (v8 x) (v8 y) = some (v8 (x % y)) := by
  have e : ((x.toNat : Int).tmod (y.toNat : Int)) = ((x % y).toNat : Int) := by
    rw [UInt8.toNat_mod, Int.tmod_eq_emod_of_nonneg (by omega), Int.natCast_emod]
  have h0 : ((y.toNat : Int) = 0) = False := by simp only [eq_iff_iff, iff_false]; omega
  simp only [binV, v8, intV, ↓reduceIte, h0, e]
theorem shr_u8_v (x : UInt8) (kk : IntKind) (c : Nat) : binV .shr (v8 x) (.int kk (c : Int)) = some (v8 (shr_u8 x c)) := by
  have hx := x.toNat_lt
  have h0 : ((c : Int) < 0) = False := by simp only [eq_iff_iff, iff_false]; omega
  have e : ((x.toNat : Int).fdiv (2 ^ (min c 8))) = ((shr_u8 x c).toNat : Int) := by
    have hp : (2 : Int) ^ (min c 8) = ((2 ^ (min c 8) : Nat) : Int) := by rw [Int.natCast_pow]; rfl
    rw [hp, Int.fdiv_eq_ediv_of_nonneg _ (Int.natCast_nonneg _), ← Int.natCast_ediv, shr_u8, UInt8.toNat_ofNat']
    congr 1
    rw [Nat.mod_eq_of_lt (Nat.lt_of_le_of_lt (Nat.div_le_self _ _) hx)]
    by_cases hc : c ≤ 8
    · rw [Nat.min_eq_left hc]
    · rw [Nat.min_eq_right (by omega), Nat.div_eq_of_lt (by simpa using hx), Nat.div_eq_of_lt]
      exact Nat.lt_of_lt_of_le (by simpa using hx) (Nat.pow_le_pow_right (by omega) (by omega : 8 ≤ c))
  simp only [binV, v8, shiftV, h0, ↓reduceIte, Int.toNat_natCast, IntKind.bits, e]
theorem shl_u8_v (x : UInt8) (kk : IntKind) (c : Nat) : binV .shl (v8 x) (.int kk (c : Int)) = some (v8 (shl_u8 x c)) := by
  have h0 : ((c : Int) < 0) = False := by simp only [eq_iff_iff, iff_false]; omega
  have e : IntKind.wrap .u8 ((x.toNat : Int) * (2 ^ (min c 8))) = ((shl_u8 x c).toNat : Int) := by
    have hp : (2 : Int) ^ (min c 8) = ((2 ^ (min c 8) : Nat) : Int) := by rw [Int.natCast_pow]; rfl
    rw [hp, ← Int.natCast_mul, wrap_u8_mod, shl_u8, UInt8.toNat_ofNat']
    congr 1
    by_cases hc : c ≤ 8
    · rw [Nat.min_eq_left hc]
    · rw [Nat.min_eq_right (by omega)]
      have : 2 ^ c = 2 ^ 8 * 2 ^ (c - 8) := by rw [← Nat.pow_add]; congr 1; omega
      rw [this, ← Nat.mul_assoc, Nat.mul_right_comm]
      simp [Nat.mul_mod_left]
  simp only [binV, v8, shiftV, h0, ↓reduceIte, Int.toNat_natCast, IntKind.bits, e]

/-! ### UInt16 -/
def v16 (x : UInt16) : Value := .int .u16 (x.toNat : Int)
theorem wrap_u16 (n : Nat) (h : n < 65536) : IntKind.wrap .u16 (n : Int) = (n : Int) := by
  simp only [IntKind.wrap, IntKind.bits, IntKind.signed, Bool.false_and, Bool.false_eq_true, ↓reduceIte]
  omega
theorem wrap_u16_mod (n : Nat) : IntKind.wrap .u16 (n : Int) = ((n % 65536 : Nat) : Int) := by
  simp only [IntKind.wrap, IntKind.bits, IntKind.signed, Bool.false_and, Bool.false_eq_true, ↓reduceIte]
  omega
theorem bv_u16 (x : UInt16) : BitVec.ofInt (IntKind.bits .u16) (x.toNat : Int) = x.toBitVec := by
  apply BitVec.eq_of_toNat_eq
  simp only [IntKind.bits, BitVec.ofInt_natCast, BitVec.toNat_ofNat, UInt16.toNat_toBitVec]
  exact Nat.mod_eq_of_lt x.toNat_lt

theorem lit_u16 (n : Nat) (h : n < 65536) : Value.int .u16 (no_index (@OfNat.ofNat Int n _)) = v16 (@OfNat.ofNat UInt16 n _) := by
  have : ((@OfNat.ofNat UInt16 n _).toNat : Int) = (@OfNat.ofNat Int n _) := by
    have e : (@OfNat.ofNat UInt16 n _).toNat = n := by rw [UInt16.toNat_ofNat]; exact Nat.mod_eq_of_lt h
    rw [e]; rfl
  rw [v16, this]
theorem bin_add_u16 (x y : UInt16) : binV .add (v16 x) (v16 y) = some (v16 (x + y)) := by
  simp only [binV, v16, intV, ↓reduceIte, UInt16.toNat_add]
  rw [← Int.natCast_add, wrap_u16_mod]
theorem bin_mul_u16 (x y : UInt16) : binV .mul (v16 x) (v16 y) = some (v16 (x * y)) := by
  simp only [binV, v16, intV, ↓reduceIte, UInt16.toNat_mul]
  rw [← Int.natCast_mul, wrap_u16_mod]
theorem bin_sub_u16 (x y : UInt16) : binV .sub (v16 x) (v16 y) = some (v16 (x - y)) := by
  have hx := x.toNat_lt; have hy := y.toNat_lt
  have e : IntKind.wrap .u16 ((x.toNat : Int) - (y.toNat : Int)) = ((x - y).toNat : Int) := by
    rw [UInt16.toNat_sub]
    simp only [IntKind.wrap, IntKind.bits, IntKind.signed, Bool.false_and, Bool.false_eq_true, ↓reduceIte]
    omega
  simp only [binV, v16, intV, ↓reduceIte, e]
theorem bin_and_u16 (x y : UInt16) : binV .and (v16 x) (v16 y) = some (v16 (x &&& y)) := by
  simp only [binV, v16, intV, ↓reduceIte, bitV, bv_u16, Option.map_some]
  show some (Value.int .u16 (IntKind.wrap .u16 ((x &&& y).toNat : Int))) = _
  rw [wrap_u16 _ (x &&& y).toNat_lt]
theorem bin_or_u16 (x y : UInt16) : binV .or (v16 x) (v16 y) = some (v16 (x ||| y)) := by
  simp only [binV, v16, intV, ↓reduceIte, bitV, bv_u16, Option.map_some]
  show some (Value.int .u16 (IntKind.wrap .u16 ((x ||| y).toNat : Int))) = _
  rw [wrap_u16 _ (x ||| y).toNat_lt]
theorem bin_xor_u16 (x y : UInt16) : binV .xor (v16 x) (v16 y) = some (v16 (x ^^^ y)) := by
  simp only [binV, v16, intV, ↓reduceIte, bitV, bv_u16, Option.map_some]
  show some (Value.int .u16 (IntKind.wrap .u16 ((x ^^^ y).toNat : Int))) = _
  rw [wrap_u16 _ (x ^^^ y).toNat_lt]
theorem un_xor_u16 (x : UInt16) : unV .xor (v16 x) = some (v16 (~~~ x)) := by
  have hx := x.toNat_lt
  have e : (BitVec.ofInt (IntKind.bits .u16) (IntKind.max .u16)) = BitVec.allOnes 16 := rfl
  have e2 : (BitVec.allOnes 16 ^^^ x.toBitVec) = (~~~ x).toBitVec := by rw [UInt16.toBitVec_not]; exact BitVec.allOnes_xor
  simp only [unV, v16, bitV, bv_u16, IntKind.signed, Bool.false_eq_true, ↓reduceIte, e, Option.map_some]
  show some (Value.int .u16 (IntKind.wrap .u16 ((BitVec.allOnes 16 ^^^ x.toBitVec).toNat : Int))) = _
  rw [e2]
  show some (Value.int .u16 (IntKind.wrap .u16 ((~~~ x).toNat : Int))) = _
  rw [wrap_u16 _ (~~~ x).toNat_lt]
def shr_u16 (x : UInt16) (n : Nat) : UInt16 := UInt16.ofNat (x.toNat / 2 ^ n)
def shl_u16 (x : UInt16) (n : Nat) : UInt16 := UInt16.ofNat (x.toNat * 2 ^ n)
theorem bin_lss_u16 (x y : UInt16) : binV .lss (v16 x) (v16 y) = some (.bool (decide (x < y))) := by
  simp only [binV, v16, intV, ↓reduceIte, cmpV, UInt16.lt_iff_toNat_lt, Int.ofNat_lt, Int.ofNat_le]
theorem bin_leq_u16 (x y : UInt16) : binV .leq (v16 x) (v16 y) = some (.bool (decide (x ≤ y))) := by
  simp only [binV, v16, intV, ↓reduceIte, cmpV, UInt16.le_iff_toNat_le, Int.ofNat_lt, Int.ofNat_le]
theorem bin_gtr_u16 (x y : UInt16) : binV .gtr (v16 x) (v16 y) = some (.bool (decide (y < x))) := by
  simp only [binV, v16, intV, ↓reduceIte, cmpV, UInt16.lt_iff_toNat_lt, Int.ofNat_lt, Int.ofNat_le, gt_iff_lt, ge_iff_le]
theorem bin_geq_u16 (x y : UInt16) : binV .geq (v16 x) (v16 y) = some (.bool (decide (y ≤ x))) := by
  simp only [binV, v16, intV, ↓reduceIte, cmpV, UInt16.le_iff_toNat_le, Int.ofNat_lt, Int.ofNat_le, gt_iff_lt, ge_iff_le]
theorem beq_u16 (x y : UInt16) : ((x.toNat : Int) == (y.toNat : Int)) = (x == y) := by
  rw [Bool.eq_iff_iff, beq_iff_eq, beq_iff_eq, Int.ofNat_inj, UInt16.toNat_inj]
theorem bin_eql_u16 (x y : UInt16) : binV .eql (v16 x) (v16 y) = some (.bool (x == y)) := by
  simp only [binV, v16, intV, ↓reduceIte, cmpV, beq_u16]
theorem bin_neq_u16 (x y : UInt16) : binV .neq (v16 x) (v16 y) = some (.bool (x != y)) := by
  simp only [binV, v16, intV, ↓reduceIte, cmpV, bne, beq_u16]
theorem bin_quo_u16 (x y : UInt16) (h : 0 < y.toNat) : binV .quo (v16 x) (v16 y) = some (v16 (x / y)) := by
  have hx := x.toNat_lt
  have e : IntKind.wrap .u16 ((x.toNat : Int).tdiv (y.toNat : Int)) = ((x / y).toNat : Int) := by
    rw [UInt16.toNat_div, Int.tdiv_eq_ediv_of_nonneg (by omega), ← Int.natCast_ediv, wrap_u16_mod]
    congr 1
    exact Nat.mod_eq_of_lt (Nat.lt_of_le_of_lt (Nat.div_le_self _ _) hx)
  have h0 : ((y.toNat : Int) = 0) = False := by simp only [eq_iff_iff, iff_false]; omega
  simp only [binV, v16, intV, ↓reduceIte, h0, e]
theorem bin_rem_u16 (x y : UInt16) (h : 0 < y.toNat) : binV .rem (v16 x) (v16 y) = some (v16 (x % y)) := by
  have e : ((x.toNat : Int).tmod (y.toNat : Int)) = ((x % y).toNat : Int) := by
    rw [UInt16.toNat_mod, Int.tmod_eq_emod_of_nonneg (by omega), Int.natCast_emod]
  have h0 : ((y.toNat : Int) = 0) = False := by simp only [eq_iff_iff, iff_false]; omega
  simp only [binV, v16, intV, ↓reduceIte, h0, e]
theorem shr_u16_v (x : UInt16) (kk : IntKind) (c : Nat) : binV .shr (v16 x) (.int kk (c : Int)) = some (v16 (shr_u16 x c)) := by
  have hx := x.toNat_lt
  have h0 : ((c : Int) < 0) = False := by simp only [eq_iff_iff, iff_false]; omega
  have e : ((x.toNat : Int).fdiv (2 ^ (min c 16))) = ((shr_u16 x c).toNat : Int) := by
    have hp : (2 : Int) ^ (min c 16) = ((2 ^ (min c 16) : Nat) : Int) := by rw [Int.natCast_pow]; rfl
    rw [hp, Int.fdiv_eq_ediv_of_nonneg _ (Int.natCast_nonneg _), ← Int.natCast_ediv, shr_u16, UInt16.toNat_ofNat']
    congr 1
    rw [Nat.mod_eq_of_lt (Nat.lt_of_le_of_lt (Nat.div_le_self _ _) hx)]
    by_cases hc : c ≤ 16
    · rw [Nat.min_eq_left hc]
    · rw [Nat.min_eq_right (by omega), Nat.div_eq_of_lt (by simpa using hx), Nat.div_eq_of_lt]
      exact Nat.lt_of_lt_of_le (by simpa using hx) (Nat.pow_le_pow_right (by omega) (by omega : 16 ≤ c))
  simp only [binV, v16, shiftV, h0, ↓reduceIte, Int.toNat_natCast, IntKind.bits, e]
theorem shl_u16_v (x : UInt16) (kk : IntKind) (c : Nat) : binV .shl (v16 x) (.int kk (c : Int)) = some (v16 (shl_u16 x c)) := by
  have h0 : ((c : Int) < 0) = False := by simp only [eq_iff_iff, iff_false]; omega
  have e : IntKind.wrap .u16 ((x.toNat : Int) * (2 ^ (min c 16))) = ((shl_u16 x c).toNat : Int) := by
    have hp : (2 : Int) ^ (min c 16) = ((2 ^ (min c 16) : Nat) : Int) := by rw [Int.natCast_pow]; rfl
    rw [hp, ← Int.natCast_mul, wrap_u16_mod, shl_u16, UInt16.toNat_ofNat']
    congr 1
    by_cases hc : c ≤ 16
    · rw [Nat.min_eq_left hc]
    · rw [Nat.min_eq_right (by omega)]
      have : 2 ^ c = 2 ^ 16 * 2 ^ (c - 16) := by rw [← Nat.pow_add]; congr 1; omega
      rw [this, ← Nat.mul_assoc, Nat.mul_right_comm]
      simp [Nat.mul_mod_left]
  simp only [binV, v16, shiftV, h0, ↓reduceIte, Int.toNat_natCast, IntKind.bits, e]

/-! ### UInt32 -/
def v32 (x : UInt32) : Value := .int .u32 (x.toNat : Int)
theorem wrap_u32 (n : Nat) (h : n < 4294967296) : IntKind.wrap .u32 (n : Int) = (n : Int) := by
  simp only [IntKind.wrap, IntKind.bits, IntKind.signed, Bool.false_and, Bool.false_eq_true, ↓reduceIte]
  omega
theorem wrap_u32_mod (n : Nat) : IntKind.wrap .u32 (n : Int) = ((n % 4294967296 : Nat) : Int) := by
  simp only [IntKind.wrap, IntKind.bits, IntKind.signed, Bool.false_and, Bool.false_eq_true, ↓reduceIte]
  omega
theorem bv_u32 (x : UInt32) : BitVec.ofInt (IntKind.bits .u32) (x.toNat : Int) = x.toBitVec := by
  apply BitVec.eq_of_toNat_eq
  simp only [IntKind.bits, BitVec.ofInt_natCast, BitVec.toNat_ofNat, UInt32.toNat_toBitVec]
  exact Nat.mod_eq_of_lt x.toNat_lt

theorem lit_u32 (n : Nat) (h : n < 4294967296) : Value.int .u32 (no_index (@OfNat.ofNat Int n _)) = v32 (@OfNat.ofNat UInt32 n _) := by
  have : ((@OfNat.ofNat UInt32 n _).toNat : Int) = (@OfNat.ofNat Int n _) := by
    have e : (@OfNat.ofNat UInt32 n _).toNat = n := by rw [UInt32.toNat_ofNat]; exact Nat.mod_eq_of_lt h
    rw [e]; rfl
  rw [v32, this]
theorem bin_add_u32 (x y : UInt32) : binV .add (v32 x) (v32 y) = some (v32 (x + y)) := by
  simp only [binV, v32, intV, ↓reduceIte, UInt32.toNat_add]
  rw [← Int.natCast_add, wrap_u32_mod]
theorem bin_mul_u32 (x y : UInt32) : binV .mul (v32 x) (v32 y) = some (v32 (x * y)) := by
  simp only [binV, v32, intV, ↓reduceIte, UInt32.toNat_mul]
  rw [← Int.natCast_mul, wrap_u32_mod]
theorem bin_sub_u32 (x y : UInt32) : binV .sub (v32 x) (v32 y) = some (v32 (x - y)) := by
  have hx := x.toNat_lt; have hy := y.toNat_lt
  have e : IntKind.wrap .u32 ((x.toNat : Int) - (y.toNat : Int)) = ((x - y).toNat : Int) := by
    rw [UInt32.toNat_sub]
    simp only [IntKind.wrap, IntKind.bits, IntKind.signed, Bool.false_and, Bool.false_eq_true, ↓reduceIte]
    omega
  simp only [binV, v32, intV, ↓reduceIte, e]
theorem bin_and_u32 (x y : UInt32) : binV .and (v32 x) (v32 y) = some (v32 (x &&& y)) := by
  simp only [binV, v32, intV, ↓reduceIte, bitV, bv_u32, Option.map_some]
  show some (Value.int .u32 (IntKind.wrap .u32 ((x &&& y).toNat : Int))) = _
  rw [wrap_u32 _ (x &&& y).toNat_lt]
theorem bin_or_u32 (x y : UInt32) : binV .or (v32 x) (v32 y) = some (v32 (x ||| y)) := by
  simp only [binV, v32, intV, ↓reduceIte, bitV, bv_u32, Option.map_some]
  show some (Value.int .u32 (IntKind.wrap .u32 ((x ||| y).toNat : Int))) = _
  rw [wrap_u32 _ (x ||| y).toNat_lt]
theorem bin_xor_u32 (x y : UInt32) : binV .xor (v32 x) (v32 y) = some (v32 (x ^^^ y)) := by
  simp only [binV, v32, intV, ↓reduceIte, bitV, bv_u32, Option.map_some]
  show some (Value.int .u32 (IntKind.wrap .u32 ((x ^^^ y).toNat : Int))) = _
  rw [wrap_u32 _ (x ^^^ y).toNat_lt]
theorem un_xor_u32 (x : UInt32) : unV .xor (v32 x) = some (v32 (~~~ x)) := by
  have hx := x.toNat_lt
  have e : (BitVec.ofInt (IntKind.bits .u32) (IntKind.max .u32)) = BitVec.allOnes 32 := rfl
  have e2 : (BitVec.allOnes 32 ^^^ x.toBitVec) = (~~~ x).toBitVec := by rw [UInt32.toBitVec_not]; exact BitVec.allOnes_xor
  simp only [unV, v32, bitV, bv_u32, IntKind.signed, Bool.false_eq_true, ↓reduceIte, e, Option.map_some]
  show some (Value.int .u32 (IntKind.wrap .u32 ((BitVec.allOnes 32 ^^^ x.toBitVec).toNat : Int))) = _
  rw [e2]
  show some (Value.int .u32 (IntKind.wrap .u32 ((~~~ x).toNat : Int))) = _
  rw [wrap_u32 _ (~~~ x).toNat_lt]
def shr_u32 (x : UInt32) (n : Nat) : UInt32 := UInt32.ofNat (x.toNat / 2 ^ n)
def shl_u32 (x : UInt32) (n : Nat) : UInt32 := UInt32.ofNat (x.toNat * 2 ^ n)
theorem bin_lss_u32 (x y : UInt32) : binV .lss (v32 x) (v32 y) = some (.bool (decide (x < y))) := by
  simp only [binV, v32, intV, ↓reduceIte, cmpV, UInt32.lt_iff_toNat_lt, Int.ofNat_lt, Int.ofNat_le]
theorem bin_leq_u32 (x y : UInt32) : binV .leq (v32 x) (v32 y) = some (.bool (decide (x ≤ y))) := by
  simp only [binV, v32, intV, ↓reduceIte, cmpV, UInt32.le_iff_toNat_le, Int.ofNat_lt, Int.ofNat_le]
theorem bin_gtr_u32 (x y : UInt32) : binV .gtr (v32 x) (v32 y) = some (.bool (decide (y < x))) := by
  simp only [binV, v32, intV, ↓reduceIte, cmpV, UInt32.lt_iff_toNat_lt, Int.ofNat_lt, Int.ofNat_le, gt_iff_lt, ge_iff_le]
theorem bin_geq_u32 (x y : UInt32) : binV .geq (v32 x) (v32 y) = some (.bool (decide (y ≤ x))) := by
  simp only [binV, v32, intV, ↓reduceIte, cmpV, UInt32.le_iff_toNat_le, Int.ofNat_lt, Int.ofNat_le, gt_iff_lt, ge_iff_le]
theorem beq_u32 (x y : UInt32) : ((x.toNat : Int) == (y.toNat : Int)) = (x == y) := by
  rw [Bool.eq_iff_iff, beq_iff_eq, beq_iff_eq, Int.ofNat_inj, UInt32.toNat_inj]
theorem bin_eql_u32 (x y : UInt32) : binV .eql (v32 x) (v32 y) = some (.bool (x == y)) := by
  simp only [binV, v32, intV, ↓reduceIte, cmpV, beq_u32]
theorem bin_neq_u32 (x y : UInt32) : binV .neq (v32 x) (v32 y) = some (.bool (x != y)) := by
  simp only [binV, v32, intV, ↓reduceIte, cmpV, bne, beq_u32]
theorem bin_quo_u32 (x y : UInt32) (h : 0 < y.toNat) : binV .quo (v32 x) (v32 y) = some (v32 (x / y)) := by
  have hx := x.toNat_lt
  have e : IntKind.wrap .u32 ((x.toNat : Int).tdiv (y.toNat : Int)) = ((x / y).toNat : Int) := by
    rw [UInt32.toNat_div, Int.tdiv_eq_ediv_of_nonneg (by omega), ← Int.natCast_ediv, wrap_u32_mod]
    congr 1
    exact Nat.mod_eq_of_lt (Nat.lt_of_le_of_lt (Nat.div_le_self _ _) hx)
  have h0 : ((y.toNat : Int) = 0) = False := by simp only [eq_iff_iff, iff_false]; omega
  simp only [binV, v32, intV, ↓reduceIte, h0, e]
theorem bin_rem_u32 (x y : UInt32) (h : 0 < y.toNat) : binV .rem (v32 x) (v32 y) = some (v32 (x % y)) := by
  have e : ((x.toNat : Int).tmod (y.toNat : Int)) = ((x % y).toNat : Int) := by
    rw [UInt32.toNat_mod, Int.tmod_eq_emod_of_nonneg (by omega), Int.natCast_emod]
  have h0 : ((y.toNat : Int) = 0) = False := by simp only [eq_iff_iff, iff_false]; omega
  simp only [binV, v32, intV, ↓reduceIte, h0, e]
theorem shr_u32_v (x : UInt32) (kk : IntKind) (c : Nat) : binV .shr (v32 x) (.int kk (c : Int)) = some (v32 (shr_u32 x c)) := by
  have hx := x.toNat_lt
  have h0 : ((c : Int) < 0) = False := by simp only [eq_iff_iff, iff_false]; omega
  have e : ((x.toNat : Int).fdiv (2 ^ (min c 32))) = ((shr_u32 x c).toNat : Int) := by
    have hp : (2 : Int) ^ (min c 32) = ((2 ^ (min c 32) : Nat) : Int) := by rw [Int.natCast_pow]; rfl
    rw [hp, Int.fdiv_eq_ediv_of_nonneg _ (Int.natCast_nonneg _), ← Int.natCast_ediv, shr_u32, UInt32.toNat_ofNat']
    congr 1
    rw [Nat.mod_eq_of_lt (Nat.lt_of_le_of_lt (Nat.div_le_self _ _) hx)]
    by_cases hc : c ≤ 32
    · rw [Nat.min_eq_left hc]
    · rw [Nat.min_eq_right (by omega), Nat.div_eq_of_lt (by simpa using hx), Nat.div_eq_of_lt]
      exact Nat.lt_of_lt_of_le (by simpa using hx) (Nat.pow_le_pow_right (by omega) (by omega : 32 ≤ c))
  simp only [binV, v32, shiftV, h0, ↓reduceIte, Int.toNat_natCast, IntKind.bits, e]
theorem shl_u32_v (x : UInt32) (kk : IntKind) (c : Nat) : binV .shl (v32 x) (.int kk (c : Int)) = some (v32 (shl_u32 x c)) := by
  have h0 : ((c : Int) < 0) = False := by simp only [eq_iff_iff, iff_false]; omega
  have e : IntKind.wrap .u32 ((x.toNat : Int) * (2 ^ (min c 32))) = ((shl_u32 x c).toNat : Int) := by
    have hp : (2 : Int) ^ (min c 32) = ((2 ^ (min c 32) : Nat) : Int) := by rw [Int.natCast_pow]; rfl
    rw [hp, ← Int.natCast_mul, wrap_u32_mod, shl_u32, UInt32.toNat_ofNat']
    congr 1
    by_cases hc : c ≤ 32
    · rw [Nat.min_eq_left hc]
    · rw [Nat.min_eq_right (by omega)]
      have : 2 ^ c = 2 ^ 32 * 2 ^ (c - 32) := by rw [← Nat.pow_add]; congr 1; omega
      rw [this, ← Nat.mul_assoc, Nat.mul_right_comm]
      simp [Nat.mul_mod_left]
  simp only [binV, v32, shiftV, h0, ↓reduceIte, Int.toNat_natCast, IntKind.bits, e]

/-! ### UInt64 -/
def v64 (x : UInt64) : Value := .int .u64 (x.toNat : Int)
theorem wrap_u64 (n : Nat) (h : n < 18446744073709551616) : IntKind.wrap .u64 (n : Int) = (n : Int) := by
  simp only [IntKind.wrap, IntKind.bits, IntKind.signed, Bool.false_and, Bool.false_eq_true, ↓reduceIte]
  omega
theorem wrap_u64_mod (n : Nat) : IntKind.wrap .u64 (n : Int) = ((n % 18446744073709551616 : Nat) : Int) := by
  simp only [IntKind.wrap, IntKind.bits, IntKind.signed, Bool.false_and, Bool.false_eq_true, ↓reduceIte]
  omega
theorem bv_u64 (x : UInt64) : BitVec.ofInt (IntKind.bits .u64) (x.toNat : Int) = x.toBitVec := by
  apply BitVec.eq_of_toNat_eq
  simp only [IntKind.bits, BitVec.ofInt_natCast, BitVec.toNat_ofNat, UInt64.toNat_toBitVec]
  exact Nat.mod_eq_of_lt x.toNat_lt

theorem lit_u64 (n : Nat) (h : n < 18446744073709551616) : Value.int .u64 (no_index (@OfNat.ofNat Int n _)) = v64 (@OfNat.ofNat UInt64 n _) := by
  have : ((@OfNat.ofNat UInt64 n _).toNat : Int) = (@OfNat.ofNat Int n _) := by
    have e : (@OfNat.ofNat UInt64 n _).toNat = n := by rw [UInt64.toNat_ofNat]; exact Nat.mod_eq_of_lt h
    rw [e]; rfl
  rw [v64, this]
theorem bin_add_u64 (x y : UInt64) : binV .add (v64 x) (v64 y) = some (v64 (x + y)) := by
  simp only [binV, v64, intV, ↓reduceIte, UInt64.toNat_add]
  rw [← Int.natCast_add, wrap_u64_mod]
theorem bin_mul_u64 (x y : UInt64) : binV .mul (v64 x) (v64 y) = some (v64 (x * y)) := by
  simp only [binV, v64, intV, ↓reduceIte, UInt64.toNat_mul]
  rw [← Int.natCast_mul, wrap_u64_mod]
theorem bin_sub_u64 (x y : UInt64) : binV .sub (v64 x) (v64 y) = some (v64 (x - y)) := by
  have hx := x.toNat_lt; have hy := y.toNat_lt
  have e : IntKind.wrap .u64 ((x.toNat : Int) - (y.toNat : Int)) = ((x - y).toNat : Int) := by
    rw [UInt64.toNat_sub]
    simp only [IntKind.wrap, IntKind.bits, IntKind.signed, Bool.false_and, Bool.false_eq_true, ↓reduceIte]
    omega
  simp only [binV, v64, intV, ↓reduceIte, e]
theorem bin_and_u64 (x y : UInt64) : binV .and (v64 x) (v64 y) = some (v64 (x &&& y)) := by
  simp only [binV, v64, intV, ↓reduceIte, bitV, bv_u64, Option.map_some]
  show some (Value.int .u64 (IntKind.wrap .u64 ((x &&& y).toNat : Int))) = _
  rw [wrap_u64 _ (x &&& y).toNat_lt]
theorem bin_or_u64 (x y : UInt64) : binV .or (v64 x) (v64 y) = some (v64 (x ||| y)) := by
  simp only [binV, v64, intV, ↓reduceIte, bitV, bv_u64, Option.map_some]
  show some (Value.int .u64 (IntKind.wrap .u64 ((x ||| y).toNat : Int))) = _
  rw [wrap_u64 _ (x ||| y).toNat_lt]
theorem bin_xor_u64 (x y : UInt64) : binV .xor (v64 x) (v64 y) = some (v64 (x ^^^ y)) := by
  simp only [binV, v64, intV, ↓reduceIte, bitV, bv_u64, Option.map_some]
  show some (Value.int .u64 (IntKind.wrap .u64 ((x ^^^ y).toNat : Int))) = _
  rw [wrap_u64 _ (x ^^^ y).toNat_lt]
theorem un_xor_u64 (x : UInt64) : unV .xor (v64 x) = some (v64 (~~~ x)) := by
  have hx := x.toNat_lt
  have e : (BitVec.ofInt (IntKind.bits .u64) (IntKind.max .u64)) = BitVec.allOnes 64 := rfl
  have e2 : (BitVec.allOnes 64 ^^^ x.toBitVec) = (~~~ x).toBitVec := by rw [UInt64.toBitVec_not]; exact BitVec.allOnes_xor
  simp only [unV, v64, bitV, bv_u64, IntKind.signed, Bool.false_eq_true, ↓reduceIte, e, Option.map_some]
  show some (Value.int .u64 (IntKind.wrap .u64 ((BitVec.allOnes 64 ^^^ x.toBitVec).toNat : Int))) = _
  rw [e2]
  show some (Value.int .u64 (IntKind.wrap .u64 ((~~~ x).toNat : Int))) = _
  rw [wrap_u64 _ (~~~ x).toNat_lt]
def shr_u64 (x : UInt64) (n : Nat) : UInt64 := UInt64.ofNat (x.toNat / 2 ^ n)
def shl_u64 (x : UInt64) (n : Nat) : UInt64 := UInt64.ofNat (x.toNat * 2 ^ n)
theorem bin_lss_u64 (x y : UInt64) : binV .lss (v64 x) (v64 y) = some (.bool (decide (x < y))) := by
  simp only [binV, v64, intV, ↓reduceIte, cmpV, UInt64.lt_iff_toNat_lt, Int.ofNat_lt, Int.ofNat_le]
theorem bin_leq_u64 (x y : UInt64) : binV .leq (v64 x) (v64 y) = some (.bool (decide (x ≤ y))) := by
  simp only [binV, v64, intV, ↓reduceIte, cmpV, UInt64.le_iff_toNat_le, Int.ofNat_lt, Int.ofNat_le]
theorem bin_gtr_u64 (x y : UInt64) : binV .gtr (v64 x) (v64 y) = some (.bool (decide (y < x))) := by
  simp only [binV, v64, intV, ↓reduceIte, cmpV, UInt64.lt_iff_toNat_lt, Int.ofNat_lt, Int.ofNat_le, gt_iff_lt, ge_iff_le]
theorem bin_geq_u64 (x y : UInt64) : binV .geq (v64 x) (v64 y) = some (.bool (decide (y ≤ x))) := by
  simp only [binV, v64, intV, ↓reduceIte, cmpV, UInt64.le_iff_toNat_le, Int.ofNat_lt, Int.ofNat_le, gt_iff_lt, ge_iff_le]
theorem beq_u64 (x y : UInt64) : ((x.toNat : Int) == (y.toNat : Int)) = (x == y) := by
  rw [Bool.eq_iff_iff, beq_iff_eq, beq_iff_eq, Int.ofNat_inj, UInt64.toNat_inj]
theorem bin_eql_u64 (x y : UInt64) : binV .eql (v64 x) (v64 y) = some (.bool (x == y)) := by
  simp only [binV, v64, intV, ↓reduceIte, cmpV, beq_u64]
theorem bin_neq_u64 (x y : UInt64) : binV .neq (v64 x) (v64 y) = some (.bool (x != y)) := by
  simp only [binV, v64, intV, ↓reduceIte, cmpV, bne, beq_u64]
theorem bin_quo_u64 (x y : UInt64) (h : 0 < y.toNat) : binV .quo (v64 x) (v64 y) = some (v64 (x / y)) := by
  have hx := x.toNat_lt
  have e : IntKind.wrap .u64 ((x.toNat : Int).tdiv (y.toNat : Int)) = ((x / y).toNat : Int) := by
    rw [UInt64.toNat_div, Int.tdiv_eq_ediv_of_nonneg (by omega), ← Int.natCast_ediv, wrap_u64_mod]
    congr 1
    exact Nat.mod_eq_of_lt (Nat.lt_of_le_of_lt (Nat.div_le_self _ _) hx)
  have h0 : ((y.toNat : Int) = 0) = False := by simp only [eq_iff_iff, iff_false]; omega
  simp only [binV, v64, intV, ↓reduceIte, h0, e]
theorem bin_rem_u64 (x y : UInt64) (h : 0 < y.toNat) : binV .rem (v64 x) (v64 y) = some (v64 (x % y)) := by
  have e : ((x.toNat : Int).tmod (y.toNat : Int)) = ((x % y).toNat : Int) := by
    rw [UInt64.toNat_mod, Int.tmod_eq_emod_of_nonneg (by omega), Int.natCast_emod]
  have h0 : ((y.toNat : Int) = 0) = False := by simp only [eq_iff_iff, iff_false]; omega
  simp only [binV, v64, intV, ↓reduceIte, h0, e]
theorem shr_u64_v (x : UInt64) (kk : IntKind) (c : Nat) : binV .shr (v64 x) (.int kk (c : Int)) = some (v64 (shr_u64 x c)) := by
  have hx := x.toNat_lt
  have h0 : ((c : Int) < 0) = False := by simp only [eq_iff_iff, iff_false]; omega
  have e : ((x.toNat : Int).fdiv (2 ^ (min c 64))) = ((shr_u64 x c).toNat : Int) := by
    have hp : (2 : Int) ^ (min c 64) = ((2 ^ (min c 64) : Nat) : Int) := by rw [Int.natCast_pow]; rfl
    rw [hp, Int.fdiv_eq_ediv_of_nonneg _ (Int.natCast_nonneg _), ← Int.natCast_ediv, shr_u64, UInt64.toNat_ofNat']
    congr 1
    rw [Nat.mod_eq_of_lt (Nat.lt_of_le_of_lt (Nat.div_le_self _ _) hx)]
    by_cases hc : c ≤ 64
    · rw [Nat.min_eq_left hc]
    · rw [Nat.min_eq_right (by omega), Nat.div_eq_of_lt (by simpa using hx), Nat.div_eq_of_lt]
      exact Nat.lt_of_lt_of_le (by simpa using hx) (Nat.pow_le_pow_right (by omega) (by omega : 64 ≤ c))
  simp only [binV, v64, shiftV, h0, ↓reduceIte, Int.toNat_natCast, IntKind.bits, e]
theorem shl_u64_v (x : UInt64) (kk : IntKind) (c : Nat) : binV .shl (v64 x) (.int kk (c : Int)) = some (v64 (shl_u64 x c)) := by
  have h0 : ((c : Int) < 0) = False := by simp only [eq_iff_iff, iff_false]; omega
  have e : IntKind.wrap .u64 ((x.toNat : Int) * (2 ^ (min c 64))) = ((shl_u64 x c).toNat : Int) := by
    have hp : (2 : Int) ^ (min c 64) = ((2 ^ (min c 64) : Nat) : Int) := by rw [Int.natCast_pow]; rfl
    rw [hp, ← Int.natCast_mul, wrap_u64_mod, shl_u64, UInt64.toNat_ofNat']
    congr 1
    by_cases hc : c ≤ 64
    · rw [Nat.min_eq_left hc]
    · rw [Nat.min_eq_right (by omega)]
      have : 2 ^ c = 2 ^ 64 * 2 ^ (c - 64) := by rw [← Nat.pow_add]; congr 1; omega
      rw [this, ← Nat.mul_assoc, Nat.mul_right_comm]
      simp [Nat.mul_mod_left]
  simp only [binV, v64, shiftV, h0, ↓reduceIte, Int.toNat_natCast, IntKind.bits, e]
theorem bin_shr_u8_u8 (x : UInt8) (c : UInt8) : binV .shr (v8 x) (v8 c) = some (v8 (shr_u8 x c.toNat)) := shr_u8_v x _ _
theorem bin_shl_u8_u8 (x : UInt8) (c : UInt8) : binV .shl (v8 x) (v8 c) = some (v8 (shl_u8 x c.toNat)) := shl_u8_v x _ _
theorem conv_u8_u8 (x : UInt8) : convI .u8 (v8 x) = some (v8 (UInt8.ofNat x.toNat)) := by
  simp only [convI, v8, v8, wrap_u8_mod, UInt8.toNat_ofNat']
theorem bin_shr_u8_u16 (x : UInt8) (c : UInt16) : binV .shr (v8 x) (v16 c) = some (v8 (shr_u8 x c.toNat)) := shr_u8_v x _ _
theorem bin_shl_u8_u16 (x : UInt8) (c : UInt16) : binV .shl (v8 x) (v16 c) = some (v8 (shl_u8 x c.toNat)) := shl_u8_v x _ _
theorem conv_u8_u16 (x : UInt8) : convI .u16 (v8 x) = some (v16 (UInt16.ofNat x.toNat)) := by
  simp only [convI, v8, v16, wrap_u16_mod, UInt16.toNat_ofNat']
theorem bin_shr_u8_u32 (x : UInt8) (c : UInt32) : binV .shr (v8 x) (v32 c) = some (v8 (shr_u8 x c.toNat)) := shr_u8_v x _ _
theorem bin_shl_u8_u32 (x : UInt8) (c : UInt32) : binV .shl (v8 x) (v32 c) = some (v8 (shl_u8 x c.toNat)) := shl_u8_v x _ _
theorem conv_u8_u32 (x : UInt8) : convI .u32 (v8 x) = some (v32 (UInt32.ofNat x.toNat)) := by
  simp only [convI, v8, v32, wrap_u32_mod, UInt32.toNat_ofNat']
theorem bin_shr_u8_u64 (x : UInt8) (c : UInt64) : binV .shr (v8 x) (v64 c) = some (v8 (shr_u8 x c.toNat)) := shr_u8_v x _ _
theorem bin_shl_u8_u64 (x : UInt8) (c : UInt64) : binV .shl (v8 x) (v64 c) = some (v8 (shl_u8 x c.toNat)) := shl_u8_v x _ _
theorem conv_u8_u64 (x : UInt8) : convI .u64 (v8 x) = some (v64 (UInt64.ofNat x.toNat)) := by
  simp only [convI, v8, v64, wrap_u64_mod, UInt64.toNat_ofNat']
theorem bin_shr_u8_i (x : UInt8) (kk : IntKind) (c : Int) (h : 0 ≤ c) : binV .shr (v8 x) (.int kk c) = some (v8 (shr_u8 x c.toNat)) := by
  obtain ⟨n, rfl⟩ := Int.eq_ofNat_of_zero_le h; exact shr_u8_v x _ _
theorem bin_shl_u8_i (x : UInt8) (kk : IntKind) (c : Int) (h : 0 ≤ c) : binV .shl (v8 x) (.int kk c) = some (v8 (shl_u8 x c.toNat)) := by
  obtain ⟨n, rfl⟩ := Int.eq_ofNat_of_zero_le h; exact shl_u8_v x _ _
theorem conv_u8_i64 (x : UInt8) : convI .i64 (v8 x) = some (.int .i64 ((x.toNat : Int))) := by
  have hx := x.toNat_lt
  simp only [convI, v8]
  rw [wrap_i64 _ (by omega)]
theorem conv_i64_u8 (kk : IntKind) (n : Int) : convI .u8 (.int kk n) = some (v8 (UInt8.ofInt n)) := by
  simp only [convI, v8, wrap_u8_ofInt]
theorem bin_shr_u16_u8 (x : UInt16) (c : UInt8) : binV .shr (v16 x) (v8 c) = some (v16 (shr_u16 x c.toNat)) := shr_u16_v x _ _
theorem bin_shl_u16_u8 (x : UInt16) (c : UInt8) : binV .shl (v16 x) (v8 c) = some (v16 (shl_u16 x c.toNat)) := shl_u16_v x _ _
theorem conv_u16_u8 (x : UInt16) : convI .u8 (v16 x) = some (v8 (UInt8.ofNat x.toNat)) := by
  simp only [convI, v16, v8, wrap_u8_mod, UInt8.toNat_ofNat']
theorem bin_shr_u16_u16 (x : UInt16) (c : UInt16) : binV .shr (v16 x) (v16 c) = some (v16 (shr_u16 x c.toNat)) := shr_u16_v x _ _
theorem bin_shl_u16_u16 (x : UInt16) (c : UInt16) : binV .shl (v16 x) (v16 c) = some (v16 (shl_u16 x c.toNat)) := shl_u16_v x _ _
theorem conv_u16_u16 (x : UInt16) : convI .u16 (v16 x) = some (v16 (UInt16.ofNat x.toNat)) := by
  simp only [convI, v16, v16, wrap_u16_mod, UInt16.toNat_ofNat']
theorem bin_shr_u16_u32 (x : UInt16) (c : UInt32) : binV .shr (v16 x) (v32 c) = some (v16 (shr_u16 x c.toNat)) := shr_u16_v x _ _
theorem bin_shl_u16_u32 (x : UInt16) (c : UInt32) : binV .shl (v16 x) (v32 c) = some (v16 (shl_u16 x c.toNat)) := shl_u16_v x _ _
theorem conv_u16_u32 (x : UInt16) : convI .u32 (v16 x) = some (v32 (UInt32.ofNat x.toNat)) := by
  simp only [convI, v16, v32, wrap_u32_mod, UInt32.toNat_ofNat']
theorem bin_shr_u16_u64 (x : UInt16) (c : UInt64) : binV .shr (v16 x) (v64 c) = some (v16 (shr_u16 x c.toNat)) := shr_u16_v x _ _
theorem bin_shl_u16_u64 (x : UInt16) (c : UInt64) : binV .shl (v16 x) (v64 c) = some (v16 (shl_u16 x c.toNat)) := shl_u16_v x _ _
theorem conv_u16_u64 (x : UInt16) : convI .u64 (v16 x) = some (v64 (UInt64.ofNat x.toNat)) := by
  simp only [convI, v16, v64, wrap_u64_mod, UInt64.toNat_ofNat']
theorem bin_shr_u16_i (x : UInt16) (kk : IntKind) (c : Int) (h : 0 ≤ c) : binV .shr (v16 x) (.int kk c) = some (v16 (shr_u16 x c.toNat)) := by
  obtain ⟨n, rfl⟩ := Int.eq_ofNat_of_zero_le h; exact shr_u16_v x _ _
theorem bin_shl_u16_i (x : UInt16) (kk : IntKind) (c : Int) (h : 0 ≤ c) : binV .shl (v16 x) (.int kk c) = some (v16 (shl_u16 x c.toNat)) := by
  obtain ⟨n, rfl⟩ := Int.eq_ofNat_of_zero_le h; exact shl_u16_v x _ _
theorem conv_u16_i64 (x : UInt16) : convI .i64 (v16 x) = some (.int .i64 ((x.toNat : Int))) := by
  have hx := x.toNat_lt
  simp only [convI, v16]
  rw [wrap_i64 _ (by omega)]
theorem conv_i64_u16 (kk : IntKind) (n : Int) : convI .u16 (.int kk n) = some (v16 (UInt16.ofInt n)) := by
  simp only [convI, v16, wrap_u16_ofInt]
theorem bin_shr_u32_u8 (x : UInt32) (c : UInt8) : binV .shr (v32 x) (v8 c) = some (v32 (shr_u32 x c.toNat)) := shr_u32_v x _ _
theorem bin_shl_u32_u8 (x : UInt32) (c : UInt8) : binV .shl (v32 x) (v8 c) = some (v32 (shl_u32 x c.toNat)) := shl_u32_v x _ _
theorem conv_u32_u8 (x : UInt32) : convI .u8 (v32 x) = some (v8 (UInt8.ofNat x.toNat)) := by
  simp only [convI, v32, v8, wrap_u8_mod, UInt8.toNat_ofNat']
theorem bin_shr_u32_u16 (x : UInt32) (c : UInt16) : binV .shr (v32 x) (v16 c) = some (v32 (shr_u32 x c.toNat)) := shr_u32_v x _ _
theorem bin_shl_u32_u16 (x : UInt32) (c : UInt16) : binV .shl (v32 x) (v16 c) = some (v32 (shl_u32 x c.toNat)) := shl_u32_v x _ _
theorem conv_u32_u16 (x : UInt32) : convI .u16 (v32 x) = some (v16 (UInt16.ofNat x.toNat)) := by
  simp only [convI, v32, v16, wrap_u16_mod, UInt16.toNat_ofNat']
theorem bin_shr_u32_u32 (x : UInt32) (c : UInt32) : binV .shr (v32 x) (v32 c) = some (v32 (shr_u32 x c.toNat)) := shr_u32_v x _ _
theorem bin_shl_u32_u32 (x : UInt32) (c : UInt32) : binV .shl (v32 x) (v32 c) = some (v32 (shl_u32 x c.toNat)) := shl_u32_v x _ _
theorem conv_u32_u32 (x : UInt32) : convI .u32 (v32 x) = some (v32 (UInt32.ofNat x.toNat)) := by
  simp only [convI, v32, v32, wrap_u32_mod, UInt32.toNat_ofNat']
theorem bin_shr_u32_u64 (x : UInt32) (c : UInt64) : binV .shr (v32 x) (v64 c) = some (v32 (shr_u32 x c.toNat)) := shr_u32_v x _ _
theorem bin_shl_u32_u64 (x : UInt32) (c : UInt64) : binV .shl (v32 x) (v64 c) = some (v32 (shl_u32 x c.toNat)) := shl_u32_v x _ _
theorem conv_u32_u64 (x : UInt32) : convI .u64 (v32 x) = some (v64 (UInt64.ofNat x.toNat)) := by
  simp only [convI, v32, v64, wrap_u64_mod, UInt64.toNat_ofNat']
theorem bin_shr_u32_i (x : UInt32) (kk : IntKind) (c : Int) (h : 0 ≤ c) : binV .shr (v32 x) (.int kk c) = some (v32 (shr_u32 x c.toNat)) := by
  obtain ⟨n, rfl⟩ := Int.eq_ofNat_of_zero_le h; exact shr_u32_v x _ _
theorem bin_shl_u32_i (x : UInt32) (kk : IntKind) (c : Int) (h : 0 ≤ c) : binV .shl (v32 x) (.int kk c) = some (v32 (shl_u32 x c.toNat)) := by
  obtain ⟨n, rfl⟩ := Int.eq_ofNat_of_zero_le h; exact shl_u32_v x _ _
theorem conv_u32_i64 (x : UInt32) : convI .i64 (v32 x) = some (.int .i64 ((x.toNat : Int))) := by
  have hx := x.toNat_lt
  simp only [convI, v32]
  rw [wrap_i64 _ (by omega)]
theorem conv_i64_u32 (kk : IntKind) (n : Int) : convI .u32 (.int kk n) = some (v32 (UInt32.ofInt n)) := by
  simp only [convI, v32, wrap_u32_ofInt]
theorem bin_shr_u64_u8 (x : UInt64) (c : UInt8) : binV .shr (v64 x) (v8 c) = some (v64 (shr_u64 x c.toNat)) := shr_u64_v x _ _
theorem bin_shl_u64_u8 (x : UInt64) (c : UInt8) : binV .shl (v64 x) (v8 c) = some (v64 (shl_u64 x c.toNat)) := shl_u64_v x _ _
theorem conv_u64_u8 (x : UInt64) : convI .u8 (v64 x) = some (v8 (UInt8.ofNat x.toNat)) := by
  simp only [convI, v64, v8, wrap_u8_mod, UInt8.toNat_ofNat']
theorem bin_shr_u64_u16 (x : UInt64) (c : UInt16) : binV .shr (v64 x) (v16 c) = some (v64 (shr_u64 x c.toNat)) := shr_u64_v x _ _
theorem bin_shl_u64_u16 (x : UInt64) (c : UInt16) : binV .shl (v64 x) (v16 c) = some (v64 (shl_u64 x c.toNat)) := shl_u64_v x _ _
theorem conv_u64_u16 (x : UInt64) : convI .u16 (v64 x) = some (v16 (UInt16.ofNat x.toNat)) := by
  simp only [convI, v64, v16, wrap_u16_mod, UInt16.toNat_ofNat']
theorem bin_shr_u64_u32 (x : UInt64) (c : UInt32) : binV .shr (v64 x) (v32 c) = some (v64 (shr_u64 x c.toNat)) := shr_u64_v x _ _
theorem bin_shl_u64_u32 (x : UInt64) (c : UInt32) : binV .shl (v64 x) (v32 c) = some (v64 (shl_u64 x c.toNat)) := shl_u64_v x _ _
theorem conv_u64_u32 (x : UInt64) : convI .u32 (v64 x) = some (v32 (UInt32.ofNat x.toNat)) := by
  simp only [convI, v64, v32, wrap_u32_mod, UInt32.toNat_ofNat']
theorem bin_shr_u64_u64 (x : UInt64) (c : UInt64) : binV .shr (v64 x) (v64 c) = some (v64 (shr_u64 x c.toNat)) := shr_u64_v x _ _
theorem bin_shl_u64_u64 (x : UInt64) (c : UInt64) : binV .shl (v64 x) (v64 c) = some (v64 (shl_u64 x c.toNat)) := shl_u64_v x _ _
theorem conv_u64_u64 (x : UInt64) : convI .u64 (v64 x) = some (v64 (UInt64.ofNat x.toNat)) := by
  simp only [convI, v64, v64, wrap_u64_mod, UInt64.toNat_ofNat']
theorem bin_shr_u64_i (x : UInt64) (kk : IntKind) (c : Int) (h : 0 ≤ c) : binV .shr (v64 x) (.int kk c) = some (v64 (shr_u64 x c.toNat)) := by
  obtain ⟨n, rfl⟩ := Int.eq_ofNat_of_zero_le h; exact shr_u64_v x _ _
theorem bin_shl_u64_i (x : UInt64) (kk : IntKind) (c : Int) (h : 0 ≤ c) : binV .shl (v64 x) (.int kk c) = some (v64 (shl_u64 x c.toNat)) := by
  obtain ⟨n, rfl⟩ := Int.eq_ofNat_of_zero_le h; exact shl_u64_v x _ _
theorem conv_u64_i64 (x : UInt64) : convI .i64 (v64 x) = some (.int .i64 (IntKind.wrap .i64 (x.toNat : Int))) := by
  have hx := x.toNat_lt
  simp only [convI, v64]
theorem conv_i64_u64 (kk : IntKind) (n : Int) : convI .u64 (.int kk n) = some (v64 (UInt64.ofInt n)) := by
  simp only [convI, v64, wrap_u64_ofInt]
theorem conv_vi_u8 (n : Int) : convI .u8 (vi n) = some (v8 (UInt8.ofInt n)) := conv_i64_u8 _ n
theorem conv_vi_u16 (n : Int) : convI .u16 (vi n) = some (v16 (UInt16.ofInt n)) := conv_i64_u16 _ n
theorem conv_vi_u32 (n : Int) : convI .u32 (vi n) = some (v32 (UInt32.ofInt n)) := conv_i64_u32 _ n
theorem conv_vi_u64 (n : Int) : convI .u64 (vi n) = some (v64 (UInt64.ofInt n)) := conv_i64_u64 _ n
theorem bin_shr_u8_vi (x : UInt8) (c : Int) (h : 0 ≤ c) : binV .shr (v8 x) (vi c) = some (v8 (shr_u8 x c.toNat)) := bin_shr_u8_i x _ c h
theorem bin_shl_u8_vi (x : UInt8) (c : Int) (h : 0 ≤ c) : binV .shl (v8 x) (vi c) = some (v8 (shl_u8 x c.toNat)) := bin_shl_u8_i x _ c h
theorem bin_shr_u16_vi (x : UInt16) (c : Int) (h : 0 ≤ c) : binV .shr (v16 x) (vi c) = some (v16 (shr_u16 x c.toNat)) := bin_shr_u16_i x _ c h
theorem bin_shl_u16_vi (x : UInt16) (c : Int) (h : 0 ≤ c) : binV .shl (v16 x) (vi c) = some (v16 (shl_u16 x c.toNat)) := bin_shl_u16_i x _ c h
theorem bin_shr_u32_vi (x : UInt32) (c : Int) (h : 0 ≤ c) : binV .shr (v32 x) (vi c) = some (v32 (shr_u32 x c.toNat)) := bin_shr_u32_i x _ c h
theorem bin_shl_u32_vi (x : UInt32) (c : Int) (h : 0 ≤ c) : binV .shl (v32 x) (vi c) = some (v32 (shl_u32 x c.toNat)) := bin_shl_u32_i x _ c h
theorem bin_shr_u64_vi (x : UInt64) (c : Int) (h : 0 ≤ c) : binV .shr (v64 x) (vi c) = some (v64 (shr_u64 x c.toNat)) := bin_shr_u64_i x _ c h
theorem bin_shl_u64_vi (x : UInt64) (c : Int) (h : 0 ≤ c) : binV .shl (v64 x) (vi c) = some (v64 (shl_u64 x c.toNat)) := bin_shl_u64_i x _ c h
end Go.Sx
end
section
namespace Go.Sx
open Go
set_option linter.unusedSimpArgs false

/-! ### What is asked of the types -/
def isAggD : TypeDesc → Bool
  | .struct _ => true
  | .array _ _ => true
  | _ => false

/-- Is a type a struct or an array, and how many cells has it? -/
def aggT (P : Program) (t : TypeId) : Option (Bool × Nat) :=
  match P.underlying t, P.info? t with
  | some d, some i => some (isAggD d, i.size)
  | _, _ => none

inductive Ix where
  | arr (n : Nat) (m : Bool × Nat)
  | sl (m : Bool × Nat)
  | str
  | no

def ixT (P : Program) (t : TypeId) : Ix :=
  match P.underlying t with
  | some (.array n e) => match aggT P e with | some m => .arr n m | none => .no
  | some (.slice e) => match aggT P e with | some m => .sl m | none => .no
  | some .string => .str
  | _ => .no

/-- A field: where it lies, and what it is. -/
def fldT (P : Program) (t : TypeId) (i : Nat) : Option (Nat × (Bool × Nat)) :=
  match P.underlying t with
  | some (.struct fs) => match fs[i]? with
    | some fd => match aggT P fd.type with
      | some m => some (fd.offset, m)
      | none => none
    | none => none
  | _ => none

inductive Cv where
  | int (k : IntKind)
  | str
  | bytesStr
  | strBytes (e : TypeId)
  | no

/-- What a conversion is. -/
def cvT (P : Program) (s d : TypeId) : Cv :=
  match P.underlying s, P.underlying d with
  | some (.int _), some (.int k) => .int k
  | some .string, some .string => .str
  | some (.slice e), some .string => match P.underlying e with | some (.int .u8) => .bytesStr | _ => .no
  | some .string, some (.slice e) => match P.underlying e with | some (.int .u8) => .strBytes e | _ => .no
  | _, _ => .no

section
variable {P : Program}
theorem aggT_spec {t : TypeId} {m : Bool × Nat} (h : aggT P t = some m) : ∃ d i, P.underlying t = some d ∧ P.info? t = some i ∧ isAggD d = m.1 ∧ i.size = m.2 := by
  unfold aggT at h
  split at h
  · rename_i d i hd hi
    cases h
    exact ⟨d, i, hd, hi, rfl, rfl⟩
  · cases h

theorem run_isAgg {t : TypeId} {m : Bool × Nat} (h : aggT P t = some m) (w : World) : (isAgg t).run P w = .ok m.1 w := by
  obtain ⟨d, i, hd, hi, h1, _⟩ := aggT_spec h
  unfold isAgg
  rw [Sem.run_bind, run_underlying hd w, ← h1]
  cases d <;> rfl

theorem run_sizeOf {t : TypeId} {m : Bool × Nat} (h : aggT P t = some m) (w : World) : (sizeOf t).run P w = .ok m.2 w := by
  obtain ⟨d, i, hd, hi, _, h2⟩ := aggT_spec h
  simp [sizeOf, typeInfo, hi, h2]

def partV (m : Bool × Nat) (cs : Array Value) (off : Nat) : Option Value :=
  if m.1 then some (.agg (cs.extract off (off + m.2))) else cs[off]?

theorem run_part {t : TypeId} {m : Bool × Nat} (h : aggT P t = some m) {cs : Array Value} {off : Nat} {v : Value} (hv : partV m cs off = some v) (w : World) : (part t cs off).run P w = .ok v w := by
  unfold part
  rw [Sem.run_bind, run_isAgg h w]
  simp only [Result.andThen_ok]
  unfold partV at hv
  cases hm : m.1 with
  | true =>
    rw [hm] at hv
    simp only [↓reduceIte, Option.some.injEq] at hv
    simp only [↓reduceIte]
    rw [Sem.run_bind, run_sizeOf h w]
    simp only [Result.andThen_ok, Sem.run_pure, hv]
  | false =>
    rw [hm] at hv
    simp only [Bool.false_eq_true, ↓reduceIte] at hv
    simp only [Bool.false_eq_true, ↓reduceIte, hv, Sem.run_pure]
end

/-! ### Values -/
def vp (b off : Nat) : Value := .pointer (some ⟨b, off, none⟩)
def vsl (b off n c : Nat) : Value := .slice (some ⟨b, off, none⟩) n c
def vs (l : List UInt8) : Value := .string ⟨l.toArray⟩

theorem add_spot (b o n : Nat) : (Addr.mk b o none).add n = ⟨b, o + n, none⟩ := by
  unfold Addr.add; split <;> simp_all

def ixI : Value → Option Int
  | .int _ n => some n
  | _ => none

def indexV (x : Ix) (v : Value) (i : Option Int) : Option Value :=
  match x, v, i with
  | .arr n m, .agg cs, some k => if 0 ≤ k ∧ k < n then partV m cs (k.toNat * m.2) else none
  | .str, .string s, some k => if 0 ≤ k then (s[k.toNat]?).map fun b => .int .u8 (b.toNat : Int) else none
  | _, _, _ => none

def indexAddrV (x : Ix) (v : Value) (i : Option Int) : Option Value :=
  match x, v, i with
  | .arr n m, .pointer (some a), some k => if 0 ≤ k ∧ k < n then some (.pointer (some (a.add (k.toNat * m.2)))) else none
  | .sl m, .slice (some a) n _, some k => if 0 ≤ k ∧ k < n then some (.pointer (some (a.add (k.toNat * m.2)))) else none
  | _, _, _ => none

def fieldAddrV (x : Option (Nat × (Bool × Nat))) (v : Value) : Option Value :=
  match x, v with
  | some (off, m), .pointer (some a) => if m.2 = 0 then none else some (.pointer (some (a.add off)))
  | _, _ => none

def fieldV (x : Option (Nat × (Bool × Nat))) (v : Value) : Option Value :=
  match x, v with
  | some (off, m), .agg cs => partV m cs off
  | _, _ => none

def nilV (v : Value) : Option Value :=
  match v with
  | .pointer (some a) => some (.pointer (some a))
  | .func (.func k) a b => some (.func (.func k) a b)
  | _ => none

def extractV (v : Value) (i : Nat) : Option Value :=
  match v with
  | .tuple vs => vs[i]?
  | _ => none

def lenV (x : Ix) (v : Value) : Option Value :=
  match x, v with
  | .str, .string s => some (.int .i64 s.size)
  | .arr n _, _ => some (.int .i64 n)
  | .sl _, .slice _ n _ => some (.int .i64 n)
  | _, _ => none

def capV (x : Ix) (v : Value) : Option Value :=
  match x, v with
  | .arr n _, _ => some (.int .i64 n)
  | .sl _, .slice _ _ c => some (.int .i64 c)
  | _, _ => none

def pickV (c a b : Value) : Option Value :=
  match c with
  | .bool true => some a
  | .bool false => some b
  | _ => none

/-- The bounds of a slice of n, of c: none: not given. -/
def bndV (n c : Nat) (lo hi : Option (Option Int)) : Option (Nat × Nat) :=
  match lo, hi with
  | none, none => some (0, n)
  | some (some l), none => if 0 ≤ l ∧ l ≤ n then some (l.toNat, n) else none
  | none, some (some h) => if 0 ≤ h ∧ h ≤ c then some (0, h.toNat) else none
  | some (some l), some (some h) => if 0 ≤ l ∧ l ≤ h ∧ h ≤ c then some (l.toNat, h.toNat) else none
  | _, _ => none

def sliceV (x : Ix) (v : Value) (lo hi : Option (Option Int)) : Option Value :=
  match x, v with
  | .str, .string s => match bndV s.size s.size lo hi with
    | some (l, h) => some (.string (s.extract l h))
    | none => none
  | .sl m, .slice a n c => match bndV n c lo hi with
    | some (l, h) => some (.slice (if c = l then a else a.map (·.add (l * m.2))) (h - l) (c - l))
    | none => none
  | .arr n m, .pointer (some a) => match bndV n n lo hi with
    | some (l, h) => some (.slice (some (if n = l then a else a.add (l * m.2))) (h - l) (n - l))
    | none => none
  | _, _ => none

def loadV (m : Option (Bool × Nat)) (o : Option Obj) (off : Nat) : Option Value :=
  match m, o with
  | some (true, n), some (.cells cs _ _) => if off + n ≤ cs.size then some (.agg (cs.extract off (off + n))) else none
  | some (false, _), some (.cells cs _ _) => cs[off]?
  | _, _ => none

def loadAtV (m : Option (Bool × Nat)) (w0 : World) (L : Heap) (v : Value) : Option Value :=
  match v with
  | .pointer (some ⟨b, off, none⟩) => loadV m (readB w0 L b) off
  | _ => none

/-- The bytes that some cells hold. -/
def bytesOf : List Value → Option (List UInt8)
  | [] => some []
  | .int .u8 n :: r => match bytesOf r with
    | some l => some (UInt8.ofNat n.toNat :: l)
    | none => none
  | _ => none

def textV (o : Option Obj) (off n : Nat) : Option Value :=
  match o with
  | some (.cells cs _ _) => if off + n ≤ cs.size then (bytesOf (cs.extract off (off + n)).toList).map fun l => .string ⟨l.toArray⟩ else none
  | _ => none

def textAtV (w0 : World) (L : Heap) (v : Value) : Option Value :=
  match v with
  | .slice none _ _ => some (.string .empty)
  | .slice (some ⟨b, off, none⟩) n _ => textV (readB w0 L b) off n
  | _ => none

def convV (w0 : World) (L : Heap) (c : Cv) (v : Value) : Option Value :=
  match c with
  | .int k => convI k v
  | .str => match v with | .string s => some (.string s) | _ => none
  | .bytesStr => textAtV w0 L v
  | _ => none

/-- '==' of pointers, slices, maps and functions with nil. -/
def eqNilV (d : Option TypeDesc) (x y : Value) : Option Bool :=
  match d, x, y with
  | some (.pointer _), .pointer none, .pointer b => some b.isNone
  | some (.pointer _), .pointer (some _), .pointer none => some false
  | some (.slice _), .slice none _ _, .slice b _ _ => some b.isNone
  | some (.slice _), .slice (some _) _ _, .slice none _ _ => some false
  | some (.map _ _), .map none, .map b => some b.isNone
  | some (.map _ _), .map (some _), .map none => some false
  | some (.func _ _ _), .nilFunc, .nilFunc => some true
  | some (.func _ _ _), .nilFunc, .func _ _ _ => some false
  | some (.func _ _ _), .func _ _ _, .nilFunc => some false
  | some .bool, .bool a, .bool b => some (a == b)
  | _, _, _ => none

/-- Is it a value of which the operators on numbers and texts speak? -/
def plainV : Value → Bool
  | .int _ _ => true
  | .string _ => true
  | _ => false

def eqItemsV (f : Nat → Option Bool) : List Nat → Option Bool
  | [] => some true
  | i :: r => match f i with
    | some true => eqItemsV f r
    | some false => some false
    | none => none
def eqFieldsV (f : Field → Option Bool) : List Field → Option Bool
  | [] => some true
  | x :: r => if x.name ≠ "_" then (match f x with
    | some true => eqFieldsV f r
    | some false => some false
    | none => none) else eqFieldsV f r
def eqPartV (m : Option (Bool × Nat)) (f : Value → Value → Option Bool) (xs ys : Array Value) (off : Nat) : Option Bool :=
  match m with
  | some m => match partV m xs off, partV m ys off with
    | some a, some b => f a b
    | _, _ => none
  | none => none
/-- '==' of what holds numbers, texts and addresses that are nil. -/
def eqD (P : Program) : Nat → TypeId → Value → Value → Option Bool
  | 0, _, _, _ => none
  | d + 1, t, x, y => match P.underlying t, x, y with
    | some (.int _), .int k a, .int k' b => if k = k' then some (a == b) else none
    | some .string, .string a, .string b => some (a == b)
    | some (.array n e), .agg xs, .agg ys => match aggT P e with
      | some m => eqItemsV (fun i => eqPartV (some m) (eqD P d e) xs ys (i * m.2)) (List.range n)
      | none => none
    | some (.struct fs), .agg xs, .agg ys => if P.stoodInHeld t then none else
      eqFieldsV (fun f => eqPartV (aggT P f.type) (eqD P d f.type) xs ys f.offset) fs.toList
    | D, x, y => eqNilV D x y
def eqX (P : Program) (t : TypeId) (x y : Value) : Option Bool :=
  match x, y with
  | .agg xs, .agg ys => if P.eqGuardType P.depth t then none else eqD P 8 t (.agg xs) (.agg ys)
  | x, y => eqNilV (P.underlying t) x y

def binX (P : Program) (op : BinOp) (t : TypeId) (x y : Value) : Option Value :=
  if plainV x && plainV y then binV op x y
  else match op with
    | .eql => (eqX P t x y).map fun b => .bool b
    | .neq => (eqX P t x y).map fun b => .bool (!b)
    | _ => none

/-- The value of an operation that reads at most. -/
def evalV (P : Program) (w0 : World) (L : Heap) (f : Fr) : Op → Option Value
  | .move x => some (ev f x)
  | .assign x => some (ev f x)
  | .pick c a b => pickV (ev f c) (ev f a) (ev f b)
  | .binOp op t x y _ => binX P op t (ev f x) (ev f y)
  | .unOp op _ x => unV op (ev f x)
  | .convert s d x => convV w0 L (cvT P s d) (ev f x)
  | .nilCheck x => nilV (ev f x)
  | .fieldAddr s x i => fieldAddrV (fldT P s i) (ev f x)
  | .field s x i => fieldV (fldT P s i) (ev f x)
  | .indexAddr t x i => indexAddrV (ixT P t) (ev f x) (ixI (ev f i))
  | .index t x i => indexV (ixT P t) (ev f x) (ixI (ev f i))
  | .load t x => loadAtV (aggT P t) w0 L (ev f x)
  | .extract x i => extractV (ev f x) i
  | .slice t x lo hi none => sliceV (ixT P t) (ev f x) (lo.map fun o => ixI (ev f o)) (hi.map fun o => ixI (ev f o))
  | .makeFunc fn a b => some (.func fn (a.map (ev f)) (b.map (ev f)))
  | .call ⟨.builtin .len, args, ts⟩ => match args[0]?, ts[0]? with
    | some x, some t => lenV (ixT P t) (ev f x)
    | _, _ => none
  | .call ⟨.builtin .cap, args, ts⟩ => match args[0]?, ts[0]? with
    | some x, some t => capV (ixT P t) (ev f x)
    | _, _ => none
  | _ => none

theorem mem_of_look {w0 w : World} {L : Heap} (h : Hp w0 L w) {b : Nat} {cs : Array Value} {E : TypeId} {fz : Nat × Nat} (hr : readB w0 L b = some (.cells cs E fz)) (off : Nat) : w.cell? ⟨b, off, none⟩ = cs[off]? :=
  cell_of_row w b off cs E fz (h.read hr)

section
variable {P : Program} {w0 w : World} {L : Heap}

theorem run_loadCells_row {b : Nat} {cs : Array Value} {E : TypeId} {fz : Nat × Nat} (hb : w.heap[b]? = some (.cells cs E fz)) (off n : Nat) (hn : off + n ≤ cs.size) :
    (loadCells ⟨b, off, none⟩ n).run P w = .ok (cs.extract off (off + n)) w := by
  have h := run_loadCells_list (P := P) w ⟨b, off, none⟩ (cs.extract off (off + n)).toList (by
    intro j v hv
    rw [add_spot, cell_of_row w b _ cs E fz hb]
    simp only [Array.getElem?_toList, Array.getElem?_extract] at hv
    split at hv
    · exact hv
    · cases hv)
  have e : (cs.extract off (off + n)).toList.length = n := by simp; omega
  rw [e, Array.toArray_toList] at h
  exact h

theorem run_loadVar {t : TypeId} {b off : Nat} {v : Value} (hw : Hp w0 L w) (h : loadV (aggT P t) (readB w0 L b) off = some v) : (loadVar t ⟨b, off, none⟩).run P w = .ok v w := by
  unfold loadV at h
  split at h
  · rename_i n cs E fz hm ho
    split at h
    · rename_i hn
      simp only [Option.some.injEq] at h; subst h
      unfold loadVar
      rw [Sem.run_bind, run_isAgg hm w]
      simp only [Result.andThen_ok, ↓reduceIte, Sem.run_bind, run_sizeOf hm w, run_loadCells_row (hw.read ho) off n hn, Sem.run_pure]
    · cases h
  · rename_i n cs E fz hm ho
    unfold loadVar
    rw [Sem.run_bind, run_isAgg hm w]
    simp only [Result.andThen_ok, Bool.false_eq_true, ↓reduceIte, run_load, mem_of_look hw ho, h]
  · cases h

theorem forIn_bytes (f : Value → ByteArray → Sem (ForInStep ByteArray)) (hf : ∀ (n : Int) s, f (.int .u8 n) s = pure (.yield (s.push (UInt8.ofNat n.toNat)))) :
    ∀ (l : List Value) (bs : List UInt8) (s : ByteArray) (w : World), bytesOf l = some bs → (forIn l s f).run P w = .ok ⟨s.data ++ bs.toArray⟩ w
  | [], bs, s, w, h => by
    simp only [bytesOf, Option.some.injEq] at h; subst h
    simp
  | v :: r, bs, s, w, h => by
    unfold bytesOf at h
    split at h
    · cases ‹v :: r = []›
    · rename_i n r' e
      cases e
      split at h
      · rename_i l hl
        simp only [Option.some.injEq] at h; subst h
        have ih := forIn_bytes f hf r l (s.push (UInt8.ofNat n.toNat)) w hl
        rw [List.forIn_cons, hf]
        simp only [pure_bind]
        rw [ih]
        congr 1
        apply congrArg
        apply Array.ext'
        simp [ByteArray.push]
      · cases h
    · cases h

theorem run_bytesToString {b off n c : Nat} {v : Value} (hw : Hp w0 L w) (h : textV (readB w0 L b) off n = some v) : (Conv.bytesToString (.slice (some ⟨b, off, none⟩) n c)).run P w = .ok v w := by
  unfold textV at h
  split at h
  · rename_i cs E fz ho
    split at h
    · rename_i hn
      cases hl : bytesOf (cs.extract off (off + n)).toList with
      | none => rw [hl] at h; cases h
      | some l =>
        rw [hl] at h
        simp only [Option.map_some, Option.some.injEq] at h; subst h
        unfold Conv.bytesToString
        simp only [Sem.run_bind, run_loadCells_row (hw.read ho) off n hn, Result.andThen_ok]
        rw [← Array.forIn_toList, forIn_bytes _ (fun n s => rfl) _ _ _ w hl]
        simp [ByteArray.empty, ByteArray.emptyWithCapacity]
        rfl
    · cases h
  · cases h
end
end Go.Sx
end
section
namespace Go.Sx
open Go
set_option linter.unusedSimpArgs false

section
variable {P : Program} {w0 w : World} {L : Heap}

theorem run_asIntOf {v : Value} {i : Int} (h : ixI v = some i) : ∃ k, v = .int k i := by
  cases v <;> simp only [ixI, reduceCtorEq, Option.some.injEq] at h
  subst h; exact ⟨_, rfl⟩

theorem run_indexV {t : TypeId} {x i v : Value} (h : indexV (ixT P t) x (ixI i) = some v) (w : World) : (Instr.index t x i).run P w = .ok v w := by
  unfold indexV at h
  split at h
  · rename_i n m cs k hx hi
    split at h
    · rename_i hk
      obtain ⟨kk, rfl⟩ := run_asIntOf hi
      unfold ixT at hx
      split at hx
      · rename_i n' e hu
        split at hx
        · rename_i m' hm
          cases hx
          simp only [Instr.index, asIntOf, Sem.run_bind, Sem.run_pure, Result.andThen_ok, run_underlying hu w, hk, and_self, ↓reduceIte, run_sizeOf hm w]
          exact run_part hm h w
        · cases hx
      · split at hx <;> cases hx
      · cases hx
      · cases hx
    · cases h
  · rename_i s k hx hi
    split at h
    · rename_i hk
      obtain ⟨kk, rfl⟩ := run_asIntOf hi
      unfold ixT at hx
      split at hx
      · split at hx <;> cases hx
      · split at hx <;> cases hx
      · rename_i hu
        cases hs : s[k.toNat]? with
        | none => rw [hs] at h; cases h
        | some b =>
          rw [hs] at h
          simp only [Option.map_some, Option.some.injEq] at h; subst h
          simp only [Instr.index, asIntOf, Sem.run_bind, Sem.run_pure, Result.andThen_ok, run_underlying hu w, hk, ↓reduceIte, hs]
      · cases hx
    · cases h
  · cases h

theorem run_indexAddrV {t : TypeId} {x i v : Value} (h : indexAddrV (ixT P t) x (ixI i) = some v) (w : World) : (Instr.indexAt t x i).run P w = .ok v w := by
  unfold indexAddrV at h
  split at h
  · rename_i n m a k hx hi
    split at h
    · rename_i hk
      obtain ⟨kk, rfl⟩ := run_asIntOf hi
      unfold ixT at hx
      split at hx
      · rename_i n' e hu
        split at hx
        · rename_i m' hm
          cases hx
          cases h
          simp only [Instr.indexAt, asIntOf, Sem.run_bind, Sem.run_pure, Result.andThen_ok, run_underlying hu w, Instr.sureAddr, hk, and_self, ↓reduceIte, run_sizeOf hm w]
        · cases hx
      · split at hx <;> cases hx
      · cases hx
      · cases hx
    · cases h
  · rename_i m a n c k hx hi
    split at h
    · rename_i hk
      obtain ⟨kk, rfl⟩ := run_asIntOf hi
      unfold ixT at hx
      split at hx
      · split at hx <;> cases hx
      · rename_i e hu
        split at hx
        · rename_i m' hm
          cases hx
          cases h
          simp only [Instr.indexAt, asIntOf, Sem.run_bind, Sem.run_pure, Result.andThen_ok, run_underlying hu w, hk, and_self, ↓reduceIte, run_sizeOf hm w]
        · cases hx
      · cases hx
      · cases hx
    · cases h
  · cases h

theorem run_fieldAddrV {t : TypeId} {x v : Value} {i : Nat} (h : fieldAddrV (fldT P t i) x = some v) (w : World) : (Instr.fieldAt t x i).run P w = .ok v w := by
  unfold fieldAddrV at h
  split at h
  · rename_i off m a hx
    split at h
    · cases h
    · rename_i hm0
      unfold fldT at hx
      split at hx
      · rename_i fs hu
        split at hx
        · rename_i fd hf
          split at hx
          · rename_i m' hm
            cases hx
            cases h
            simp only [Instr.fieldAt, Sem.run_bind, Sem.run_pure, Result.andThen_ok, run_underlying hu w, hf, Instr.sureAddr, fieldPlace, run_sizeOf hm w, hm0, ↓reduceIte]
          · cases hx
        · cases hx
      · cases hx
  · cases h

theorem run_fieldV {t : TypeId} {x v : Value} {i : Nat} (h : fieldV (fldT P t i) x = some v) (w : World) : (Instr.field t x i).run P w = .ok v w := by
  unfold fieldV at h
  split at h
  · rename_i off m cs hx
    unfold fldT at hx
    split at hx
    · rename_i fs hu
      split at hx
      · rename_i fd hf
        split at hx
        · rename_i m' hm
          cases hx
          simp only [Instr.field, Sem.run_bind, Result.andThen_ok, run_underlying hu w, hf, asAgg, Sem.run_pure]
          exact run_part hm h w
        · cases hx
      · cases hx
    · cases hx
  · cases h

theorem ixT_arr {t : TypeId} {n : Nat} {m : Bool × Nat} (h : ixT P t = .arr n m) : ∃ e, P.underlying t = some (.array n e) ∧ aggT P e = some m := by
  unfold ixT at h
  split at h
  · rename_i n' e hu
    split at h
    · rename_i m' hm; cases h; exact ⟨e, hu, hm⟩
    · cases h
  · split at h <;> cases h
  · cases h
  · cases h
theorem ixT_sl {t : TypeId} {m : Bool × Nat} (h : ixT P t = .sl m) : ∃ e, P.underlying t = some (.slice e) ∧ aggT P e = some m := by
  unfold ixT at h
  split at h
  · split at h <;> cases h
  · rename_i e hu
    split at h
    · rename_i m' hm; cases h; exact ⟨e, hu, hm⟩
    · cases h
  · cases h
  · cases h
theorem ixT_str {t : TypeId} (h : ixT P t = .str) : P.underlying t = some .string := by
  unfold ixT at h
  split at h
  · split at h <;> cases h
  · split at h <;> cases h
  · assumption
  · cases h

theorem run_lenV {t : TypeId} {x v : Value} (h : lenV (ixT P t) x = some v) (y : TypeId) (ts : Array TypeId) (vs : Array Value) (h1 : vs[0]? = some x) (h2 : ts[0]? = some t) (w : World) :
    (Builtin.len_ ts y vs).run P w = .ok v w := by
  unfold lenV at h
  split at h
  · rename_i s hx
    cases h
    simp only [Builtin.len_, h1, h2, Sem.run_bind, run_underlying (ixT_str hx) w, Result.andThen_ok]; rfl
  · rename_i n m hx
    cases h
    obtain ⟨e, hu, _⟩ := ixT_arr hx
    simp only [Builtin.len_, h1, h2, Sem.run_bind, run_underlying hu w, Result.andThen_ok]; rfl
  · rename_i m a n c hx
    cases h
    obtain ⟨e, hu, _⟩ := ixT_sl hx
    simp only [Builtin.len_, h1, h2, Sem.run_bind, run_underlying hu w, Result.andThen_ok]; rfl
  · cases h

theorem run_capV {t : TypeId} {x v : Value} (h : capV (ixT P t) x = some v) (y : TypeId) (ts : Array TypeId) (vs : Array Value) (h1 : vs[0]? = some x) (h2 : ts[0]? = some t) (w : World) :
    (Builtin.cap_ ts y vs).run P w = .ok v w := by
  unfold capV at h
  split at h
  · rename_i n m hx
    cases h
    obtain ⟨e, hu, _⟩ := ixT_arr hx
    simp only [Builtin.cap_, h1, h2, Sem.run_bind, run_underlying hu w, Result.andThen_ok]; rfl
  · rename_i m a n c hx
    cases h
    obtain ⟨e, hu, _⟩ := ixT_sl hx
    simp only [Builtin.cap_, h1, h2, Sem.run_bind, run_underlying hu w, Result.andThen_ok]; rfl
  · cases h

theorem run_bound {x : Value} {i : Int} (h : ixI x = some i) {y : Nat} (hi : 0 ≤ i ∧ i ≤ y) (code : BoundsCode) (w : World) : (Instr.sliceBound x y code).run P w = .ok i.toNat w := by
  obtain ⟨k, rfl⟩ := run_asIntOf h
  simp only [Instr.sliceBound, asIntOf, Sem.run_bind, Sem.run_pure, Result.andThen_ok, hi, and_self, ↓reduceIte]

theorem run_bounds {b : Bool} {n c l h : Nat} {lo hi : Option Value} (hh : bndV n c (lo.map ixI) (hi.map ixI) = some (l, h)) (w : World) :
    (Instr.sliceBounds b n c lo hi none).run P w = .ok (l, h, c) w := by
  unfold bndV at hh
  cases lo with
  | none =>
    cases hi with
    | none =>
      simp only [Option.map_none, Option.some.injEq, Prod.mk.injEq] at hh
      obtain ⟨rfl, rfl⟩ := hh
      simp [Instr.sliceBounds]
    | some hv =>
      simp only [Option.map_none, Option.map_some] at hh
      split at hh
      · cases ‹some (ixI hv) = none›
      · cases ‹_ = none›
      · rename_i h' e1 e2
        split at hh
        · rename_i hb
          cases hh
          simp only [Option.some.injEq] at e2
          simp [Instr.sliceBounds, run_bound e2 hb]
        · cases hh
      · cases ‹none = some (some _)›
      · cases hh
  | some lv =>
    cases hi with
    | none =>
      simp only [Option.map_none, Option.map_some] at hh
      split at hh
      · cases ‹some (ixI lv) = none›
      · rename_i l' e1 e2
        split at hh
        · rename_i hb
          cases hh
          simp only [Option.some.injEq] at e1
          simp [Instr.sliceBounds, run_bound e1 hb]
        · cases hh
      · cases ‹some (ixI lv) = none›
      · cases ‹none = some (some _)›
      · cases hh
    | some hv =>
      simp only [Option.map_some] at hh
      split at hh
      · cases ‹some (ixI lv) = none›
      · cases ‹some (ixI hv) = none›
      · cases ‹some (ixI lv) = none›
      · rename_i l' h' e1 e2
        split at hh
        · rename_i hb
          cases hh
          simp only [Option.some.injEq] at e1 e2
          simp [Instr.sliceBounds, run_bound e2 (⟨by omega, hb.2.2⟩ : 0 ≤ h' ∧ h' ≤ (c : Int)), run_bound e1 (y := h'.toNat) ⟨hb.1, by omega⟩]
        · cases hh
      · cases hh

theorem run_sliceV {t : TypeId} {x v : Value} {lo hi : Option Value} (h : sliceV (ixT P t) x (lo.map ixI) (hi.map ixI) = some v) (w : World) : (Instr.sliceAt t x lo hi none).run P w = .ok v w := by
  unfold sliceV at h
  split at h
  · rename_i s hx
    split at h
    · rename_i l hi' hb
      cases h
      have hu := ixT_str hx
      simp only [Instr.sliceAt, Instr.slice, Sem.run_bind, run_underlying hu w, Result.andThen_ok, Option.isSome_none, Bool.false_eq_true, ↓reduceIte, run_bounds hb w, Sem.run_pure]
    · cases h
  · rename_i m a n c hx
    split at h
    · rename_i l hi' hb
      cases h
      obtain ⟨e, hu, hm⟩ := ixT_sl hx
      simp only [Instr.sliceAt, Instr.slice, Sem.run_bind, run_underlying hu w, Result.andThen_ok, run_bounds hb w, run_sizeOf hm w, Sem.run_pure]
    · cases h
  · rename_i n m a hx
    split at h
    · rename_i l hi' hb
      cases h
      obtain ⟨e, hu, hm⟩ := ixT_arr hx
      simp only [Instr.sliceAt, Instr.sureAddr, Sem.run_bind, run_underlying hu w, Result.andThen_ok, run_bounds hb w, run_sizeOf hm w, Sem.run_pure]
    · cases h
  · cases h

theorem run_eqNilV {t : TypeId} {x y : Value} {b : Bool} (d : Nat) (h : eqNilV (P.underlying t) x y = some b) (w : World) : (Op.equalIn (d + 1) t x y).run P w = .ok b w := by
  unfold eqNilV at h
  split at h <;> first
    | (rename_i hu
       simp only [Option.some.injEq] at h
       subst h
       simp only [Op.equalIn, Sem.run_bind, run_underlying hu w, Result.andThen_ok]
       rfl)
    | cases h

theorem run_eqD (P : Program) : ∀ (d k : Nat) (t : TypeId) (x y : Value) (b : Bool), eqD P d t x y = some b → ∀ w, (Op.equalIn (d + k) t x y).run P w = .ok b w := by
  intro d
  induction d with
  | zero => intro k t x y b h; cases h
  | succ d ih =>
    intro k t x y b h w
    have e : d + 1 + k = (d + k) + 1 := by omega
    rw [e]
    unfold eqD at h
    split at h
    · rename_i k0 k1 a k2 c hu
      split at h
      · rename_i hk
        cases h
        subst hk
        simp [Op.equalIn, run_underlying hu w]
      · cases h
    · rename_i a c hu
      cases h
      simp [Op.equalIn, run_underlying hu w]
    · rename_i n el xs ys hu
      split at h
      · rename_i m hm
        simp only [Op.equalIn, Sem.run_bind, run_underlying hu w, Result.andThen_ok, run_sizeOf hm w]
        simp only [Std.Legacy.Range.forIn_eq_forIn_range', Std.Legacy.Range.size, Nat.sub_zero, Nat.add_one_sub_one, Nat.div_one]
        rw [List.range_eq_range'] at h
        generalize List.range' 0 n = is at h ⊢
        induction is with
        | nil => cases h; simp
        | cons j is ihl =>
          unfold eqItemsV at h
          simp only [List.forIn_cons, Sem.run_bind]
          split at h
          · rename_i h1
            unfold eqPartV at h1
            split at h1
            · rename_i m' he
              cases he
              split at h1
              · rename_i a c ha hc
                simp only [run_part hm ha w, run_part hm hc w, Result.andThen_ok, ih k el a c true h1 w, Bool.not_true, Bool.false_eq_true, if_false, Sem.run_pure]
                exact ihl h
              · cases h1
            · cases h1
          · rename_i h1
            cases h
            unfold eqPartV at h1
            split at h1
            · rename_i m' he
              cases he
              split at h1
              · rename_i a c ha hc
                simp only [run_part hm ha w, run_part hm hc w, Result.andThen_ok, ih k el a c false h1 w, Bool.not_false, if_true, Sem.run_pure]
              · cases h1
            · cases h1
          · cases h
      · cases h
    · rename_i fs xs ys hu
      split at h
      · cases h
      · rename_i hst
        have hst' : P.stoodInHeld t = false := by simpa using hst
        simp only [Op.equalIn, Sem.run_bind, run_underlying hu w, Result.andThen_ok, run_program, hst', Bool.false_eq_true, if_false]
        rw [← Array.forIn_toList]
        generalize fs.toList = l at h ⊢
        clear hu
        induction l with
        | nil => cases h; simp
        | cons f l ihl =>
          unfold eqFieldsV at h
          simp only [List.forIn_cons, Sem.run_bind, Sem.run_ite]
          split at h
          · rename_i hne
            rw [if_pos hne]
            split at h
            · rename_i h1
              unfold eqPartV at h1
              split at h1
              · rename_i m' hm
                split at h1
                · rename_i a c ha hc
                  simp only [run_part hm ha w, run_part hm hc w, Result.andThen_ok, ih k f.type a c true h1 w, Bool.not_true, Bool.false_eq_true, if_false, Sem.run_pure]
                  exact ihl h
                · cases h1
              · cases h1
            · rename_i h1
              cases h
              unfold eqPartV at h1
              split at h1
              · rename_i m' hm
                split at h1
                · rename_i a c ha hc
                  simp only [run_part hm ha w, run_part hm hc w, Result.andThen_ok, ih k f.type a c false h1 w, Bool.not_false, if_true, Sem.run_pure]
                · cases h1
              · cases h1
            · cases h
          · rename_i hne
            rw [if_neg hne]
            simp only [Sem.run_pure, Result.andThen_ok]
            exact ihl h
    · exact run_eqNilV (d + k) h w

theorem run_eqX {op : BinOp} {t : TypeId} {x y : Operand} {a b : Value} {r : Bool} (hp : (plainV a && plainV b) ≠ true) (hr : eqX P t a b = some r) (w : World) :
    (eqGuard op t x y a b).run P w = .ok () w ∧ (Op.equal t a b).run P w = .ok r w ∧ binOp .eql t a b = (do pure (.bool (← Op.equal t a b)) : Sem Value) ∧ binOp .neq t a b = (do pure (.bool (!(← Op.equal t a b))) : Sem Value) := by
  unfold eqX at hr
  split at hr
  · rename_i xs ys
    split at hr
    · cases hr
    · rename_i hg
      have hg' : P.eqGuardType P.depth t = false := by simpa using hg
      refine ⟨?_, run_eqD P 8 9992 t _ _ r hr w, rfl, rfl⟩
      unfold eqGuard
      cases op <;> first
        | rfl
        | simp [Sem.run_bind, run_program, hg']
  · refine ⟨?_, run_eqNilV 9999 hr w, ?_, ?_⟩
    · unfold eqNilV at hr
      split at hr <;> first | (unfold eqGuard; cases op <;> rfl) | cases hr
    · unfold eqNilV at hr
      split at hr <;> first | rfl | cases hr
    · unfold eqNilV at hr
      split at hr <;> first | rfl | cases hr

theorem run_binX {op : BinOp} {t : TypeId} {x y : Operand} {a b v : Value} (h : binX P op t a b = some v) (w : World) :
    (do eqGuard op t x y a b; binOp op t a b : Sem Value).run P w = .ok v w := by
  unfold binX at h
  split at h
  · rename_i hp
    have hg : (eqGuard op t x y a b).run P w = .ok () w := by
      unfold eqGuard
      cases a <;> simp only [plainV, Bool.false_and, Bool.false_eq_true] at hp <;>
        (split <;> rfl)
    rw [Sem.run_bind, hg]
    exact run_binV w h
  · rename_i hp
    split at h
    · cases hr : eqX P t a b with
      | none => rw [hr] at h; cases h
      | some r =>
        rw [hr] at h
        simp only [Option.map_some, Option.some.injEq] at h; subst h
        obtain ⟨h1, h2, e, -⟩ := run_eqX (op := .eql) (x := x) (y := y) hp hr w
        rw [Sem.run_bind, h1]
        simp only [Result.andThen_ok]
        rw [e, Sem.run_bind, h2]; rfl
    · cases hr : eqX P t a b with
      | none => rw [hr] at h; cases h
      | some r =>
        rw [hr] at h
        simp only [Option.map_some, Option.some.injEq] at h; subst h
        obtain ⟨h1, h2, -, e⟩ := run_eqX (op := .neq) (x := x) (y := y) hp hr w
        rw [Sem.run_bind, h1]
        simp only [Result.andThen_ok]
        rw [e, Sem.run_bind, h2]; rfl
    · cases h

theorem cvT_int {s d : TypeId} {k : IntKind} (h : cvT P s d = .int k) : ∃ k', P.underlying s = some (.int k') ∧ P.underlying d = some (.int k) := by
  unfold cvT at h
  split at h
  · rename_i a b; cases h; exact ⟨_, a, b⟩
  · cases h
  · split at h <;> cases h
  · split at h <;> cases h
  · cases h

theorem run_convV {s d : TypeId} {x v : Value} (hw : Hp w0 L w) (h : convV w0 L (cvT P s d) x = some v) : (convert s d x).run P w = .ok v w := by
  unfold convV at h
  split at h
  · rename_i k hc
    obtain ⟨k', h1, h2⟩ := cvT_int hc
    unfold convI at h
    split at h
    · cases h
      simp only [convert, Sem.run_bind, run_underlying h1 w, run_underlying h2 w, Result.andThen_ok, Conv.intToInt, Sem.run_pure]
    · cases h
  · rename_i hc
    unfold cvT at hc
    split at hc
    · cases hc
    · rename_i h1 h2
      split at h
      · cases h
        simp only [convert, Sem.run_bind, run_underlying h1 w, run_underlying h2 w, Result.andThen_ok, Sem.run_pure]
      · cases h
    · split at hc <;> cases hc
    · split at hc <;> cases hc
    · cases hc
  · rename_i hc
    unfold cvT at hc
    split at hc
    · cases hc
    · cases hc
    · rename_i e h1 h2
      split at hc
      · rename_i h3
        unfold textAtV at h
        split at h
        · cases h
          simp only [convert, Sem.run_bind, run_underlying h1 w, run_underlying h2 w, run_underlying h3 w, Result.andThen_ok]; rfl
        · simp only [convert, Sem.run_bind, run_underlying h1 w, run_underlying h2 w, run_underlying h3 w, Result.andThen_ok]
          exact run_bytesToString hw h
        · cases h
      · cases hc
    · split at hc <;> cases hc
    · cases hc
  · cases h

theorem run_evalV {f : Fr} {o : Oper} {v : Value} (hw : Hp w0 L w) (h : evalV P w0 L f o.op = some v) : (execOp (ev f) o).run P w = .ok (.value v) w := by
  obtain ⟨dst, op, ty, pos, after, guard⟩ := o
  simp only at h
  unfold evalV at h
  split at h <;> simp only [execOp]
  · cases h; rfl
  · cases h; rfl
  · rename_i c a b
    cases hc : ev f c <;> rw [hc] at h <;> simp only [pickV, reduceCtorEq] at h
    rename_i t
    cases t <;> simp only [Option.some.injEq] at h <;> subst h <;> rfl
  · rw [Sem.run_bind, run_binX h w]; rfl
  · rw [Sem.run_bind, run_unV w h]; rfl
  · rw [Sem.run_bind, run_convV hw h]; rfl
  · rename_i x
    unfold nilV at h
    split at h
    · rename_i a hx; cases h; simp only [hx]; rfl
    · rename_i k a b hx; cases h; simp only [hx]; rfl
    · cases h
  · rw [Sem.run_bind, run_fieldAddrV h w]; rfl
  · rw [Sem.run_bind, run_fieldV h w]; rfl
  · rw [Sem.run_bind, run_indexAddrV h w]; rfl
  · rw [Sem.run_bind, run_indexV h w]; rfl
  · rename_i t x
    unfold loadAtV at h
    split at h
    · rename_i b off hx
      simp only [Instr.loadAt, hx, Instr.sureAddr, Sem.run_bind, Sem.run_pure, Result.andThen_ok, run_loadVar hw h]
    · cases h
  · rename_i x i
    unfold extractV at h
    split at h
    · rename_i vs hx
      simp only [Instr.extract, hx, h]; rfl
    · cases h
  · rename_i t x lo hi
    have h' : sliceV (ixT P t) (ev f x) ((lo.map (ev f)).map ixI) ((hi.map (ev f)).map ixI) = some v := by
      rw [Option.map_map, Option.map_map]; exact h
    rw [Sem.run_bind]
    simp only [Option.map_none]
    rw [run_sliceV h' w]; rfl
  · cases h; rfl
  · rename_i args ts
    split at h
    · rename_i x t hx ht
      have h1 : (args.map (ev f))[0]? = some (ev f x) := by simp [hx]
      simp only [resolve, Sem.run_bind, Sem.run_pure, Result.andThen_ok, invoke, builtin]
      rw [run_lenV h _ _ _ h1 ht w]; rfl
    · cases h
  · rename_i args ts
    split at h
    · rename_i x t hx ht
      have h1 : (args.map (ev f))[0]? = some (ev f x) := by simp [hx]
      simp only [resolve, Sem.run_bind, Sem.run_pure, Result.andThen_ok, invoke, builtin]
      rw [run_capV h _ _ _ h1 ht w]; rfl
    · cases h
  · cases h
end
end Go.Sx
end
namespace Go.Sx
open Go

section
variable {P : Program} {ops : Array Oper} {Q : Exit → Act → World → Prop}

/-- What an operation leaves of the frame: its own slot, and perhaps a deferred call. -/
def Left (o : Oper) (a a' : Act) : Prop := ∃ u ds, a' = ({ a with defers := ds } : Act).put o.dst u

theorem upon_shift {o : Oper} {a : Act} {d : Option Tmp} {v : Value} {K : Act → World → Prop} (hd : ∀ t, d = some t → o.dst ≠ some t)
    (hQ : ∀ c a w, Q (.panic c) (a.put d v) w → Q (.panic c) a w) (r : Result Next) (h : o.upon P (a.put d v) K Q r) :
    o.upon P a (fun a' w' => Left o a a' ∧ K (a'.put d v) w') Q r := by
  have comm : ∀ u, (a.put o.dst u).put d v = (a.put d v).put o.dst u := fun u => (Act.put_comm a v u hd).symm
  have hl : ∀ u, Left o a (a.put o.dst u) := fun u => ⟨u, a.defers, rfl⟩
  match r, h with
  | .ok (.value u) _, h => exact ⟨hl u, by rw [comm]; exact h⟩
  | .ok .skip _, h => exact ⟨hl undef, by rw [comm]; exact h⟩
  | .ok (.defer e) _, h =>
    refine ⟨⟨undef, e :: a.defers, rfl⟩, ?_⟩
    rw [← Act.put_comm _ v undef hd, ← Act.put_defers]
    exact h
  | .ok (.enter f args) _, h =>
    refine Calls.mono h fun e w'' he => ?_
    match e, he with
    | .returned u, he => exact ⟨hl u, by rw [comm]; exact he⟩
    | .panicked c, he => exact hQ _ _ _ he
    | .outgrown, he => exact he
  | .ok (.row row args) _, h => exact Rows.mono h fun u w'' he => ⟨hl u, by rw [comm]; exact he⟩
  | .halt (.panic u) _, h => exact hQ _ _ _ h

theorem wpOp_shift {j : Nat} {oi oj : Oper} {v : Value} (hj : ops[j]? = some oj) (hap : oi.apart ops oj = true) (hsj : ∀ cs b, oj.op ≠ .select cs b)
    (hQ : ∀ c a w, Q (.panic c) (a.put oi.dst v) w → Q (.panic c) a w) {K : Act → World → Prop} {a : Act} {w : World}
    (h : wpOp P ops Q j K (a.put oi.dst v) w) : wpOp P ops Q j (fun a' w' => Left oj a a' ∧ K (a'.put oi.dst v) w') a w := by
  obtain ⟨h1, h2, h3⟩ := Oper.apart_spec hap
  unfold wpOp at h ⊢
  simp only [hj] at h ⊢
  rw [wanted_put oj a oi.dst v h1] at h
  cases hw : Region.wanted oj (yielded ops a.tmps) with
  | true =>
    rw [hw] at h
    simp only [if_true] at h ⊢
    rcases h with h | ⟨hasks, hl⟩
    · left
      unfold Oper.wp at h ⊢
      rw [execOp_put oj hsj a oi.dst v h1] at h
      exact upon_shift h2 hQ _ h
    · right
      exact ⟨by unfold Oper.asks at *; rwa [execOp_put oj hsj a oi.dst v h1] at hasks, hl⟩
  | false =>
    rw [hw] at h
    simp only [Bool.false_eq_true, if_false] at h ⊢
    exact ⟨⟨undef, a.defers, rfl⟩, by rw [← Act.put_comm a v undef h2]; exact h⟩

/-- Whatever order is picked; and till something of 'ts' has come up, 'C' holds of the world. -/
def wpAnyG (P : Program) (ops : Array Oper) (Q : Exit → Act → World → Prop) (ts : List Nat) (C : World → Prop) : Nat → Array Bool → Act → World → Prop
  | 0, listed, a, w => ((∀ t, t ∈ ts → listed.getD t true = false) → C w) ∧ Region.ready .any ops listed = [] ∧ Q .normal a w
  | n + 1, listed, a, w =>
    ((∀ t, t ∈ ts → listed.getD t true = false) → C w) ∧ (Region.ready .any ops listed = [] → Q .normal a w) ∧
    ∀ i ∈ Region.ready .any ops listed, wpOp P ops Q i (wpAnyG P ops Q ts C n (listed.setIfInBounds i true)) a w

variable {ts : List Nat} {C : World → Prop}
theorem getD_keep {listed : Array Bool} {i t : Nat} (h : listed.getD t true = true) : (listed.setIfInBounds i true).getD t true = true := by
  by_cases he : i = t
  · subst he
    rw [Array.getD_eq_getD_getElem?, Array.getElem?_setIfInBounds_self]
    split <;> rfl
  · rw [getD_set_ne true he]; exact h

theorem wpAny_of_G : ∀ (n : Nat) (listed : Array Bool) (a : Act) (w : World), wpAnyG P ops Q ts C n listed a w → wpAny P .any ops Q n listed a w
  | 0, _, _, _, h => h.2
  | n + 1, _, _, _, h => ⟨h.2.1, fun i hi => wpOp_mono (fun a w k => wpAny_of_G n _ a w k) (h.2.2 i hi)⟩

/-- Behind the first of 'ts' nothing more is asked. -/
theorem G_of_any : ∀ (n : Nat) (listed : Array Bool) (a : Act) (w : World), (∃ t ∈ ts, listed.getD t true = true) → wpAny P .any ops Q n listed a w → wpAnyG P ops Q ts C n listed a w
  | 0, _, _, _, ⟨t, ht, hl⟩, h => ⟨fun hn => (by rw [hn t ht] at hl; cases hl), h.1, h.2⟩
  | n + 1, _, _, _, ⟨t, ht, hl⟩, h =>
    ⟨fun hn => (by rw [hn t ht] at hl; cases hl), h.1, fun i hi => wpOp_mono (fun a w k => G_of_any n _ a w ⟨t, ht, getD_keep hl⟩ k) (h.2 i hi)⟩

/-- What an operation i asks to come first: what it may disturb, or be disturbed by. -/
structure First (ops : Array Oper) (ts : List Nat) (i : Nat) (oi : Oper) (pure : Prop) (listed : Array Bool) : Prop where
  ready : i ∈ Region.ready .any ops listed
  free : ∀ j oj, ops[j]? = some oj → j ≠ i → listed.getD j true = false → (∀ e ∈ oj.after, Region.binds .any e = true → e.on ≠ i) → oi.apart ops oj = true
  waits : pure ∨ ∃ cs : List Nat, (∀ t, t ∈ ts → listed.getD t true = false → t ∈ cs) ∧
    ∀ c, c ∈ cs → c ≠ i ∧ listed.getD c true = false ∧ ∃ oc, ops[c]? = some oc ∧ ∃ e ∈ oc.after, Region.binds .any e = true ∧ (e.on = i ∨ e.on ∈ cs)

/-- In every world (of the class, if it is not pure) the operation yields v and leaves that very world. -/
def YieldsC (P : Program) (ops : Array Oper) (C : World → Prop) (pure : Prop) (o : Oper) (v : Value) (a : Act) : Prop :=
  (Region.wanted o (yielded ops a.tmps) = true ∧ ∀ w, (pure ∨ C w) → (execOp a.eval o).run P w = .ok (.value v) w) ∨
  (Region.wanted o (yielded ops a.tmps) = false ∧ v = undef)

theorem YieldsC.wpOp {pure : Prop} {i : Nat} {o : Oper} {v : Value} {a : Act} (hi : ops[i]? = some o) (hy : YieldsC P ops C pure o v a)
    {K : Act → World → Prop} {w : World} (hw : pure ∨ C w) (h : K (a.put o.dst v) w) : Go.wpOp P ops Q i K a w := by
  unfold Go.wpOp
  simp only [hi]
  rcases hy with ⟨h1, hv⟩ | ⟨h1, rfl⟩
  · simp only [h1, if_true, Oper.wp, hv w hw, Oper.upon]; exact .inl h
  · simp only [h1, Bool.false_eq_true, if_false]; exact h

theorem YieldsC.left {pure : Prop} {oi oj : Oper} {v : Value} {a a' : Act} (hy : YieldsC P ops C pure oi v a) (hsi : ∀ cs b, oi.op ≠ .select cs b)
    (h3 : ∀ d, oj.dst = some d → d ∉ oi.looksAt ops) (hl : Left oj a a') : YieldsC P ops C pure oi v a' := by
  obtain ⟨u, ds, rfl⟩ := hl
  have e1 : execOp (({ a with defers := ds } : Act).put oj.dst u).eval oi = execOp a.eval oi := execOp_put oi hsi ({ a with defers := ds } : Act) oj.dst u h3
  have e2 : Region.wanted oi (yielded ops (({ a with defers := ds } : Act).put oj.dst u).tmps) = Region.wanted oi (yielded ops a.tmps) := wanted_put oi ({ a with defers := ds } : Act) oj.dst u h3
  unfold YieldsC
  rw [e1, e2]
  exact hy

theorem G_first {pure : Prop} {i : Nat} {oi : Oper} {v : Value} (hi : ops[i]? = some oi) (hit : i ∉ ts) (hsel : ∀ (j : Nat) (o : Oper) cs b, ops[j]? = some o → o.op ≠ .select cs b)
    (hQ : ∀ c a w, Q (.panic c) (a.put oi.dst v) w → Q (.panic c) a w) :
    ∀ (fuel : Nat) (listed : Array Bool) (a : Act) (w : World), First ops ts i oi pure listed → (pure ∨ ∀ t, t ∈ ts → listed.getD t true = false) → YieldsC P ops C pure oi v a →
      wpAnyG P ops Q ts C fuel (listed.setIfInBounds i true) (a.put oi.dst v) w → wpAnyG P ops Q ts C (fuel + 1) listed a w := by
  intro fuel
  induction fuel with
  | zero =>
    intro listed a w hF hn hy H
    have hset : ∀ t, t ∈ ts → (listed.setIfInBounds i true).getD t true = listed.getD t true := fun t ht => getD_set_ne true (fun e => hit (e ▸ ht))
    have hC : (∀ t, t ∈ ts → listed.getD t true = false) → C w := fun h => H.1 fun t ht => (hset t ht).trans (h t ht)
    refine ⟨hC, fun h => (by have := hF.ready; rw [h] at this; cases this), fun j hj => ?_⟩
    by_cases hji : j = i
    · subst hji; exact hy.wpOp hi (hn.imp id hC) H
    · have := ready_mono hj hji
      rw [H.2.1] at this
      cases this
  | succ fuel ih =>
    intro listed a w hF hn hy H
    have hset : ∀ t, t ∈ ts → (listed.setIfInBounds i true).getD t true = listed.getD t true := fun t ht => getD_set_ne true (fun e => hit (e ▸ ht))
    have hC : (∀ t, t ∈ ts → listed.getD t true = false) → C w := fun h => H.1 fun t ht => (hset t ht).trans (h t ht)
    refine ⟨hC, fun h => (by have := hF.ready; rw [h] at this; cases this), fun j hj => ?_⟩
    by_cases hji : j = i
    · subst hji; exact hy.wpOp hi (hn.imp id hC) H
    · have h1 := H.2.2 j (ready_mono hj hji)
      obtain ⟨hjun, oj, hoj, hall⟩ := mem_ready.1 hj
      have hnot : ∀ e ∈ oj.after, Region.binds .any e = true → e.on ≠ i := fun e he hb heq => by
        have h2 := hall e he hb
        have h0 := (mem_ready.1 hF.ready).1
        rw [heq] at h2
        rcases Nat.lt_or_ge i listed.size with h' | h'
        · simp [h'] at h0 h2; rw [h0] at h2; cases h2
        · simp [Array.getElem?_eq_none h'] at h2
      have hap := hF.free j oj hoj hji hjun hnot
      have h2 := wpOp_shift hoj hap (fun cs b => hsel j oj cs b hoj) hQ h1
      have old : ∀ k, (listed.setIfInBounds j true).getD k true = false → listed.getD k true = false := fun k hk => by
        by_cases hjk : j = k
        · subst hjk; exact hjun
        · rwa [getD_set_ne true hjk] at hk
      have hun : ∀ k, listed.getD k true = false → k ≠ j → (listed.setIfInBounds j true).getD k true = false := fun k hk hkj => by
        rw [getD_set_ne true (Ne.symm hkj)]; exact hk
      have hi0 := (mem_ready.1 hF.ready).1
      have hw' : ∀ cs : List Nat, (∀ c, c ∈ cs → c ≠ i ∧ listed.getD c true = false ∧ ∃ oc, ops[c]? = some oc ∧ ∃ e ∈ oc.after, Region.binds .any e = true ∧ (e.on = i ∨ e.on ∈ cs)) → j ∉ cs := by
        intro cs hcs hjc
        obtain ⟨-, -, oc, hoc, e, he, hb, heq⟩ := hcs j hjc
        rw [hoj] at hoc
        cases hoc
        have h2 := hall e he hb
        rcases heq with heq | heq
        · exact hnot e he hb heq
        · have h3 := (hcs _ heq).2.1
          rcases Nat.lt_or_ge e.on listed.size with h' | h'
          · simp [h'] at h2 h3; rw [h3] at h2; cases h2
          · simp [Array.getElem?_eq_none h'] at h2
      have hF' : First ops ts i oi pure (listed.setIfInBounds j true) :=
        ⟨ready_mono hF.ready (Ne.symm hji), fun k ok hk hki hun hno => hF.free k ok hk hki (old k hun) hno, hF.waits.imp id fun ⟨cs, hc1, hc2⟩ =>
          ⟨cs, fun t ht hu => hc1 t ht (old t hu), fun c hc => by
            obtain ⟨h1, h2, h3⟩ := hc2 c hc
            exact ⟨h1, hun c h2 (fun e => hw' cs hc2 (e ▸ hc)), h3⟩⟩⟩
      have hn' : pure ∨ ∀ t, t ∈ ts → (listed.setIfInBounds j true).getD t true = false := by
        rcases hF.waits with h | ⟨cs, hc1, hc2⟩
        · exact .inl h
        · rcases hn with h | hn
          · exact .inl h
          · refine .inr fun t ht => ?_
            have hjc := hw' cs hc2
            exact hun t (hn t ht) (fun e => hjc (e ▸ hc1 t ht (hn t ht)))
      refine wpOp_mono (fun a' w' h3 => ih (listed.setIfInBounds j true) a' w' hF' hn' (hy.left (fun cs b => hsel i oi cs b hi) (Oper.apart_spec hap).2.2 h3.1) ?_) h2
      rw [Array.setIfInBounds_comm _ _ hji]
      exact h3.2
end
end Go.Sx
section
namespace Go.Sx
open Go
set_option linter.unusedSimpArgs false

/-! ### Stores -/
def putC (cs : Array Value) (off : Nat) : List Value → Array Value
  | [] => cs
  | v :: r => putC (cs.setIfInBounds off v) (off + 1) r

def storeV (m : Option (Bool × Nat)) (o : Option Obj) (off : Nat) (v : Value) : Option Obj :=
  match m, o with
  | some (_, n), some (.cells cs E fz) => if v.cells.size = n ∧ off + n ≤ cs.size ∧ (fz.2 ≤ fz.1 ∨ off + n ≤ fz.1) ∧ v.cells.toList.all Value.oneCell' = true then some (.cells (putC cs off v.cells.toList) E fz) else none
  | _, _ => none

/-- A store at an address: the block, and what it holds then. -/
def storeAtV (m : Option (Bool × Nat)) (L : Heap) (a v : Value) : Option Heap :=
  match a with
  | .pointer (some ⟨b, off, none⟩) => match storeV m (look L b) off v with
    | some o => some (setB L b o)
    | none => none
  | _ => none

section
variable {P : Program} {w0 w : World} {L : Heap}

theorem setCell_row {b off : Nat} {v : Value} {cs : Array Value} {E : TypeId} {fz : Nat × Nat} (hb : w.heap[b]? = some (.cells cs E fz)) :
    w.setCell ⟨b, off, none⟩ v = { w with heap := w.heap.setIfInBounds b (.cells (cs.setIfInBounds off v) E fz) } := by
  have hlt := (Array.getElem?_eq_some_iff.1 hb).1
  unfold World.setCell
  congr 1
  apply Array.ext_getElem?
  intro i
  rw [Array.getElem?_modify]
  by_cases hi : b = i
  · subst hi
    rw [if_pos rfl, hb]
    simp [hlt]
  · rw [if_neg hi, Array.getElem?_setIfInBounds_ne hi]

theorem run_storeCells {b off : Nat} {E : TypeId} {fz : Nat × Nat} : ∀ (vs : List Value) (i : Nat) (cs : Array Value) (w : World), w.heap[b]? = some (.cells cs E fz) →
    off + i + vs.length ≤ cs.size → (fz.2 ≤ fz.1 ∨ off + i + vs.length ≤ fz.1) → vs.all Value.oneCell' = true →
    (storeCells ⟨b, off, none⟩ vs i).run P w = .ok () { w with heap := w.heap.setIfInBounds b (.cells (putC cs (off + i) vs) E fz) }
  | [], i, cs, w, hb, _, _, _ => by
    have hlt := (Array.getElem?_eq_some_iff.1 hb)
    have : w.heap.setIfInBounds b (.cells cs E fz) = w.heap := by
      apply Array.ext_getElem?
      intro j
      by_cases hj : b = j
      · subst hj; rw [hb]; simp [hlt.1]
      · rw [Array.getElem?_setIfInBounds_ne hj]
    simp only [storeCells, putC, this]; rfl
  | v :: r, i, cs, w, hb, hs, hf, ho => by
    simp only [List.all_cons, Bool.and_eq_true] at ho
    simp only [List.length_cons] at hs hf
    have hc : w.cell? ⟨b, off + i, none⟩ = some (cs[off + i]'(by omega)) := by
      rw [cell_of_row w b _ cs E fz hb, Array.getElem?_eq_getElem (by omega)]
    have hfz : w.frozen? ⟨b, off + i, none⟩ = false := by
      simp only [World.frozen?, hb, Bool.and_eq_false_iff, decide_eq_false_iff_not]
      omega
    have hlt := (Array.getElem?_eq_some_iff.1 hb).1
    simp only [storeCells, add_spot, Sem.run_bind, run_store P w _ v .plain ho.1, hc, hfz, Bool.false_eq_true, ↓reduceIte, Result.andThen_ok, setCell_row hb]
    have hb' : ({ w with heap := w.heap.setIfInBounds b (.cells (cs.setIfInBounds (off + i) v) E fz) } : World).heap[b]? = some (.cells (cs.setIfInBounds (off + i) v) E fz) := by
      simp [hlt]
    rw [run_storeCells r (i + 1) _ _ hb' (by simp; omega) (by omega) ho.2]
    simp [putC, Nat.add_assoc]

theorem run_storeAtV {t : TypeId} {a v : Value} {L' : Heap} (hw : Hp w0 L w) (h : storeAtV (aggT P t) L a v = some L') : ∃ w', (Instr.storeAt t a v).run P w = .ok () w' ∧ Hp w0 L' w' := by
  unfold storeAtV at h
  split at h
  · rename_i b off
    split at h
    · rename_i o hs
      cases h
      unfold storeV at hs
      split at hs
      · rename_i m n cs E fz hm hl
        split at hs
        · rename_i hc
          obtain ⟨h1, h2, h3, h4⟩ := hc
          cases hs
          have hb := hw.has _ _ (look_mem hl)
          have hlen : v.cells.toList.length = n := by simpa using h1
          refine ⟨{ w with heap := w.heap.setIfInBounds b (.cells (putC cs off v.cells.toList) E fz) }, ?_, hw.set (List.mem_map.2 ⟨_, look_mem hl, rfl⟩) rfl rfl rfl rfl⟩
          simp only [Instr.storeAt, Instr.sureAddr, Sem.run_bind, Sem.run_pure, Result.andThen_ok, storeVar, run_sizeOf hm w, h1, ne_eq, not_true_eq_false, ↓reduceIte]
          rw [run_storeCells v.cells.toList 0 cs w hb (by omega) (by omega) h4]
          rfl
        · cases hs
      · cases hs
    · cases h
  · cases h
end

/-! ### A list of operations -/
def yieldF (ops : Array Oper) (f : Fr) (j : Nat) : Option Bool :=
  match (ops[j]?).bind (·.dst) with
  | some d => match getF f d with
    | .bool b => some b
    | _ => none
  | none => none

theorem yielded_eq (ops : Array Oper) (f : Fr) (j : Nat) : yielded ops f.toArray j = yieldF ops f j := by
  unfold yielded yieldF
  cases (ops[j]?).bind (·.dst) with
  | none => rfl
  | some d =>
    simp only [Option.bind_some]
    have := getF_eq f d
    rw [Array.getD_eq_getD_getElem?] at this
    cases h : f.toArray[d]? with
    | none =>
      rw [h] at this
      simp only [Option.getD_none] at this
      rw [← this]; rfl
    | some v =>
      rw [h] at this
      simp only [Option.getD_some] at this
      rw [← this]
      cases v <;> rfl

/-- How a region's operations come: in their order; in any order: the indices in an order that serves for all, and what turns something; the same behind the first that turns something. -/
inductive Md where
  | seq
  | qui (is ts : List Nat)
  | any (is ts : List Nat)
  | sof (R is ts : List Nat)

/-- Does the operation's value hang on its operands alone? -/
def pureK (P : Program) : Op → Bool
  | .move _ => true
  | .assign _ => true
  | .pick .. => true
  | .binOp .. => true
  | .unOp .. => true
  | .convert s d _ => match cvT P s d with | .int _ => true | .str => true | _ => false
  | .nilCheck _ => true
  | .fieldAddr .. => true
  | .field .. => true
  | .indexAddr .. => true
  | .index .. => true
  | .extract .. => true
  | .slice .. => true
  | .makeFunc .. => true
  | .call ⟨.builtin .len, _, _⟩ => true
  | .call ⟨.builtin .cap, _, _⟩ => true
  | .build .. => true
  | _ => false

/-- Does the operation read at most? -/
def readK : Op → Bool
  | .load .. => true
  | .convert .. => true
  | _ => false

/-- Those that have not come and wait for i, or for such a one. -/
def waitersB (ops : Array Oper) (listed : Array Bool) (i : Nat) : Nat → List Nat → List Nat
  | 0, cs => cs
  | n + 1, cs => waitersB ops listed i n ((List.range ops.size).filter fun j => j != i && !listed.getD j true && match ops[j]? with
    | some oj => oj.after.any fun e => Region.binds .any e && (e.on == i || cs.contains e.on)
    | none => false)
def closedB (ops : Array Oper) (ts : List Nat) (listed : Array Bool) (i : Nat) (cs : List Nat) : Bool :=
  (ts.all fun t => listed.getD t true || cs.contains t) && cs.all fun c => c != i && !listed.getD c true && match ops[c]? with
    | some oc => oc.after.any fun e => Region.binds .any e && (e.on == i || cs.contains e.on)
    | none => false
/-- What turns something waits for i, or for what waits for it, or has come. -/
def waitsB (ops : Array Oper) (ts : List Nat) (listed : Array Bool) (i : Nat) : Bool :=
  closedB ops ts listed i (waitersB ops listed i 6 [])

/-- Is the order 'is' as good as every other one? ('ts': what turns something.) -/
def orderB (P : Program) (ops : Array Oper) (ts : List Nat) : List Nat → Array Bool → Bool
  | [], listed => (Region.ready .any ops listed).isEmpty
  | k :: is, listed =>
    (match ops[k]? with
      | some o =>
        ((Region.ready .any ops listed == [k]) && !(ts.contains k && (pureK P o.op || readK o.op))) ||
        (!ts.contains k && (Region.ready .any ops listed).contains k && Region.free .any ops listed k &&
          (pureK P o.op || (readK o.op && waitsB ops ts listed k && ts.all fun t => !listed.getD t true)))
      | none => false) && orderB P ops ts is (listed.setIfInBounds k true)

def postN (w0 : World) (N : Fr → Heap → Prop) (e : Exit) (a : Act) (w : World) : Prop := e = .normal ∧ a.defers = [] ∧ ∃ L, Hp w0 L w ∧ N a.tmps.toList L

/-- These are the operations with these indices, and their order serves. -/
structure Fits (P : Program) (ops : Array Oper) (ts is : List Nat) (l : List Oper) (listed : Array Bool) : Prop where
  len : is.length = l.length
  at_ : ∀ j : Nat, l[j]? = (is[j]?).bind fun i : Nat => ops[i]?
  sel : Region.noSelect ops = true
  order : orderB P ops ts is listed = true

/-- These blocks are as they are told. -/
def SR (w0 : World) (R : List Nat) (L : Heap) (w : World) : Prop := ∀ b, b ∈ R → ∀ o, readB w0 L b = some o → w.heap[b]? = some o
theorem SR.of {w0 w : World} {R : List Nat} {L : Heap} (h : Hp w0 L w) : SR w0 R L w := fun _ _ _ ho => h.read ho

/-- A list of operations of a region 'ops', from a frame, where L is known. -/
def Ow (P : Program) (w0 : World) (ops : Array Oper) (md : Md) (l : List Oper) (f : Fr) (L : Heap) (N : Fr → Heap → Prop) : Prop :=
  match md with
  | .seq => ∀ w, Hp w0 L w → wpList P ops (postN w0 N) l (act f) w
  | .qui is ts => ∀ listed, Fits P ops ts is l listed → (∀ t, t ∈ ts → listed.getD t true = false) → ∀ w, Hp w0 L w → wpAnyG P ops (postN w0 N) ts (Hp w0 L) l.length listed (act f) w
  | .any is ts => ∀ listed, Fits P ops ts is l listed → (∃ t ∈ ts, listed.getD t true = true) → ∀ w, Hp w0 L w → wpAny P .any ops (postN w0 N) l.length listed (act f) w
  | .sof R is ts => ∀ listed, Fits P ops ts is l listed → (∀ t, t ∈ ts → listed.getD t true = false) → ∀ w, Hp w0 L w → wpAnyG P ops (postN w0 N) ts (SR w0 R L) l.length listed (act f) w

def Md.next : Md → Md
  | .seq => .seq
  | .qui is ts => match is with
    | k :: is => if ts.contains k then .any is ts else .qui is ts
    | [] => .qui [] ts
  | .any is ts => .any is.tail ts
  | .sof R is ts => match is with
    | k :: is => if ts.contains k then .any is ts else .sof R is ts
    | [] => .sof R [] ts

/-- Behind an operation that may turn something; none: it must not come here. -/
def Md.turn : Md → Option Md
  | .seq => some .seq
  | .qui is ts => match is with
    | k :: is => if ts.contains k then some (.any is ts) else none
    | [] => none
  | .any is ts => some (.any is.tail ts)
  | .sof _ is ts => match is with
    | k :: is => if ts.contains k then some (.any is ts) else none
    | [] => none

def skipped (ops : Array Oper) (f : Fr) (o : Oper) : Bool :=
  match o.guard with
  | none => false
  | some (j, want) => !(yieldF ops f j == some want)

theorem wanted_eq (ops : Array Oper) (f : Fr) (o : Oper) : Region.wanted o (yielded ops (act f).tmps) = !skipped ops f o := by
  unfold Region.wanted skipped
  cases o.guard with
  | none => rfl
  | some p => simp only [act, yielded_eq, Bool.not_not]

section
variable {P : Program} {w0 : World} {f : Fr} {L : Heap} {K : Kont} {N : Fr → Heap → Prop} {ops : Array Oper} {o : Oper} {rest : List Oper} {md : Md} {ts is : List Nat} {listed : Array Bool}

theorem Fits.nil (h : Fits P ops ts is [] listed) : is = [] ∧ Region.ready .any ops listed = [] := by
  have := h.len
  have hi : is = [] := by cases is with | nil => rfl | cons _ _ => cases this
  subst hi
  exact ⟨rfl, by simpa [orderB] using h.order⟩

theorem Fits.cons (h : Fits P ops ts is (o :: rest) listed) : ∃ k is', is = k :: is' ∧ ops[k]? = some o ∧ Fits P ops ts is' rest (listed.setIfInBounds k true) ∧
    ((pureK P o.op = true ∨ readK o.op = true) → k ∉ ts) ∧ (Region.ready .any ops listed = [k] ∨ (k ∉ ts ∧ k ∈ Region.ready .any ops listed ∧ Region.free .any ops listed k = true ∧
      (pureK P o.op = true ∨ (readK o.op = true ∧ waitsB ops ts listed k = true ∧ ∀ t, t ∈ ts → listed.getD t true = false)))) := by
  cases is with
  | nil => have := h.len; cases this
  | cons k is' =>
    have hk : ops[k]? = some o := by have := h.at_ 0; simpa using this.symm
    have ho := h.order
    simp only [orderB, hk, Bool.and_eq_true, Bool.or_eq_true, beq_iff_eq, Bool.not_eq_true', List.contains_eq_mem, decide_eq_true_eq, decide_eq_false_iff_not, List.all_eq_true, Bool.and_eq_false_iff, Bool.or_eq_false_iff] at ho
    refine ⟨k, is', rfl, hk, ⟨by have := h.len; simpa using this, fun j => by have := h.at_ (j + 1); simpa using this, h.sel, ho.2⟩, ?_⟩
    rcases ho.1 with ⟨h1, h2⟩ | ⟨⟨⟨h1, h2⟩, h3⟩, h4⟩
    · refine ⟨fun hx => ?_, .inl h1⟩
      rcases h2 with h2 | ⟨h2, h3⟩
      · exact h2
      · rcases hx with hx | hx
        · rw [hx] at h2; cases h2
        · rw [hx] at h3; cases h3
    · refine ⟨fun _ => h1, .inr ⟨h1, h2, h3, ?_⟩⟩
      rcases h4 with h4 | ⟨⟨h4, h5⟩, h6⟩
      · exact .inl h4
      · exact .inr ⟨h4, h5, h6⟩

theorem Ow.nil (h : N f L) : Ow P w0 ops md [] f L N := by
  cases md with
  | seq => exact fun w hw => wpList_nil ⟨rfl, rfl, L, hw, by simpa [act] using h⟩
  | qui is ts =>
    intro listed hF ht w hw
    exact ⟨fun _ => hw, hF.nil.2, rfl, rfl, L, hw, by simpa [act] using h⟩
  | any is ts =>
    intro listed hF ht w hw
    exact wpAny_done hF.nil.2 ⟨rfl, rfl, L, hw, by simpa [act] using h⟩ 0
  | sof R is ts =>
    intro listed hF ht w hw
    exact ⟨fun _ => SR.of hw, hF.nil.2, rfl, rfl, L, hw, by simpa [act] using h⟩

theorem postN_post {w0 : World} {K : Kont} {e : Exit} {a : Act} {w : World} (h : postN w0 (K .normal) e a w) : post w0 K e a w := by
  obtain ⟨rfl, hd, L, hp, hk⟩ := h
  exact ⟨hd, L, hp, hk⟩

theorem postN_panic {w0 : World} {N : Fr → Heap → Prop} {c : List PanicEntry} {a a' : Act} {w : World} (h : postN w0 N (.panic c) a w) : postN w0 N (.panic c) a' w := by
  obtain ⟨h, _⟩ := h; cases h

theorem Cw.region {id : Nat} {l : List Oper} (h : Ow P w0 l.toArray .seq l f L (K .normal)) : Cw P w0 (.region id l.toArray false) f L K :=
  fun w hw => wp_mono (wp_region_lit (h w hw)) fun _ _ _ h => postN_post h

/-- The check of an order: it lists every operation once, what turns something among them; and it serves. -/
def orderOk (P : Program) (l : List Oper) (is ts : List Nat) : Bool :=
  Region.noSelect l.toArray && is.length == l.length && (ts.all fun t => decide (t < l.length)) && orderB P l.toArray ts is (Array.replicate l.length false)

/-- The operations with these indices. -/
def nthO : List Oper → Nat → Option Oper
  | [], _ => none
  | o :: _, 0 => some o
  | _ :: r, n + 1 => nthO r n
def consO : Option Oper → List Oper → List Oper
  | some o, l => o :: l
  | none, l => l
def pickL (l : List Oper) : List Nat → List Oper
  | [] => []
  | i :: is => consO (nthO l i) (pickL l is)
def nl (l : List Oper) (k : List Oper → Prop) : Prop := k l
@[congr] theorem nl_congr {x y : List Oper} {k : List Oper → Prop} (h : x = y) : nl x k = nl y k := by rw [h]
theorem nl_cons (o : Oper) (r : List Oper) (k : List Oper → Prop) : nl (o :: r) k = k (o :: r) := (rfl)
theorem nthO_0 (o : Oper) (r : List Oper) : nthO (o :: r) 0 = some o := (rfl)
theorem nthO_s (o : Oper) (r : List Oper) (n : Nat) : nthO (o :: r) (n + 1) = nthO r n := (rfl)
theorem consO_some (o : Oper) (l : List Oper) : consO (some o) l = o :: l := (rfl)
theorem pickL_nil (l : List Oper) : pickL l [] = [] := (rfl)
theorem pickL_cons (l : List Oper) (i : Nat) (is : List Nat) : pickL l (i :: is) = consO (nthO l i) (pickL l is) := (rfl)

/-- A region that asks the tape: by one order. -/
theorem Cw.regionO {id : Nat} {l : List Oper} (is ts : List Nat) (hm : P.follows .mixedOrders = true) (hB : orderOk P l is ts = true) (hl : is.map (fun i : Nat => l[i]?) = (pickL l is).map some)
    (h : nl (pickL l is) fun l' => Ow P w0 l.toArray (.qui is ts) l' f L (K .normal)) : Cw P w0 (.region id l.toArray true) f L K := by
  revert hl h
  generalize pickL l is = l'
  intro hl h w hw
  simp only [orderOk, Bool.and_eq_true, beq_iff_eq, List.all_eq_true, decide_eq_true_eq] at hB
  obtain ⟨⟨⟨h1, h2⟩, h3⟩, h4⟩ := hB
  have hlen : is.length = l'.length := by have := congrArg List.length hl; simpa using this
  refine wp_mono (wp_region_any hm ?_) fun _ _ _ h => postN_post h
  have hF : Fits P l.toArray ts is l' (Array.replicate l.length false) := ⟨hlen, fun j => by
    have := congrArg (·[j]?) hl
    simp only [List.getElem?_map] at this
    cases hj : is[j]? with
    | none =>
      rw [hj] at this
      simp only [Option.map_none] at this
      cases hj' : l'[j]? with
      | none => rfl
      | some x => rw [hj'] at this; cases this
    | some i =>
      rw [hj] at this
      simp only [Option.map_some] at this
      cases hj' : l'[j]? with
      | none => rw [hj'] at this; cases this
      | some x =>
        rw [hj'] at this
        simp only [Option.map_some, Option.some.injEq] at this
        simp [this], h1, h4⟩
  have := (h : Ow P w0 l.toArray (.qui is ts) l' f L (K .normal)) (Array.replicate l.length false) hF (fun t ht => by have := h3 t ht; simp [this]) _ hw.drew
  rw [← hlen, h2] at this
  have := wpAny_of_G _ _ _ _ this
  simpa using this

/-- An operation, by its run. -/
def OpS (P : Program) (w0 : World) (f : Fr) (L : Heap) (o : Oper) (M : Value → Heap → Prop) : Prop :=
  ∀ w, Hp w0 L w →
    (∃ v w' L', (execOp (ev f) o).run P w = .ok (.value v) w' ∧ Hp w0 L' w' ∧ M v L') ∨
    (∃ w' L', (execOp (ev f) o).run P w = .ok .skip w' ∧ Hp w0 L' w' ∧ M undef L') ∨
    (∃ k args w1, (execOp (ev f) o).run P w = .ok (.enter k args) w1 ∧ Calls P k args w1 fun e w' => ∃ v L', e = .returned v ∧ Hp w0 L' w' ∧ M v L')

theorem OpS.wp {M : Value → Heap → Prop} {next : Act → World → Prop} {Q : Exit → Act → World → Prop} (h : OpS P w0 f L o M)
    (hn : ∀ v L' w', Hp w0 L' w' → M v L' → next (act (putF f o.dst v)) w') {w : World} (hw : Hp w0 L w) : o.wp P (act f) w next Q := by
  unfold Oper.wp
  rw [act_eval']
  rcases h w hw with ⟨v, w', L', hr, hp, hm⟩ | ⟨w', L', hr, hp, hm⟩ | ⟨k, args, w1, hr, hc⟩
  · rw [hr, Oper.upon_value, act_put]; exact hn _ _ _ hp hm
  · rw [hr, Oper.upon_skip, act_put]; exact hn _ _ _ hp hm
  · rw [hr, Oper.upon_enter]
    refine hc.mono ?_
    rintro e w' ⟨v, L', rfl, hp, hm⟩
    show next ((act f).put o.dst v) w'
    rw [act_put]; exact hn _ _ _ hp hm

theorem OpS.mono {M M' : Value → Heap → Prop} (h : OpS P w0 f L o M) (hm : ∀ v L, M v L → M' v L) : OpS P w0 f L o M' := fun w hw => by
  rcases h w hw with ⟨v, w', L', hr, hp, h1⟩ | ⟨w', L', hr, hp, h1⟩ | ⟨k, args, w1, hr, hc⟩
  · exact .inl ⟨v, w', L', hr, hp, hm _ _ h1⟩
  · exact .inr (.inl ⟨w', L', hr, hp, hm _ _ h1⟩)
  · exact .inr (.inr ⟨k, args, w1, hr, hc.mono fun e w' ⟨v, L', he, hp, h1⟩ => ⟨v, L', he, hp, hm _ _ h1⟩⟩)

theorem set_here {i : Nat} (h : listed.getD i true = false) : (listed.setIfInBounds i true).getD i true = true := by
  have hlt : i < listed.size := by
    rcases Nat.lt_or_ge i listed.size with h' | h'
    · exact h'
    · simp [Array.getElem?_eq_none h'] at h
  simp [hlt]

theorem still_no {i : Nat} (hit : i ∉ ts) (ht : ∀ t, t ∈ ts → listed.getD t true = false) : ∀ t, t ∈ ts → (listed.setIfInBounds i true).getD t true = false :=
  fun t ht' => by rw [getD_set_ne true (fun (e : i = t) => hit (by rw [e]; exact ht'))]; exact ht t ht'

/-- Behind the first that turns something, one operation alone. -/
theorem any_one {k : Nat} (hk : ops[k]? = some o) (hr : Region.ready .any ops listed = [k]) (hs : skipped ops f o = false) {n : Nat} {M : Value → Heap → Prop} (h : OpS P w0 f L o M)
    (hn : ∀ v L' w', Hp w0 L' w' → M v L' → wpAny P .any ops (postN w0 N) n (listed.setIfInBounds k true) (act (putF f o.dst v)) w') {w : World} (hw : Hp w0 L w) : wpAny P .any ops (postN w0 N) (n + 1) listed (act f) w := by
  refine wpAny_all hr (by simp) ?_
  intro i hi
  simp only [List.mem_singleton] at hi
  subst hi
  unfold wpOp
  simp only [hk, wanted_eq, hs, Bool.not_false, ↓reduceIte]
  exact .inl (h.wp hn hw)

theorem Ow.step {md' : Md} (he : md.turn = some md') (hp : pureK P o.op = false) (hs : skipped ops f o = false) (h : OpS P w0 f L o (fun v L' => Ow P w0 ops md' rest (putF f o.dst v) L' N)) : Ow P w0 ops md (o :: rest) f L N := by
  cases md with
  | seq =>
    cases he
    intro w hw
    unfold wpList
    rw [wanted_eq, hs]
    simp only [Bool.not_false, ↓reduceIte]
    exact .inl (h.wp (fun v L' w' hp hm => hm w' hp) hw)
  | any is ts =>
    cases he
    intro listed hF ht w hw
    obtain ⟨k, is', rfl, hk, hF', hpt, hc⟩ := hF.cons
    obtain ⟨t, ht1, ht2⟩ := ht
    have hr : Region.ready .any ops listed = [k] := by
      rcases hc with hc | ⟨_, _, _, hc | ⟨_, _, hc⟩⟩
      · exact hc
      · rw [hp] at hc; cases hc
      · rw [hc t ht1] at ht2; cases ht2
    exact any_one hk hr hs h (fun v L' w' hp hm => hm _ hF' ⟨t, ht1, getD_keep ht2⟩ w' hp) hw
  | qui is ts =>
    intro listed hF ht w hw
    obtain ⟨k, is', rfl, hk, hF', hpt, hc⟩ := hF.cons
    simp only [Md.turn] at he
    split at he
    · rename_i hkt
      cases he
      have hkt' : k ∈ ts := by simpa using hkt
      have hr : Region.ready .any ops listed = [k] := by
        rcases hc with hc | ⟨hc, _⟩
        · exact hc
        · exact absurd hkt' hc
      have hset := set_here (ht k hkt')
      refine ⟨fun _ => hw, (fun h => by rw [hr] at h; cases h), ?_⟩
      intro i hi
      rw [hr, List.mem_singleton] at hi
      subst hi
      unfold wpOp
      simp only [hk, wanted_eq, hs, Bool.not_false, ↓reduceIte]
      exact .inl (h.wp (fun v L' w' hp hm => G_of_any _ _ _ _ ⟨i, hkt', hset⟩ (hm _ hF' ⟨i, hkt', hset⟩ w' hp)) hw)
    · cases he
  | sof R is ts =>
    intro listed hF ht w hw
    obtain ⟨k, is', rfl, hk, hF', hpt, hc⟩ := hF.cons
    simp only [Md.turn] at he
    split at he
    · rename_i hkt
      cases he
      have hkt' : k ∈ ts := by simpa using hkt
      have hr : Region.ready .any ops listed = [k] := by
        rcases hc with hc | ⟨hc, _⟩
        · exact hc
        · exact absurd hkt' hc
      have hset := set_here (ht k hkt')
      refine ⟨fun _ => SR.of hw, (fun h => by rw [hr] at h; cases h), ?_⟩
      intro i hi
      rw [hr, List.mem_singleton] at hi
      subst hi
      unfold wpOp
      simp only [hk, wanted_eq, hs, Bool.not_false, ↓reduceIte]
      exact .inl (h.wp (fun v L' w' hp hm => G_of_any _ _ _ _ ⟨i, hkt', hset⟩ (hm _ hF' ⟨i, hkt', hset⟩ w' hp)) hw)
    · cases he

/-- What leaves the known blocks as they are, in every kind of region. -/
theorem Ow.calm {v : Value} (hp : pureK P o.op = false) (hr0 : readK o.op = false) (hs : skipped ops f o = false) (h : OpS P w0 f L o (fun v' L' => v' = v ∧ L' = L))
    (hn : Ow P w0 ops md.next rest (putF f o.dst v) L N) : Ow P w0 ops md (o :: rest) f L N := by
  cases md with
  | seq => exact Ow.step rfl hp hs (h.mono fun v' L' ⟨h1, h2⟩ => by rw [h1, h2]; exact hn)
  | any is ts => exact Ow.step rfl hp hs (h.mono fun v' L' ⟨h1, h2⟩ => by rw [h1, h2]; exact hn)
  | qui is ts =>
    intro listed hF ht w hw
    obtain ⟨k, is', rfl, hk, hF', hpt, hc⟩ := hF.cons
    have hr : Region.ready .any ops listed = [k] := by
      rcases hc with hc | ⟨_, _, _, hc | ⟨hc, _⟩⟩
      · exact hc
      · rw [hp] at hc; cases hc
      · rw [hr0] at hc; cases hc
    refine ⟨fun _ => hw, (fun h => by rw [hr] at h; cases h), ?_⟩
    intro i hi
    rw [hr, List.mem_singleton] at hi
    subst hi
    unfold wpOp
    simp only [hk, wanted_eq, hs, Bool.not_false, ↓reduceIte]
    refine .inl (h.wp (fun v' L' w' hp hm => ?_) hw)
    obtain ⟨rfl, rfl⟩ := hm
    simp only [Md.next] at hn
    split at hn
    · rename_i hkt
      have hit : i ∈ ts := by simpa using hkt
      have hset := set_here (ht i hit)
      exact G_of_any _ _ _ _ ⟨i, hit, hset⟩ (hn _ hF' ⟨i, hit, hset⟩ w' hp)
    · rename_i hkt
      have hit : i ∉ ts := by simpa using hkt
      exact hn _ hF' (still_no hit ht) w' hp
  | sof R is ts =>
    intro listed hF ht w hw
    obtain ⟨k, is', rfl, hk, hF', hpt, hc⟩ := hF.cons
    have hr : Region.ready .any ops listed = [k] := by
      rcases hc with hc | ⟨_, _, _, hc | ⟨hc, _⟩⟩
      · exact hc
      · rw [hp] at hc; cases hc
      · rw [hr0] at hc; cases hc
    refine ⟨fun _ => SR.of hw, (fun h => by rw [hr] at h; cases h), ?_⟩
    intro i hi
    rw [hr, List.mem_singleton] at hi
    subst hi
    unfold wpOp
    simp only [hk, wanted_eq, hs, Bool.not_false, ↓reduceIte]
    refine .inl (h.wp (fun v' L' w' hp hm => ?_) hw)
    obtain ⟨rfl, rfl⟩ := hm
    simp only [Md.next] at hn
    split at hn
    · rename_i hkt
      have hit : i ∈ ts := by simpa using hkt
      have hset := set_here (ht i hit)
      exact G_of_any _ _ _ _ ⟨i, hit, hset⟩ (hn _ hF' ⟨i, hit, hset⟩ w' hp)
    · rename_i hkt
      have hit : i ∉ ts := by simpa using hkt
      exact hn _ hF' (still_no hit ht) w' hp

theorem first_of {k : Nat} (hk : ops[k]? = some o) (h1 : k ∈ Region.ready .any ops listed) (h2 : Region.free .any ops listed k = true)
    (h3 : pureK P o.op = true ∨ (readK o.op = true ∧ waitsB ops ts listed k = true ∧ ∀ t, t ∈ ts → listed.getD t true = false)) : First ops ts k o (pureK P o.op = true) listed := by
  refine ⟨h1, Region.free_spec hk h2, h3.imp id fun ⟨_, hw, _⟩ => ?_⟩
  unfold waitsB closedB at hw
  generalize waitersB ops listed k 6 [] = cs at hw
  simp only [Bool.and_eq_true, List.all_eq_true, Bool.or_eq_true, List.contains_eq_mem, decide_eq_true_eq, bne_iff_ne, ne_eq, Bool.not_eq_true'] at hw
  obtain ⟨hw1, hw2⟩ := hw
  refine ⟨cs, fun t ht hu => ?_, fun c hc => ?_⟩
  · rcases hw1 t ht with h | h
    · rw [hu] at h; cases h
    · exact h
  · obtain ⟨⟨h1, h2⟩, h3⟩ := hw2 c hc
    refine ⟨h1, h2, ?_⟩
    cases ho : ops[c]? with
    | none => rw [ho] at h3; cases h3
    | some oc =>
      rw [ho] at h3
      obtain ⟨e, he, hb⟩ := Array.any_eq_true'.1 h3
      simp only [Bool.and_eq_true, Bool.or_eq_true, beq_iff_eq, List.contains_eq_mem, decide_eq_true_eq] at hb
      exact ⟨oc, rfl, e, he, hb.1, hb.2⟩

theorem Ow.skip (hs : skipped ops f o = true) (h : Ow P w0 ops md.next rest (putF f o.dst undef) L N) : Ow P w0 ops md (o :: rest) f L N := by
  have hw0 : Region.wanted o (yielded ops (act f).tmps) = false := by rw [wanted_eq, hs]; rfl
  cases md with
  | seq =>
    intro w hw
    unfold wpList
    rw [hw0]
    simp only [Bool.false_eq_true, ↓reduceIte]
    rw [act_put]
    exact h w hw
  | any is ts =>
    intro listed hF ht w hw
    obtain ⟨k, is', rfl, hk, hF', hpt, hc⟩ := hF.cons
    obtain ⟨t, ht1, ht2⟩ := ht
    have hgo := h _ hF' ⟨t, ht1, getD_keep ht2⟩ w hw
    rcases hc with hc | ⟨hc1, hc2, hc3, hc4⟩
    · refine wpAny_all hc (by simp) ?_
      intro i hi
      simp only [List.mem_singleton] at hi
      subst hi
      unfold wpOp
      simp only [hk, hw0, Bool.false_eq_true, ↓reduceIte]
      rw [act_put]; exact hgo
    · refine wpAny_take (v := undef) hk hF.sel hc3 (by simpa using hc2) (fun c a w h => postN_panic h) (.inr ⟨hw0, rfl⟩) ?_
      rw [act_put]; exact hgo
  | qui is ts =>
    intro listed hF ht w hw
    obtain ⟨k, is', rfl, hk, hF', hpt, hc⟩ := hF.cons
    simp only [Md.next] at h
    rcases hc with hc | ⟨hc1, hc2, hc3, hc4⟩
    · refine ⟨fun _ => hw, fun h => (by rw [hc] at h; cases h), ?_⟩
      intro i hi
      rw [hc, List.mem_singleton] at hi
      subst hi
      unfold wpOp
      simp only [hk, hw0, Bool.false_eq_true, ↓reduceIte]
      rw [act_put]
      split at h
      · rename_i hkt
        have hit : i ∈ ts := by simpa using hkt
        have hset := set_here (ht i hit)
        exact G_of_any _ _ _ _ ⟨i, hit, hset⟩ (h _ hF' ⟨i, hit, hset⟩ w hw)
      · rename_i hkt
        exact h _ hF' (still_no (by simpa using hkt) ht) w hw
    · rw [if_neg (by simpa using hc1)] at h
      refine G_first hk hc1 (Region.noSelect_spec hF.sel) (fun c a w h => postN_panic h) _ _ _ _ (first_of (P := P) hk hc2 hc3 hc4) (.inr ht) (.inr ⟨hw0, rfl⟩) ?_
      rw [act_put]; exact h _ hF' (still_no hc1 ht) w hw
  | sof R is ts =>
    intro listed hF ht w hw
    obtain ⟨k, is', rfl, hk, hF', hpt, hc⟩ := hF.cons
    simp only [Md.next] at h
    rcases hc with hc | ⟨hc1, hc2, hc3, hc4⟩
    · refine ⟨fun _ => SR.of hw, fun h => (by rw [hc] at h; cases h), ?_⟩
      intro i hi
      rw [hc, List.mem_singleton] at hi
      subst hi
      unfold wpOp
      simp only [hk, hw0, Bool.false_eq_true, ↓reduceIte]
      rw [act_put]
      split at h
      · rename_i hkt
        have hit : i ∈ ts := by simpa using hkt
        have hset := set_here (ht i hit)
        exact G_of_any _ _ _ _ ⟨i, hit, hset⟩ (h _ hF' ⟨i, hit, hset⟩ w hw)
      · rename_i hkt
        exact h _ hF' (still_no (by simpa using hkt) ht) w hw
    · rw [if_neg (by simpa using hc1)] at h
      refine G_first hk hc1 (Region.noSelect_spec hF.sel) (fun c a w h => postN_panic h) _ _ _ _ (first_of (P := P) hk hc2 hc3 hc4) (.inr ht) (.inr ⟨hw0, rfl⟩) ?_
      rw [act_put]; exact h _ hF' (still_no hc1 ht) w hw

theorem evalV_pure {op : Op} {v : Value} (hp : pureK P op = true) (h : evalV P w0 L f op = some v) (w : World) : evalV P w [] f op = some v := by
  cases op <;> simp only [pureK, Bool.false_eq_true] at hp <;> first
    | exact h
    | skip
  · rename_i s d x
    simp only [evalV] at h ⊢
    cases hc : cvT P s d <;> rw [hc] at h hp <;> first
      | exact h
      | cases hp
  · rename_i t x lo hi mx
    cases mx <;> exact h
  · rename_i c
    obtain ⟨cl, args, ts⟩ := c
    cases cl with
    | builtin b => cases b <;> first | exact h | cases hp
    | value x => cases hp
    | invoke x m => cases hp

theorem evalV_kind {op : Op} {v : Value} (h : evalV P w0 L f op = some v) : pureK P op = true ∨ readK op = true := by
  unfold evalV at h
  split at h <;> first
    | exact .inl rfl
    | exact .inr rfl
    | cases h

/-- Where an operation may read: of some blocks alone, if the order is open and what is turned is not at hand. -/
def rdIn (R : List Nat) : Value → Bool
  | .pointer (some a) => R.contains a.block
  | .slice (some a) _ _ => R.contains a.block
  | _ => true
def rdOk (md : Md) (f : Fr) (op : Op) : Bool :=
  match op with
  | .load _ x => (match md with | .sof R _ _ => rdIn R (ev f x) | _ => true)
  | .convert _ _ x => (match md with | .sof R _ _ => rdIn R (ev f x) | _ => true)
  | _ => true

theorem readB_nil (w : World) (b : Nat) : readB w [] b = w.heap[b]? := (rfl)
theorem evalV_reads {R is ts : List Nat} {op : Op} {v : Value} {w : World} (hrd : rdOk (.sof R is ts) f op = true) (h : evalV P w0 L f op = some v) (hS : SR w0 R L w) : evalV P w [] f op = some v := by
  cases op <;> first
    | exact h
    | skip
  case load t x =>
    simp only [evalV, loadAtV] at h ⊢
    simp only [rdOk] at hrd
    split at h
    · rename_i b off hx
      rw [hx] at hrd
      simp only [rdIn, List.contains_eq_mem, decide_eq_true_eq] at hrd
      simp only [readB_nil]
      cases hr : readB w0 L b with
      | none => rw [hr] at h; unfold loadV at h; split at h <;> simp_all
      | some o => rw [hS b hrd o hr]; rw [hr] at h; exact h
    · cases h
  case convert s d x =>
    simp only [evalV, convV] at h ⊢
    simp only [rdOk] at hrd
    cases hc : cvT P s d <;> rw [hc] at h <;> simp only at h ⊢ <;> first
      | exact h
      | skip
    unfold textAtV at h ⊢
    split at h
    · exact h
    · rename_i b off n c hx
      rw [hx] at hrd
      simp only [rdIn, List.contains_eq_mem, decide_eq_true_eq] at hrd
      simp only [readB_nil]
      cases hr : readB w0 L b with
      | none => rw [hr] at h; unfold textV at h; cases h
      | some o => rw [hS b hrd o hr]; rw [hr] at h; exact h
    · cases h
  case slice t x lo hi mx => cases mx <;> exact h
  case call c =>
    obtain ⟨cl, args, ts'⟩ := c
    cases cl with
    | builtin b => cases b <;> exact h
    | value x => exact h
    | invoke x m => exact h

theorem Ow.value {v : Value} (hs : skipped ops f o = false) (hrd : rdOk md f o.op = true) (hv : evalV P w0 L f o.op = some v) (h : Ow P w0 ops md.next rest (putF f o.dst v) L N) : Ow P w0 ops md (o :: rest) f L N := by
  have hw0 : Region.wanted o (yielded ops (act f).tmps) = true := by rw [wanted_eq, hs]; rfl
  have hS : OpS P w0 f L o (fun v' L' => v' = v ∧ L' = L) := fun w hw => .inl ⟨v, w, L, run_evalV hw hv, hw, rfl, rfl⟩
  have hY : YieldsC P ops (Hp w0 L) (pureK P o.op = true) o v (act f) := by
    refine .inl ⟨hw0, fun w hw => ?_⟩
    rw [act_eval']
    rcases hw with hp | hw
    · exact run_evalV (Hp.refl w) (evalV_pure hp hv w)
    · exact run_evalV hw hv
  cases md with
  | seq =>
    intro w hw
    unfold wpList
    rw [hw0]
    simp only [↓reduceIte]
    exact .inl (hS.wp (fun v' L' w' hp hm => by obtain ⟨rfl, rfl⟩ := hm; exact h w' hp) hw)
  | any is ts =>
    intro listed hF ht w hw
    obtain ⟨k, is', rfl, hk, hF', hpt, hc⟩ := hF.cons
    obtain ⟨t, ht1, ht2⟩ := ht
    have hgo := fun w hw => h _ hF' ⟨t, ht1, getD_keep ht2⟩ w hw
    rcases hc with hc | ⟨hc1, hc2, hc3, hc4 | ⟨_, _, hc4⟩⟩
    · exact any_one hk hc hs hS (fun v' L' w' hp hm => by obtain ⟨rfl, rfl⟩ := hm; exact hgo w' hp) hw
    · refine wpAny_take (v := v) hk hF.sel hc3 (by simpa using hc2) (fun c a w h => postN_panic h) (.inl ⟨hw0, fun w => ?_⟩) ?_
      · rw [act_eval']; exact run_evalV (Hp.refl w) (evalV_pure hc4 hv w)
      · rw [act_put]; exact hgo w hw
    · rw [hc4 t ht1] at ht2; cases ht2
  | qui is ts =>
    intro listed hF ht w hw
    obtain ⟨k, is', rfl, hk, hF', hpt, hc⟩ := hF.cons
    have hit : k ∉ ts := hpt (evalV_kind hv)
    simp only [Md.next] at h
    rw [if_neg (by simpa using hit)] at h
    have hgo := fun w hw => h _ hF' (still_no hit ht) w hw
    rcases hc with hc | ⟨hc1, hc2, hc3, hc4⟩
    · refine ⟨fun _ => hw, fun h => (by rw [hc] at h; cases h), ?_⟩
      intro i hi
      rw [hc, List.mem_singleton] at hi
      subst hi
      unfold wpOp
      simp only [hk, hw0, ↓reduceIte]
      exact .inl (hS.wp (fun v' L' w' hp hm => by obtain ⟨rfl, rfl⟩ := hm; exact hgo w' hp) hw)
    · refine G_first hk hc1 (Region.noSelect_spec hF.sel) (fun c a w h => postN_panic h) _ _ _ _ (first_of (P := P) hk hc2 hc3 hc4) (.inr ht) hY ?_
      rw [act_put]; exact hgo w hw
  | sof R is ts =>
    intro listed hF ht w hw
    have hYs : YieldsC P ops (SR w0 R L) (pureK P o.op = true) o v (act f) := by
      refine .inl ⟨hw0, fun w hw => ?_⟩
      rw [act_eval']
      rcases hw with hp | hw
      · exact run_evalV (Hp.refl w) (evalV_pure hp hv w)
      · exact run_evalV (Hp.refl w) (evalV_reads hrd hv hw)
    obtain ⟨k, is', rfl, hk, hF', hpt, hc⟩ := hF.cons
    have hit : k ∉ ts := hpt (evalV_kind hv)
    simp only [Md.next] at h
    rw [if_neg (by simpa using hit)] at h
    have hgo := fun w hw => h _ hF' (still_no hit ht) w hw
    rcases hc with hc | ⟨hc1, hc2, hc3, hc4⟩
    · refine ⟨fun _ => SR.of hw, fun h => (by rw [hc] at h; cases h), ?_⟩
      intro i hi
      rw [hc, List.mem_singleton] at hi
      subst hi
      unfold wpOp
      simp only [hk, hw0, ↓reduceIte]
      exact .inl (hS.wp (fun v' L' w' hp hm => by obtain ⟨rfl, rfl⟩ := hm; exact hgo w' hp) hw)
    · refine G_first hk hc1 (Region.noSelect_spec hF.sel) (fun c a w h => postN_panic h) _ _ _ _ (first_of (P := P) hk hc2 hc3 hc4) (.inr ht) hYs ?_
      rw [act_put]; exact hgo w hw

/-- A value that hangs on the operands alone, by its run. -/
theorem Ow.pureV {v : Value} (hp : pureK P o.op = true) (hs : skipped ops f o = false) (hv : ∀ w, (execOp (ev f) o).run P w = .ok (.value v) w) (h : Ow P w0 ops md.next rest (putF f o.dst v) L N) : Ow P w0 ops md (o :: rest) f L N := by
  have hw0 : Region.wanted o (yielded ops (act f).tmps) = true := by rw [wanted_eq, hs]; rfl
  have hS : OpS P w0 f L o (fun v' L' => v' = v ∧ L' = L) := fun w hw => .inl ⟨v, w, L, hv w, hw, rfl, rfl⟩
  have hY : ∀ C, YieldsC P ops C (pureK P o.op = true) o v (act f) := fun C => .inl ⟨hw0, fun w _ => by rw [act_eval']; exact hv w⟩
  cases md with
  | seq =>
    intro w hw
    unfold wpList
    rw [hw0]
    simp only [↓reduceIte]
    exact .inl (hS.wp (fun v' L' w' hp hm => by obtain ⟨rfl, rfl⟩ := hm; exact h w' hp) hw)
  | any is ts =>
    intro listed hF ht w hw
    obtain ⟨k, is', rfl, hk, hF', hpt, hc⟩ := hF.cons
    obtain ⟨t, ht1, ht2⟩ := ht
    have hgo := fun w hw => h _ hF' ⟨t, ht1, getD_keep ht2⟩ w hw
    rcases hc with hc | ⟨hc1, hc2, hc3, hc4⟩
    · exact any_one hk hc hs hS (fun v' L' w' hp hm => by obtain ⟨rfl, rfl⟩ := hm; exact hgo w' hp) hw
    · refine wpAny_take (v := v) hk hF.sel hc3 (by simpa using hc2) (fun c a w h => postN_panic h) (.inl ⟨hw0, fun w => ?_⟩) ?_
      · rw [act_eval']; exact hv w
      · rw [act_put]; exact hgo w hw
  | qui is ts =>
    intro listed hF ht w hw
    obtain ⟨k, is', rfl, hk, hF', hpt, hc⟩ := hF.cons
    have hit : k ∉ ts := hpt (.inl hp)
    simp only [Md.next] at h
    rw [if_neg (by simpa using hit)] at h
    have hgo := fun w hw => h _ hF' (still_no hit ht) w hw
    rcases hc with hc | ⟨hc1, hc2, hc3, hc4⟩
    · refine ⟨fun _ => hw, fun h => (by rw [hc] at h; cases h), ?_⟩
      intro i hi
      rw [hc, List.mem_singleton] at hi
      subst hi
      unfold wpOp
      simp only [hk, hw0, ↓reduceIte]
      exact .inl (hS.wp (fun v' L' w' hp hm => by obtain ⟨rfl, rfl⟩ := hm; exact hgo w' hp) hw)
    · refine G_first hk hc1 (Region.noSelect_spec hF.sel) (fun c a w h => postN_panic h) _ _ _ _ (first_of (P := P) hk hc2 hc3 hc4) (.inr ht) (hY _) ?_
      rw [act_put]; exact hgo w hw
  | sof R is ts =>
    intro listed hF ht w hw
    obtain ⟨k, is', rfl, hk, hF', hpt, hc⟩ := hF.cons
    have hit : k ∉ ts := hpt (.inl hp)
    simp only [Md.next] at h
    rw [if_neg (by simpa using hit)] at h
    have hgo := fun w hw => h _ hF' (still_no hit ht) w hw
    rcases hc with hc | ⟨hc1, hc2, hc3, hc4⟩
    · refine ⟨fun _ => SR.of hw, fun h => (by rw [hc] at h; cases h), ?_⟩
      intro i hi
      rw [hc, List.mem_singleton] at hi
      subst hi
      unfold wpOp
      simp only [hk, hw0, ↓reduceIte]
      exact .inl (hS.wp (fun v' L' w' hp hm => by obtain ⟨rfl, rfl⟩ := hm; exact hgo w' hp) hw)
    · refine G_first hk hc1 (Region.noSelect_spec hF.sel) (fun c a w h => postN_panic h) _ _ _ _ (first_of (P := P) hk hc2 hc3 hc4) (.inr ht) (hY _) ?_
      rw [act_put]; exact hgo w hw

theorem Ow.store {t : TypeId} {a x : Operand} {L' : Heap} {md' : Md} (he : md.turn = some md') (hs : skipped ops f o = false) (ho : o.op = .store t a x) (hv : storeAtV (aggT P t) L (ev f a) (ev f x) = some L') (h : Ow P w0 ops md' rest (putF f o.dst undef) L' N) : Ow P w0 ops md (o :: rest) f L N :=
  Ow.step he (by rw [ho]; rfl) hs fun w hw => by
    obtain ⟨w', hr, hp⟩ := run_storeAtV hw hv
    refine .inr (.inl ⟨w', L', ?_, hp, h⟩)
    simp only [execOp, ho, Sem.run_bind, hr]; rfl
end

/-! ### The walk by reckoning -/
inductive Kind where
  | value | store (t : TypeId) (a x : Operand) | other

def kindOf : Op → Kind
  | .move _ => .value
  | .assign _ => .value
  | .pick .. => .value
  | .binOp .. => .value
  | .unOp .. => .value
  | .convert .. => .value
  | .nilCheck _ => .value
  | .fieldAddr .. => .value
  | .field .. => .value
  | .indexAddr .. => .value
  | .index .. => .value
  | .load .. => .value
  | .extract .. => .value
  | .slice .. => .value
  | .makeFunc .. => .value
  | .call ⟨.builtin .len, _, _⟩ => .value
  | .call ⟨.builtin .cap, _, _⟩ => .value
  | .store t a x => .store t a x
  | _ => .other

/-- Prop, but for simp: what the type names is not looked into. -/
abbrev Dep {α : Type} (_ : α) : Type := Prop
def ov (x : Option Value) (k : Value → Prop) : Dep k := match x with | some v => k v | none => False
def ovs (x : Option Value) (k : Value → Prop) (s : Prop) : Dep (k, s) := match x with | some v => k v | none => s
def oh (x : Option Heap) (k : Heap → Prop) : Dep k := match x with | some v => k v | none => False
/-- A frame that is to be written out. -/
def nf (f : Fr) (k : Fr → Prop) : Dep k := k f
/-- Known blocks that are to be written out. -/
def nh (L : Heap) (k : Heap → Prop) : Dep k := k L
@[congr] theorem ov_congr {x y : Option Value} {k : Value → Prop} (h : x = y) : ov x k = ov y k := by rw [h]
@[congr] theorem ovs_congr {x y : Option Value} {k : Value → Prop} {s : Prop} (h : x = y) : ovs x k s = ovs y k s := by rw [h]
@[congr] theorem oh_congr {x y : Option Heap} {k : Heap → Prop} (h : x = y) : oh x k = oh y k := by rw [h]
@[congr] theorem nf_congr {x y : Fr} {k : Fr → Prop} (h : x = y) : nf x k = nf y k := by rw [h]
@[congr] theorem nh_congr {x y : Heap} {k : Heap → Prop} (h : x = y) : nh x k = nh y k := by rw [h]
theorem ovs_some (v : Value) (k : Value → Prop) (s : Prop) : ovs (some v) k s = k v := (rfl)
theorem ovs_none (k : Value → Prop) (s : Prop) : ovs none k s = s := (rfl)
theorem oh_some (v : Heap) (k : Heap → Prop) : oh (some v) k = k v := (rfl)
theorem nf_cons (v : Value) (r : Fr) (k : Fr → Prop) : nf (v :: r) k = k (v :: r) := (rfl)
theorem nf_nil (k : Fr → Prop) : nf [] k = k [] := (rfl)
theorem nh_cons (v : Nat × Obj) (r : Heap) (k : Heap → Prop) : nh (v :: r) k = k (v :: r) := (rfl)
theorem nh_nil (k : Heap → Prop) : nh [] k = k [] := (rfl)

/-- If a Bool is so, one thing; else another. -/
def ib (b : Bool) (x y : Prop) : Dep (x, y) := match b with | true => x | false => y
@[congr] theorem ib_congr {a b : Bool} {x y : Prop} (h : a = b) : ib a x y = ib b x y := by rw [h]
theorem ib_true (x y : Prop) : ib true x y = x := (rfl)
theorem ib_false (x y : Prop) : ib false x y = y := (rfl)

/-- One operation that is not passed over; 'go' is what follows. -/
def vcB (P : Program) (w0 : World) (st : Bool) (md : Md) (o : Oper) (f : Fr) (L : Heap) (go : Fr → Heap → Prop) (stop : Prop) : Prop :=
  match kindOf o.op with
  | .value => ib (rdOk md f o.op) (ovs (evalV P w0 L f o.op) (fun v => nf (putF f o.dst v) fun f' => go f' L) stop) stop
  | .store t a x => ib st (oh (storeAtV (aggT P t) L (ev f a) (ev f x)) fun L' => nh L' fun L' => nf (putF f o.dst undef) fun f' => go f' L') stop
  | .other => stop

def vcL (P : Program) (w0 : World) (ops : Array Oper) (st : Bool) (md : Md) : List Oper → Fr → Heap → (Md → List Oper → Fr → Heap → Prop) → Prop
  | [], f, L, k => k md [] f L
  | o :: rest, f, L, k =>
    ib (skipped ops f o) (nf (putF f o.dst undef) fun f' => vcL P w0 ops st md.next rest f' L k)
      (vcB P w0 st md o f L (fun f' L' => vcL P w0 ops st md.next rest f' L' k) (k md (o :: rest) f L))

/-- May stores be carried out as they come? -/
def Md.eff : Md → Bool
  | .seq => true
  | .qui _ _ => false
  | .any _ _ => true
  | .sof _ _ _ => false
theorem Md.turn_eff {md : Md} (h : md.eff = true) : md.turn = some md.next := by
  cases md <;> first | rfl | cases h
theorem Md.next_eff {md : Md} (h : md.eff = true) : md.next.eff = true := by
  cases md <;> first | rfl | cases h

theorem kindOf_store {op : Op} {t : TypeId} {a x : Operand} (h : kindOf op = .store t a x) : op = .store t a x := by
  unfold kindOf at h
  split at h <;> first | (cases h; done) | (cases h; rfl)

theorem vcL_sound {P : Program} {w0 : World} {ops : Array Oper} {N : Fr → Heap → Prop} (k : Md → List Oper → Fr → Heap → Prop) (hk : ∀ md l f L, k md l f L → Ow P w0 ops md l f L N) (st : Bool) :
    ∀ (l : List Oper) (md : Md) (f : Fr) (L : Heap), (st = true → md.eff = true) → vcL P w0 ops st md l f L k → Ow P w0 ops md l f L N
  | [], md, f, L, _, h => hk _ _ _ _ h
  | o :: rest, md, f, L, hst, h => by
    unfold vcL at h
    have hst' : st = true → md.next.eff = true := fun e => Md.next_eff (hst e)
    cases hs : skipped ops f o with
    | true =>
      rw [hs] at h
      exact Ow.skip hs (vcL_sound k hk st rest _ _ L hst' h)
    | false =>
      rw [hs] at h
      simp only [ib, vcB] at h
      split at h
      · cases hrd : rdOk md f o.op with
        | false => rw [hrd] at h; exact hk _ _ _ _ h
        | true =>
          rw [hrd] at h
          cases hv : evalV P w0 L f o.op with
          | none => rw [hv] at h; exact hk _ _ _ _ h
          | some v => rw [hv] at h; exact Ow.value hs hrd hv (vcL_sound k hk st rest _ _ L hst' h)
      · rename_i t a x hkd
        cases st with
        | true =>
          simp only at h
          cases hv : storeAtV (aggT P t) L (ev f a) (ev f x) with
          | none => rw [hv] at h; exact h.elim
          | some L' =>
            rw [hv] at h
            exact Ow.store (Md.turn_eff (hst rfl)) hs (kindOf_store hkd) hv (vcL_sound k hk true rest _ _ L' hst' h)
        | false => exact hk _ _ _ _ h
      · exact hk _ _ _ _ h

/-- What follows stands behind a name. -/
theorem Ow.run {P : Program} {w0 : World} {ops : Array Oper} {md : Md} {N : Fr → Heap → Prop} {l : List Oper} {f : Fr} {L : Heap} (he : md.eff = true)
    (h : ∀ k : Md → List Oper → Fr → Heap → Prop, (∀ md l f L, Ow P w0 ops md l f L N → k md l f L) → vcL P w0 ops true md l f L k) : Ow P w0 ops md l f L N :=
  vcL_sound (fun md l f L => Ow P w0 ops md l f L N) (fun _ _ _ _ h => h) true l md f L (fun _ => he) (h _ fun _ _ _ _ h => h)
theorem rd_seq_load (f : Fr) (t : TypeId) (x : Operand) : rdOk .seq f (.load t x) = true := (rfl)
theorem rd_any_load (f : Fr) (is ts : List Nat) (t : TypeId) (x : Operand) : rdOk (.any is ts) f (.load t x) = true := (rfl)
theorem rd_qui_load (f : Fr) (is ts : List Nat) (t : TypeId) (x : Operand) : rdOk (.qui is ts) f (.load t x) = true := (rfl)
theorem rd_sof_load (f : Fr) (R is ts : List Nat) (t : TypeId) (x : Operand) : rdOk (.sof R is ts) f (.load t x) = rdIn R (ev f x) := (rfl)
theorem rd_seq_convert (f : Fr) (s t : TypeId) (x : Operand) : rdOk .seq f (.convert s t x) = true := (rfl)
theorem rd_any_convert (f : Fr) (is ts : List Nat) (s t : TypeId) (x : Operand) : rdOk (.any is ts) f (.convert s t x) = true := (rfl)
theorem rd_qui_convert (f : Fr) (is ts : List Nat) (s t : TypeId) (x : Operand) : rdOk (.qui is ts) f (.convert s t x) = true := (rfl)
theorem rd_sof_convert (f : Fr) (R is ts : List Nat) (s t : TypeId) (x : Operand) : rdOk (.sof R is ts) f (.convert s t x) = rdIn R (ev f x) := (rfl)
theorem rdIn_p (R : List Nat) (b o : Nat) : rdIn R (vp b o) = R.contains b := (rfl)
theorem rdIn_sl (R : List Nat) (b o n c : Nat) : rdIn R (vsl b o n c) = R.contains b := (rfl)
theorem rdIn_nsl (R : List Nat) (n c : Nat) : rdIn R (.slice none n c) = true := (rfl)
theorem rdIn_int (R : List Nat) (k : IntKind) (n : Int) : rdIn R (.int k n) = true := (rfl)
theorem rdIn_str (R : List Nat) (l : List UInt8) : rdIn R (vs l) = true := (rfl)
theorem Md.next_sof (k : Nat) (R is ts : List Nat) : (Md.sof R (k :: is) ts).next = if ts.contains k then .any is ts else .sof R is ts := (rfl)
theorem Md.next_seq : Md.seq.next = .seq := (rfl)
theorem Md.next_any (k : Nat) (is ts : List Nat) : (Md.any (k :: is) ts).next = .any is ts := (rfl)
theorem Md.next_qui (k : Nat) (is ts : List Nat) : (Md.qui (k :: is) ts).next = if ts.contains k then .any is ts else .qui is ts := (rfl)

def boolOf : Value → Option Bool
  | .bool b => some b
  | _ => none
def yieldL (o : Option Oper) (f : Fr) : Option Bool :=
  match o with
  | some o => match o.dst with
    | some d => boolOf (getF f d)
    | none => none
  | none => none
theorem nthO_eq (l : List Oper) (j : Nat) : nthO l j = l[j]? := by
  induction l generalizing j with
  | nil => rfl
  | cons o r ih => cases j <;> simp [nthO, ih]
theorem yieldF_lit (l : List Oper) (f : Fr) (j : Nat) : yieldF l.toArray f j = yieldL (nthO l j) f := by
  unfold yieldF yieldL
  rw [nthO_eq, List.getElem?_toArray]
  cases l[j]? with
  | none => rfl
  | some o =>
    simp only [Option.bind_some]
    cases o.dst with
    | none => rfl
    | some d =>
      simp only
      cases getF f d <;> rfl
theorem yieldL_some (d : Tmp) (op : Op) (ty : TypeId) (ps : String) (af : Array Edge) (g : Option (Nat × Bool)) (f : Fr) : yieldL (some ⟨some d, op, ty, ps, af, g⟩) f = boolOf (getF f d) := (rfl)
theorem boolOf_b (b : Bool) : boolOf (.bool b) = some b := (rfl)
theorem boolOf_undef : boolOf undef = none := (rfl)
theorem some_beq (a b : Bool) : ((some a : Option Bool) == some b) = (a == b) := (rfl)
theorem none_beq (b : Bool) : ((none : Option Bool) == some b) = false := (rfl)

section
variable (P : Program) (w0 : World) (ops : Array Oper) (rest : List Oper) (f : Fr) (L : Heap) (k : Md → List Oper → Fr → Heap → Prop)
  (st : Bool) (md : Md) (d : Option Tmp) (ty : TypeId) (ps : String) (af : Array Edge)

theorem vcL_nil : vcL P w0 ops st md [] f L k = k md [] f L := (rfl)
theorem vcL_none (op : Op) : vcL P w0 ops st md (⟨d, op, ty, ps, af, none⟩ :: rest) f L k =
    vcB P w0 st md ⟨d, op, ty, ps, af, none⟩ f L (fun f' L' => vcL P w0 ops st md.next rest f' L' k) (k md (⟨d, op, ty, ps, af, none⟩ :: rest) f L) := (rfl)
theorem vcL_some (op : Op) (j : Nat) (b : Bool) : vcL P w0 ops st md (⟨d, op, ty, ps, af, some (j, b)⟩ :: rest) f L k =
    ib (yieldF ops f j == some b) (vcB P w0 st md ⟨d, op, ty, ps, af, some (j, b)⟩ f L (fun f' L' => vcL P w0 ops st md.next rest f' L' k) (k md (⟨d, op, ty, ps, af, some (j, b)⟩ :: rest) f L)) (nf (putF f d undef) fun f' => vcL P w0 ops st md.next rest f' L k) := by
  simp only [vcL, skipped]
  cases (yieldF ops f j == some b) <;> rfl
end
@[congr] theorem vcB_congr {P : Program} {w0 : World} {st : Bool} {md : Md} {o : Oper} {f : Fr} {L : Heap} {go : Fr → Heap → Prop} {stop : Prop} : vcB P w0 st md o f L go stop = vcB P w0 st md o f L go stop := (rfl)
section
variable (P : Program) (w0 : World) (f : Fr) (L : Heap) (st : Bool) (md : Md) (d : Option Tmp) (ty : TypeId) (ps : String) (af : Array Edge) (g : Option (Nat × Bool)) (go : Fr → Heap → Prop) (stop : Prop)
theorem vcB_move (x : Operand) : vcB P w0 st md ⟨d, .move x, ty, ps, af, g⟩ f L go stop = ovs (some (ev f x)) (fun v => nf (putF f d v) fun f' => go f' L) stop := (rfl)
theorem vcB_assign (x : Operand) : vcB P w0 st md ⟨d, .assign x, ty, ps, af, g⟩ f L go stop = ovs (some (ev f x)) (fun v => nf (putF f d v) fun f' => go f' L) stop := (rfl)
theorem vcB_pick (c a b : Operand) : vcB P w0 st md ⟨d, .pick c a b, ty, ps, af, g⟩ f L go stop = ovs (pickV (ev f c) (ev f a) (ev f b)) (fun v => nf (putF f d v) fun f' => go f' L) stop := (rfl)
theorem vcB_binOp (op : BinOp) (t t' : TypeId) (x y : Operand) : vcB P w0 st md ⟨d, .binOp op t x y t', ty, ps, af, g⟩ f L go stop = ovs (binX P op t (ev f x) (ev f y)) (fun v => nf (putF f d v) fun f' => go f' L) stop := (rfl)
theorem vcB_unOp (op : UnOp) (t : TypeId) (x : Operand) : vcB P w0 st md ⟨d, .unOp op t x, ty, ps, af, g⟩ f L go stop = ovs (unV op (ev f x)) (fun v => nf (putF f d v) fun f' => go f' L) stop := (rfl)
theorem vcB_convert (s t : TypeId) (x : Operand) : vcB P w0 st md ⟨d, .convert s t x, ty, ps, af, g⟩ f L go stop = ib (rdOk md f (.convert s t x)) (ovs (convV w0 L (cvT P s t) (ev f x)) (fun v => nf (putF f d v) fun f' => go f' L) stop) stop := (rfl)
theorem vcB_nilCheck (x : Operand) : vcB P w0 st md ⟨d, .nilCheck x, ty, ps, af, g⟩ f L go stop = ovs (nilV (ev f x)) (fun v => nf (putF f d v) fun f' => go f' L) stop := (rfl)
theorem vcB_fieldAddr (s : TypeId) (x : Operand) (i : Nat) : vcB P w0 st md ⟨d, .fieldAddr s x i, ty, ps, af, g⟩ f L go stop = ovs (fieldAddrV (fldT P s i) (ev f x)) (fun v => nf (putF f d v) fun f' => go f' L) stop := (rfl)
theorem vcB_field (s : TypeId) (x : Operand) (i : Nat) : vcB P w0 st md ⟨d, .field s x i, ty, ps, af, g⟩ f L go stop = ovs (fieldV (fldT P s i) (ev f x)) (fun v => nf (putF f d v) fun f' => go f' L) stop := (rfl)
theorem vcB_indexAddr (t : TypeId) (x i : Operand) : vcB P w0 st md ⟨d, .indexAddr t x i, ty, ps, af, g⟩ f L go stop = ovs (indexAddrV (ixT P t) (ev f x) (ixI (ev f i))) (fun v => nf (putF f d v) fun f' => go f' L) stop := (rfl)
theorem vcB_index (t : TypeId) (x i : Operand) : vcB P w0 st md ⟨d, .index t x i, ty, ps, af, g⟩ f L go stop = ovs (indexV (ixT P t) (ev f x) (ixI (ev f i))) (fun v => nf (putF f d v) fun f' => go f' L) stop := (rfl)
theorem vcB_load (t : TypeId) (x : Operand) : vcB P w0 st md ⟨d, .load t x, ty, ps, af, g⟩ f L go stop = ib (rdOk md f (.load t x)) (ovs (loadAtV (aggT P t) w0 L (ev f x)) (fun v => nf (putF f d v) fun f' => go f' L) stop) stop := (rfl)
theorem vcB_extract (x : Operand) (i : Nat) : vcB P w0 st md ⟨d, .extract x i, ty, ps, af, g⟩ f L go stop = ovs (extractV (ev f x) i) (fun v => nf (putF f d v) fun f' => go f' L) stop := (rfl)
theorem vcB_slice (t : TypeId) (x : Operand) (lo hi : Option Operand) : vcB P w0 st md ⟨d, .slice t x lo hi none, ty, ps, af, g⟩ f L go stop = ovs (sliceV (ixT P t) (ev f x) (lo.map fun o => ixI (ev f o)) (hi.map fun o => ixI (ev f o))) (fun v => nf (putF f d v) fun f' => go f' L) stop := (rfl)
theorem vcB_makeFunc (fn : Fn) (a b : Array Operand) : vcB P w0 st md ⟨d, .makeFunc fn a b, ty, ps, af, g⟩ f L go stop = ovs (some (.func fn (a.map (ev f)) (b.map (ev f)))) (fun v => nf (putF f d v) fun f' => go f' L) stop := (rfl)
theorem vcB_len (x : Operand) (t : TypeId) : vcB P w0 st md ⟨d, .call ⟨.builtin .len, #[x], #[t]⟩, ty, ps, af, g⟩ f L go stop = ovs (lenV (ixT P t) (ev f x)) (fun v => nf (putF f d v) fun f' => go f' L) stop := (rfl)
theorem vcB_cap (x : Operand) (t : TypeId) : vcB P w0 st md ⟨d, .call ⟨.builtin .cap, #[x], #[t]⟩, ty, ps, af, g⟩ f L go stop = ovs (capV (ixT P t) (ev f x)) (fun v => nf (putF f d v) fun f' => go f' L) stop := (rfl)
theorem vcB_store (t : TypeId) (a x : Operand) : vcB P w0 true md ⟨none, .store t a x, ty, ps, af, g⟩ f L go stop = oh (storeAtV (aggT P t) L (ev f a) (ev f x)) fun L' => nh L' fun L' => go f L' := (rfl)
theorem vcB_store_f (t : TypeId) (a x : Operand) : vcB P w0 false md ⟨d, .store t a x, ty, ps, af, g⟩ f L go stop = stop := (rfl)
theorem vcB_alloc (t : TypeId) : vcB P w0 st md ⟨d, .alloc t, ty, ps, af, g⟩ f L go stop = stop := (rfl)
theorem vcB_box (t : TypeId) (x : Operand) : vcB P w0 st md ⟨d, .box t x, ty, ps, af, g⟩ f L go stop = stop := (rfl)
theorem vcB_build (t : TypeId) (x : Array (Nat × Operand)) : vcB P w0 st md ⟨d, .build t x, ty, ps, af, g⟩ f L go stop = stop := (rfl)
theorem vcB_buildSlice (t : TypeId) (n : Nat) (x : Array (Nat × Operand)) : vcB P w0 st md ⟨d, .buildSlice t n x, ty, ps, af, g⟩ f L go stop = stop := (rfl)
theorem vcB_makeSlice (t : TypeId) (x y : Operand) : vcB P w0 st md ⟨d, .makeSlice t x y, ty, ps, af, g⟩ f L go stop = stop := (rfl)
theorem vcB_call (x : Operand) (a : Array Operand) (t : Array TypeId) : vcB P w0 st md ⟨d, .call ⟨.value x, a, t⟩, ty, ps, af, g⟩ f L go stop = stop := (rfl)
theorem vcB_append (a : Array Operand) (t : Array TypeId) : vcB P w0 st md ⟨d, .call ⟨.builtin .append, a, t⟩, ty, ps, af, g⟩ f L go stop = stop := (rfl)
theorem vcB_unsafeString (a : Array Operand) (t : Array TypeId) : vcB P w0 st md ⟨d, .call ⟨.builtin .unsafeString, a, t⟩, ty, ps, af, g⟩ f L go stop = stop := (rfl)
theorem vcB_unsafeSliceData (a : Array Operand) (t : Array TypeId) : vcB P w0 st md ⟨d, .call ⟨.builtin .unsafeSliceData, a, t⟩, ty, ps, af, g⟩ f L go stop = stop := (rfl)
theorem vcB_copy (a : Array Operand) (t : Array TypeId) : vcB P w0 st md ⟨d, .call ⟨.builtin .copy, a, t⟩, ty, ps, af, g⟩ f L go stop = stop := (rfl)
theorem vcB_delete (a : Array Operand) (t : Array TypeId) : vcB P w0 st md ⟨d, .call ⟨.builtin .delete, a, t⟩, ty, ps, af, g⟩ f L go stop = stop := (rfl)
theorem vcB_clear (a : Array Operand) (t : Array TypeId) : vcB P w0 st md ⟨d, .call ⟨.builtin .clear, a, t⟩, ty, ps, af, g⟩ f L go stop = stop := (rfl)
theorem vcB_max (a : Array Operand) (t : Array TypeId) : vcB P w0 st md ⟨d, .call ⟨.builtin .max, a, t⟩, ty, ps, af, g⟩ f L go stop = stop := (rfl)
theorem vcB_min (a : Array Operand) (t : Array TypeId) : vcB P w0 st md ⟨d, .call ⟨.builtin .min, a, t⟩, ty, ps, af, g⟩ f L go stop = stop := (rfl)
theorem vcB_makeMap (t : TypeId) (x : Option Operand) : vcB P w0 st md ⟨d, .makeMap t x, ty, ps, af, g⟩ f L go stop = stop := (rfl)
theorem vcB_lookup (t : TypeId) (x y : Operand) (c : Bool) : vcB P w0 st md ⟨d, .lookup t x y c, ty, ps, af, g⟩ f L go stop = stop := (rfl)
theorem vcB_mapUpdate (t : TypeId) (m x y : Operand) : vcB P w0 st md ⟨d, .mapUpdate t m x y, ty, ps, af, g⟩ f L go stop = stop := (rfl)
theorem vcB_range (t : TypeId) (x : Operand) : vcB P w0 st md ⟨d, .range t x, ty, ps, af, g⟩ f L go stop = stop := (rfl)
theorem vcB_next (x : Operand) (b : Bool) : vcB P w0 st md ⟨d, .next x b, ty, ps, af, g⟩ f L go stop = stop := (rfl)
theorem vcB_insert (t : TypeId) (m x y : Operand) : vcB P w0 st md ⟨d, .insert t m x y, ty, ps, af, g⟩ f L go stop = stop := (rfl)
theorem vcB_makeInterface (t : TypeId) (x : Operand) : vcB P w0 st md ⟨d, .makeInterface t x, ty, ps, af, g⟩ f L go stop = stop := (rfl)
theorem vcB_mapEntry (t : TypeId) (m x : Operand) : vcB P w0 st md ⟨d, .mapEntry t m x, ty, ps, af, g⟩ f L go stop = stop := (rfl)
theorem vcB_entryStore (t : TypeId) (m x y : Operand) : vcB P w0 st md ⟨d, .entryStore t m x y, ty, ps, af, g⟩ f L go stop = stop := (rfl)
theorem vcB_entry (x : Operand) : vcB P w0 st md ⟨d, .entry x, ty, ps, af, g⟩ f L go stop = stop := (rfl)
end
end Go.Sx
end
section
namespace Go.Sx
open Go
set_option linter.unusedSimpArgs false

/-! ### What a function hands back -/
def resV (P : Program) (w0 : World) (L : Heap) (f : Fr) : ResultVar → Option Value
  | .tmp t => some (getF f t)
  | .cell a t => loadAtV (aggT P t) w0 L (getF f a)

def cons2 : Option Value → Option (List Value) → Option (List Value)
  | some v, some vs => some (v :: vs)
  | _, _ => none
def resVs (P : Program) (w0 : World) (L : Heap) (f : Fr) : List ResultVar → Option (List Value)
  | [] => some []
  | r :: rs => cons2 (resV P w0 L f r) (resVs P w0 L f rs)

theorem resVs_nil (P : Program) (w0 : World) (L : Heap) (f : Fr) : resVs P w0 L f [] = some [] := (rfl)
theorem resVs_cons (P : Program) (w0 : World) (L : Heap) (f : Fr) (r : ResultVar) (rs : List ResultVar) : resVs P w0 L f (r :: rs) = cons2 (resV P w0 L f r) (resVs P w0 L f rs) := (rfl)
theorem cons2_some (v : Value) (vs : List Value) : cons2 (some v) (some vs) = some (v :: vs) := (rfl)
theorem resV_tmp (P : Program) (w0 : World) (L : Heap) (f : Fr) (t : Tmp) : resV P w0 L f (.tmp t) = some (getF f t) := (rfl)
theorem resV_cell (P : Program) (w0 : World) (L : Heap) (f : Fr) (a : Tmp) (t : TypeId) : resV P w0 L f (.cell a t) = loadAtV (aggT P t) w0 L (getF f a) := (rfl)

def tupV : List Value → Value
  | [v] => v
  | vs => .tuple vs.toArray

section
variable {P : Program} {w0 w : World} {L : Heap} {f : Fr}
def resS (f : Fr) (r : ResultVar) : Sem Value :=
  match r with
  | .tmp t => pure ((act f).tmps.getD t undef)
  | .cell a t => do loadVar t (← asAddr ((act f).tmps.getD a undef))

theorem run_resV {r : ResultVar} {v : Value} (hw : Hp w0 L w) (h : resV P w0 L f r = some v) : (resS f r).run P w = .ok v w := by
  cases r with
  | tmp t => simp only [resV, Option.some.injEq] at h; subst h; simp only [resS, act, getF_eq]; rfl
  | cell a t =>
    simp only [resV] at h
    unfold loadAtV at h
    split at h
    · rename_i b off hx
      simp only [resS, act, getF_eq, hx, asAddr, Sem.run_bind, Sem.run_pure, Result.andThen_ok, run_loadVar hw h]
    · cases h

theorem run_resVs : ∀ (rs : List ResultVar) (vs : List Value), Hp w0 L w → resVs P w0 L f rs = some vs → (rs.mapM (resS f)).run P w = .ok vs w
  | [], vs, _, h => by simp only [resVs, Option.some.injEq] at h; subst h; rfl
  | r :: rs, vs, hw, h => by
    unfold resVs cons2 at h
    split at h
    · rename_i v vs' h1 h2
      simp only [Option.some.injEq] at h; subst h
      rw [List.mapM_cons, Sem.run_bind, run_resV hw h1]
      simp only [Result.andThen_ok]
      rw [Sem.run_bind, run_resVs rs vs' hw h2]
      rfl
    · cases h

theorem run_results {fn : Func} {rs : List ResultVar} {vs : List Value} (hr : fn.results = rs.toArray) (hw : Hp w0 L w) (h : resVs P w0 L f rs = some vs) : (results fn (act f).tmps).run P w = .ok (tupV vs) w := by
  unfold results
  rw [hr]
  have e : (Array.mapM (m := Sem) (resS f) rs.toArray).run P w = .ok vs.toArray w := by
    rw [List.mapM_toArray, Sem.run_map, run_resVs rs vs hw h]; rfl
  rw [Sem.run_bind]
  show Result.andThen ((Array.mapM (m := Sem) (resS f) rs.toArray).run P w) (fun a w' => (pure (if h : a.size = 1 then a[0] else Value.tuple a) : Sem Value).run P w') = _
  rw [e]
  cases vs with
  | nil => rfl
  | cons v r => cases r <;> rfl
end

/-- A call returns, with a value and what has been turned or made. -/
def Rets (P : Program) (k : FuncId) (args : Array Value) (w : World) (S : Value → Heap → Prop) : Prop :=
  Calls P k args w fun e w' => ∃ v D, e = .returned v ∧ Hp w D w' ∧ S v D

theorem Rets.mono {P : Program} {k : FuncId} {args : Array Value} {w : World} {S S' : Value → Heap → Prop} (h : Rets P k args w S) (hs : ∀ v D, S v D → S' v D) : Rets P k args w S' :=
  Calls.mono h fun _ _ ⟨v, D, he, hp, hS⟩ => ⟨v, D, he, hp, hs _ _ hS⟩

/-- An old block is made known. -/
theorem Cw.own {P : Program} {w0 : World} {c : Code} {f : Fr} {L : Heap} {K : Kont} {b : Nat} {o : Obj} (hb : w0.heap[b]? = some o) (hn : b ∉ keys L) (h : Cw P w0 c f (L ++ [(b, o)]) K) : Cw P w0 c f L K :=
  fun w hw => h w (hw.own hb hn)

/-- What must hold where the body ends. -/
def retK (P : Program) (w0 : World) (rs : List ResultVar) (S : Value → Heap → Prop) : Kont
  | .normal, f, L => ∃ vs, resVs P w0 L f rs = some vs ∧ S (tupV vs) L
  | .ret, f, L => ∃ vs, resVs P w0 L f rs = some vs ∧ S (tupV vs) L
  | _, _, _ => False

theorem Rets.enter {P : Program} {k : FuncId} {fn : Func} {c : Code} {rs : List ResultVar} {args : Array Value} {w : World} {S : Value → Heap → Prop} {n : Nat}
    (hf : P.funcs[k]? = some fn) (hb : fn.body = some c) (hr : fn.results = rs.toArray) (hn : fn.ntmps = n)
    (h : Cw P w c (args.toList ++ List.replicate (n - args.size) undef) [] (retK P w rs S)) : Rets P k args w S := by
  refine calls_of_wp hf hb ?_
  have e : ({ tmps := args ++ Array.replicate (fn.ntmps - args.size) undef, defers := [] } : Act) = act (args.toList ++ List.replicate (n - args.size) undef) := by
    rw [hn]; simp only [act]; congr 1; apply Array.ext'; simp
  rw [e]
  refine wp_mono (h w (Hp.refl w)) ?_
  rintro e a w' ⟨hd, L, hp, hk⟩
  have ha := act_of hd
  cases e with
  | normal =>
    obtain ⟨vs, h1, h2⟩ := hk
    exact ⟨hd, tupV vs, by rw [ha]; exact run_results hr hp h1, tupV vs, L, rfl, hp, h2⟩
  | ret =>
    obtain ⟨vs, h1, h2⟩ := hk
    exact ⟨hd, tupV vs, by rw [ha]; exact run_results hr hp h1, tupV vs, L, rfl, hp, h2⟩
  | exit i => exact hk.elim
  | goto i => exact hk.elim
  | panic c => exact hk.elim
  | outgrown => exact hk.elim

/-- All blocks are from n on. -/
def New (n : Nat) : Heap → Prop
  | [] => True
  | (b, _) :: r => n ≤ b ∧ New n r

theorem New.le {n : Nat} {L : Heap} (h : New n L) : ∀ b, b ∈ keys L → n ≤ b := by
  induction L with
  | nil => intro b hb; cases hb
  | cons p r ih =>
    obtain ⟨c, o⟩ := p
    intro b hb
    rcases List.mem_cons.1 hb with hb | hb
    · rw [hb]; exact h.1
    · exact ih h.2 b hb

theorem Hp.garbage {w w' : World} {D : Heap} (h : Hp w D w') (hn : New w.heap.size D) : Hp w [] w' :=
  h.drop (fun _ hp => by cases hp) List.nodup_nil (fun p hp hlt _ => by
    have := hn.le p.1 (List.mem_map.2 ⟨p, hp, rfl⟩); omega)

/-- What must hold where the body ends, if nothing but garbage is left. -/
def retV (P : Program) (w0 : World) (rs : List ResultVar) (S : Value → Prop) : Kont
  | .normal, f, L => ∃ vs, resVs P w0 L f rs = some vs ∧ New w0.heap.size L ∧ S (tupV vs)
  | .ret, f, L => ∃ vs, resVs P w0 L f rs = some vs ∧ New w0.heap.size L ∧ S (tupV vs)
  | _, _, _ => False

theorem Rets.enterV {P : Program} {k : FuncId} {fn : Func} {c : Code} {rs : List ResultVar} {args : Array Value} {w : World} {S : Value → Prop} {n : Nat}
    (hf : P.funcs[k]? = some fn) (hb : fn.body = some c) (hr : fn.results = rs.toArray) (hn : fn.ntmps = n)
    (h : Cw P w c (args.toList ++ List.replicate (n - args.size) undef) [] (retV P w rs S)) : Rets P k args w (fun v D => S v ∧ D = []) := by
  have := Rets.enter (S := fun v D => New w.heap.size D ∧ S v) hf hb hr hn (h.mono (by
    intro e f L hk
    cases e <;> first
      | exact hk
      | exact hk.elim))
  refine Calls.mono this ?_
  rintro e w' ⟨v, D, he, hp, hn, hS⟩
  exact ⟨v, [], he, hp.garbage hn, hS, rfl⟩

/-- What must hold where the body ends, if one old block is turned and else nothing but garbage is left. -/
def retM (P : Program) (w0 : World) (rs : List ResultVar) (b : Nat) (S : Value → Obj → Prop) : Kont
  | .normal, f, L => ∃ vs o N, resVs P w0 L f rs = some vs ∧ L = (b, o) :: N ∧ New w0.heap.size N ∧ S (tupV vs) o
  | .ret, f, L => ∃ vs o N, resVs P w0 L f rs = some vs ∧ L = (b, o) :: N ∧ New w0.heap.size N ∧ S (tupV vs) o
  | _, _, _ => False

theorem Rets.enterM {P : Program} {k : FuncId} {fn : Func} {c : Code} {rs : List ResultVar} {args : Array Value} {w : World} {S : Value → Obj → Prop} {n b : Nat} {o : Obj}
    (hf : P.funcs[k]? = some fn) (hb : fn.body = some c) (hr : fn.results = rs.toArray) (hn : fn.ntmps = n) (ho : w.heap[b]? = some o)
    (h : Cw P w c (args.toList ++ List.replicate (n - args.size) undef) [(b, o)] (retM P w rs b S)) : Rets P k args w (fun v D => ∃ o, D = [(b, o)] ∧ S v o) := by
  have := Rets.enter (S := fun v D => ∃ o N, D = (b, o) :: N ∧ New w.heap.size N ∧ S v o) hf hb hr hn
    (Cw.own ho (by simp [keys]) (h.mono (by
      intro e f L hk
      cases e with
      | normal => obtain ⟨vs, o, N, h1, h2, h3, h4⟩ := hk; exact ⟨vs, h1, o, N, h2, h3, h4⟩
      | ret => obtain ⟨vs, o, N, h1, h2, h3, h4⟩ := hk; exact ⟨vs, h1, o, N, h2, h3, h4⟩
      | _ => exact hk.elim)))
  refine Calls.mono this ?_
  rintro e w' ⟨v, D, he, hp, o', N, rfl, hN, hS⟩
  have hbl := (Array.getElem?_eq_some_iff.1 ho).1
  refine ⟨v, [(b, o')], he, hp.drop (fun p hp => ?_) (by simp [keys]) (fun p hp hlt hnk => ?_), o', rfl, hS⟩
  · simp only [List.mem_singleton] at hp; subst hp; exact List.mem_cons_self
  · rcases List.mem_cons.1 hp with h | h
    · exfalso; apply hnk; rw [h]; simp [keys]
    · have := hN.le p.1 (List.mem_map.2 ⟨p, h, rfl⟩); omega

/-! ### Blocks above those that are known -/
def Above : Heap → Nat → Prop
  | [], _ => True
  | (b, _) :: r, n => b < n ∧ Above r n

theorem above_of {L : Heap} {n : Nat} (h : ∀ b, b ∈ keys L → b < n) : Above L n := by
  induction L with
  | nil => trivial
  | cons p r ih =>
    obtain ⟨b, o⟩ := p
    exact ⟨h b List.mem_cons_self, ih fun c hc => h c (List.mem_cons_of_mem _ hc)⟩

/-- What is known behind a call that was made where L was known and B blocks lay: D. -/
def Mrg (w0 : World) (L : Heap) (B : Nat) (D L' : Heap) : Prop := ∀ w w', w.heap.size = B → Hp w0 L w → Hp w D w' → Hp w0 L' w'

theorem Mrg.nil {w0 : World} {L : Heap} {B : Nat} : Mrg w0 L B [] L := fun _ _ _ h k => h.trans_nil k

theorem Hp.same {w0 w : World} {L M : Heap} (h : Hp w0 L w) (hs : ∀ p, p ∈ M ↔ p ∈ L) (hn : (keys M).Nodup) : Hp w0 M w := by
  have hk : ∀ b, b ∈ keys M ↔ b ∈ keys L := fun b => by
    constructor <;> intro hb <;> obtain ⟨p, hp, rfl⟩ := List.mem_map.1 hb
    · exact List.mem_map.2 ⟨p, (hs p).1 hp, rfl⟩
    · exact List.mem_map.2 ⟨p, (hs p).2 hp, rfl⟩
  exact ⟨fun b o hm => h.has b o ((hs _).1 hm), hn, fun b hb hm => h.old b hb (fun hm' => hm ((hk b).2 hm')), h.size, h.tape, h.os, h.output⟩

theorem filter_keys_all {L D : Heap} (h : ∀ b, b ∈ keys L → b ∉ keys D) : L.filter (fun p => !(keys D).contains p.1) = L := by
  apply List.filter_eq_self.2
  intro p hp
  have := h p.1 (List.mem_map.2 ⟨p, hp, rfl⟩)
  simpa using this

theorem Mrg.fresh {w0 : World} {L D : Heap} {B : Nat} (hD : ∀ b, b ∈ keys D → B ≤ b) : Mrg w0 L B D (L ++ D) := by
  intro w w' hB h k
  have := h.trans k
  rwa [filter_keys_all (fun b hb hm => by have := h.lt hb; have := hD b hm; omega)] at this

theorem Mrg.set {w0 : World} {L : Heap} {B b : Nat} {o : Obj} (hb : b ∈ keys L) : Mrg w0 L B [(b, o)] (setB L b o) := by
  intro w w' hB h k
  have ht := h.trans k
  refine ht.same (fun p => ?_) (by rw [keys_setB]; exact h.nodup)
  obtain ⟨c, x⟩ := p
  simp only [List.mem_append, List.mem_filter, keys, List.map_cons, List.map_nil, List.contains_eq_mem, List.mem_singleton, Prod.mk.injEq, Bool.not_eq_true', decide_eq_false_iff_not]
  constructor
  · intro hm
    rcases mem_setB h.nodup hm with ⟨h1, h2⟩ | ⟨h1, h2⟩
    · exact .inr ⟨h1, h2⟩
    · exact .inl ⟨h2, h1⟩
  · rintro (⟨h1, h2⟩ | ⟨rfl, rfl⟩)
    · have : ∀ (L : Heap), (c, x) ∈ L → c ≠ b → (c, x) ∈ setB L b o := by
        intro L
        induction L with
        | nil => intro hm _; cases hm
        | cons q r ih =>
          obtain ⟨e, y⟩ := q
          intro hm hne
          unfold setB
          split
          · rename_i he
            rcases List.mem_cons.1 hm with hm | hm
            · simp only [Prod.mk.injEq] at hm; exact absurd (hm.1.trans he) hne
            · exact List.mem_cons_of_mem _ hm
          · rcases List.mem_cons.1 hm with hm | hm
            · rw [hm]; exact List.mem_cons_self
            · exact List.mem_cons_of_mem _ (ih hm hne)
      exact this L h1 h2
    · have : ∀ (L : Heap), c ∈ keys L → (c, x) ∈ setB L c x := by
        intro L
        induction L with
        | nil => intro hm; cases hm
        | cons q r ih =>
          obtain ⟨e, y⟩ := q
          intro hm
          unfold setB
          split
          · rename_i he; subst he; exact List.mem_cons_self
          · rename_i he
            rcases List.mem_cons.1 hm with hm | hm
            · exact absurd hm.symm he
            · exact List.mem_cons_of_mem _ (ih hm)
      exact this L hb

section
variable {P : Program} {w0 : World} {f : Fr} {L : Heap} {N : Fr → Heap → Prop} {ops : Array Oper} {rest : List Oper} {md : Md}
  {d : Option Tmp} {ty : TypeId} {ps : String} {af : Array Edge} {g : Option (Nat × Bool)}

theorem run_call {x : Operand} {args : Array Operand} {ts : Array TypeId} {k : FuncId} {fst cap : Array Value} (hx : ev f x = .func (.func k) fst cap)
    (hk : ∀ a w, (callFunc k a).run P w = .ok (.enter k a) w) (w : World) :
    (execOp (ev f) ⟨d, .call ⟨.value x, args, ts⟩, ty, ps, af, g⟩).run P w = .ok (.enter k (fst ++ args.map (ev f) ++ cap)) w := by
  simp only [execOp, resolve, hx, Deferred.ofValue, Sem.run_bind, Sem.run_pure, Result.andThen_ok, invoke, hk]

/-- A call, by its callee's contract. -/
theorem Ow.call {x : Operand} {args : Array Operand} {ts : Array TypeId} {k : FuncId} {fst cap : Array Value} {S : Nat → Value → Heap → Prop} {md' : Md} (he : md.turn = some md')
    (hs : skipped ops f ⟨d, .call ⟨.value x, args, ts⟩, ty, ps, af, g⟩ = false) (hx : ev f x = .func (.func k) fst cap)
    (hk : ∀ a w, (callFunc k a).run P w = .ok (.enter k a) w) (hc : ∀ w, Hp w0 L w → Rets P k (fst ++ args.map (ev f) ++ cap) w (S w.heap.size))
    (hn : ∀ B v D, Above L B → w0.heap.size ≤ B → S B v D → ∃ L', Mrg w0 L B D L' ∧ Ow P w0 ops md' rest (putF f d v) L' N) :
    Ow P w0 ops md (⟨d, .call ⟨.value x, args, ts⟩, ty, ps, af, g⟩ :: rest) f L N := by
  refine Ow.step he rfl hs fun w hw => .inr (.inr ⟨k, _, w, run_call hx hk w, ?_⟩)
  refine Calls.mono (hc w hw) ?_
  rintro e w' ⟨v, D, rfl, hp, hS⟩
  obtain ⟨L', hm, hO⟩ := hn w.heap.size v D (above_of fun b hb => hw.lt hb) hw.size hS
  exact ⟨v, L', rfl, hm w w' rfl hw hp, hO⟩

/-- A call that leaves nothing but garbage: in any kind of region. -/
theorem Ow.callV {x : Operand} {args : Array Operand} {ts : Array TypeId} {k : FuncId} {fst cap : Array Value} {v : Value}
    (hs : skipped ops f ⟨d, .call ⟨.value x, args, ts⟩, ty, ps, af, g⟩ = false) (hx : ev f x = .func (.func k) fst cap)
    (hk : ∀ a w, (callFunc k a).run P w = .ok (.enter k a) w) (hc : ∀ w, Hp w0 L w → Rets P k (fst ++ args.map (ev f) ++ cap) w (fun v' D => v' = v ∧ D = []))
    (hn : Ow P w0 ops md.next rest (putF f d v) L N) :
    Ow P w0 ops md (⟨d, .call ⟨.value x, args, ts⟩, ty, ps, af, g⟩ :: rest) f L N := by
  refine Ow.calm rfl rfl hs (fun w hw => .inr (.inr ⟨k, _, w, run_call hx hk w, ?_⟩)) hn
  refine Calls.mono (hc w hw) ?_
  rintro e w' ⟨v', D, rfl, hp, rfl, rfl⟩
  exact ⟨_, _, rfl, hw.trans_nil hp, rfl, rfl⟩

/-- The same for a function that is named: its arguments as a list. -/
theorem Ow.callF {l : List Operand} {ts : Array TypeId} {k : FuncId} {S : Nat → Value → Heap → Prop} {md' : Md} (he : md.turn = some md')
    (hs : skipped ops f ⟨d, .call ⟨.value (.func k), l.toArray, ts⟩, ty, ps, af, g⟩ = false)
    (hk : ∀ a w, (callFunc k a).run P w = .ok (.enter k a) w) (hc : ∀ w, Hp w0 L w → Rets P k (l.map (ev f)).toArray w (S w.heap.size))
    (hn : ∀ B v D, Above L B → w0.heap.size ≤ B → S B v D → ∃ L', Mrg w0 L B D L' ∧ Ow P w0 ops md' rest (putF f d v) L' N) :
    Ow P w0 ops md (⟨d, .call ⟨.value (.func k), l.toArray, ts⟩, ty, ps, af, g⟩ :: rest) f L N :=
  Ow.call he hs rfl hk (fun w hw => by simpa using hc w hw) hn
theorem Ow.callFV {l : List Operand} {ts : Array TypeId} {k : FuncId} {v : Value}
    (hs : skipped ops f ⟨d, .call ⟨.value (.func k), l.toArray, ts⟩, ty, ps, af, g⟩ = false)
    (hk : ∀ a w, (callFunc k a).run P w = .ok (.enter k a) w) (hc : ∀ w, Hp w0 L w → Rets P k (l.map (ev f)).toArray w (fun v' D => v' = v ∧ D = []))
    (hn : Ow P w0 ops md.next rest (putF f d v) L N) :
    Ow P w0 ops md (⟨d, .call ⟨.value (.func k), l.toArray, ts⟩, ty, ps, af, g⟩ :: rest) f L N :=
  Ow.callV hs rfl hk (fun w hw => by simpa using hc w hw) hn

/-- The type's nought. -/
def zeroV (P : Program) (t : TypeId) : Option Value := (P.info? t).bind (·.zero)

theorem run_zeroV {t : TypeId} {z : Value} (h : zeroV P t = some z) (w : World) : (zeroValue t).run P w = .ok z w := by
  unfold zeroV at h
  cases hi : P.info? t with
  | none => rw [hi] at h; cases h
  | some i =>
    rw [hi] at h
    simp only [Option.bind_some] at h
    simp only [zeroValue, Sem.run_bind, typeInfo, run_program, Result.andThen_ok, hi, Sem.run_pure, h]

theorem Ow.alloc {t : TypeId} {z : Value} {md' : Md} (he : md.turn = some md') (hs : skipped ops f ⟨d, .alloc t, ty, ps, af, g⟩ = false) (hz : zeroV P t = some z)
    (hn : ∀ b, Above L b → w0.heap.size ≤ b → Ow P w0 ops md' rest (putF f d (vp b 0)) (L ++ [(b, .cells z.cells t)]) N) :
    Ow P w0 ops md (⟨d, .alloc t, ty, ps, af, g⟩ :: rest) f L N := by
  refine Ow.step he rfl hs fun w hw => .inl ⟨vp w.heap.size 0, w.alloc (.cells z.cells t), _, ?_, hw.alloc _, hn _ (above_of fun b hb => hw.lt hb) hw.size⟩
  simp only [execOp, Instr.alloc, Sem.run_bind, run_zeroV hz w, Result.andThen_ok]
  rfl

theorem Ow.box {t : TypeId} {x : Operand} {md' : Md} (he : md.turn = some md') (hs : skipped ops f ⟨d, .box t x, ty, ps, af, g⟩ = false)
    (hn : ∀ b, Above L b → w0.heap.size ≤ b → Ow P w0 ops md' rest (putF f d (vp b 0)) (L ++ [(b, .cells (ev f x).cells t)]) N) :
    Ow P w0 ops md (⟨d, .box t x, ty, ps, af, g⟩ :: rest) f L N := by
  refine Ow.step he rfl hs fun w hw => .inl ⟨vp w.heap.size 0, w.alloc (.cells (ev f x).cells t), _, ?_, hw.alloc _, hn _ (above_of fun b hb => hw.lt hb) hw.size⟩
  simp only [execOp, Instr.box, Sem.run_bind, Result.andThen_ok]
  rfl

/-- Where the parts of an array or a struct lie. -/
def plcT (P : Program) (t : TypeId) : Option (List (Nat × Nat)) :=
  match P.underlying t with
  | some (.struct fs) => fs.toList.mapM fun f => (aggT P f.type).map fun m => (f.offset, m.2)
  | some (.array n e) => (aggT P e).map fun m => (List.range n).map fun i => (i * m.2, m.2)
  | _ => none

def fillV (pl : List (Nat × Nat)) : Array Value → List (Nat × Value) → Option (Array Value)
  | cs, [] => some cs
  | cs, (i, v) :: r => match pl[i]? with
    | some (off, n) => if v.cells.size = n ∧ off + n ≤ cs.size then fillV pl (putC cs off v.cells.toList) r else none
    | none => none

def buildV (pl : Option (List (Nat × Nat))) (z : Option Value) (parts : List (Nat × Value)) : Option Value :=
  match pl, z with
  | some pl, some (.agg cs) => (fillV pl cs parts).map .agg
  | _, _ => none

theorem foldl_putC : ∀ (vs : List Value) (off j : Nat) (cs : Array Value), (vs.zipIdx j).foldl (fun cs (p : Value × Nat) => cs.setIfInBounds (off + p.2) p.1) cs = putC cs (off + j) vs
  | [], _, _, _ => rfl
  | v :: r, off, j, cs => by
    simp only [List.zipIdx_cons, List.foldl_cons, putC]
    rw [foldl_putC r off (j + 1)]
    rfl

theorem fill_eq {place : Nat → Option (Nat × Nat)} {pl : List (Nat × Nat)} (hp : ∀ i p, pl[i]? = some p → place i = some p) : ∀ (parts : List (Nat × Value)) (cs cs' : Array Value), fillV pl cs parts = some cs' → Instr.fill place cs parts = some cs'
  | [], _, _, h => h
  | (i, v) :: r, cs, cs', h => by
    unfold fillV at h
    split at h
    · rename_i off n hi
      split at h
      · rename_i hc
        unfold Instr.fill
        rw [hp i _ hi]
        simp only
        have h1 : (decide (v.cells.size ≠ n) || decide (off + v.cells.size > cs.size)) = false := by
          simp only [Bool.or_eq_false_iff, decide_eq_false_iff_not]; omega
        have h1' : ¬ ((decide (v.cells.size ≠ n) || decide (off + v.cells.size > cs.size)) = true) := by rw [h1]; simp
        rw [if_neg h1']
        have e : (v.cells.zipIdx.foldl (fun cs (x : Value × Nat) => match x with | (c, j) => cs.setIfInBounds (off + j) c) cs) = putC cs off v.cells.toList := by
          have := foldl_putC v.cells.toList off 0 cs
          rw [← Array.foldl_toList, Array.toList_zipIdx]
          simpa using this
        rw [e]
        exact fill_eq hp r _ _ h
      · cases h
    · cases h

theorem mapM_places {fs : List Field} {pl : List (Nat × Nat)} (h : fs.mapM (fun f => (aggT P f.type).map fun m => (f.offset, m.2)) = some pl) (w : World) :
    (fs.mapM (fun f => do pure (f.offset, ← sizeOf f.type) : Field → Sem (Nat × Nat))).run P w = .ok pl w := by
  induction fs generalizing pl with
  | nil => cases h; rfl
  | cons f r ih =>
    simp only [List.mapM_cons, Option.bind_eq_bind, Option.bind_eq_some_iff, Option.map_eq_some_iff] at h
    obtain ⟨p, ⟨m, hm, rfl⟩, ps, hps, h⟩ := h
    cases h
    rw [List.mapM_cons, Sem.run_bind]
    simp only [Sem.run_bind, run_sizeOf hm, Result.andThen_ok, Sem.run_pure, ih hps]

theorem run_buildV {t : TypeId} {parts : Array (Nat × Value)} {v : Value} (h : buildV (plcT P t) (zeroV P t) parts.toList = some v) (w : World) : (Instr.build t parts).run P w = .ok v w := by
  unfold buildV at h
  split at h
  · rename_i pl cs hpl hz
    cases hf : fillV pl cs parts.toList with
    | none => rw [hf] at h; cases h
    | some cs' =>
      rw [hf] at h
      cases h
      unfold plcT at hpl
      split at hpl
      · rename_i fs hu
        have hpl' : fs.toList.mapM (fun f => (aggT P f.type).map fun m => (f.offset, m.2)) = some pl := hpl
        have hm := mapM_places hpl' w
        have hm' : (fs.mapM (fun f => do pure (f.offset, ← sizeOf f.type) : Field → Sem (Nat × Nat))).run P w = .ok pl.toArray w := by
          rw [← Array.toArray_toList (xs := fs), List.mapM_toArray, Sem.run_map, hm]; rfl
        have hfill := fill_eq (place := (pl.toArray[·]?)) (fun i p hi => by simpa using hi) _ _ _ hf
        simp only [Instr.build, Sem.run_bind, run_zeroV hz w, Result.andThen_ok, run_underlying hu w, Value.cells]
        rw [hm']
        simp only [Result.andThen_ok, hfill, Sem.run_pure]
      · rename_i n e hu
        cases hm : aggT P e with
        | none => rw [hm] at hpl; cases hpl
        | some m =>
          rw [hm] at hpl
          simp only [Option.map_some, Option.some.injEq] at hpl
          have hfill := fill_eq (place := fun i => some (i * m.2, m.2)) (fun i p hi => by
            rw [← hpl] at hi
            simp only [List.getElem?_map, Option.map_eq_some_iff] at hi
            obtain ⟨j, hj, rfl⟩ := hi
            have : j = i := by
              have := List.getElem?_eq_some_iff.1 hj
              obtain ⟨h1, h2⟩ := this
              simpa using h2.symm
            rw [this]) _ _ _ hf
          simp only [Instr.build, Sem.run_bind, run_zeroV hz w, Result.andThen_ok, run_underlying hu w, Value.cells, run_sizeOf hm w]
          simp only [hfill, Sem.run_pure]
      · cases hpl
  · cases h

/-- A struct's or an array's value out of its parts. -/
theorem Ow.build {t : TypeId} {parts : Array (Nat × Operand)} (v : Value) (hs : skipped ops f ⟨d, .build t parts, ty, ps, af, g⟩ = false)
    (hv : buildV (plcT P t) (zeroV P t) (parts.toList.map fun p => (p.1, ev f p.2)) = some v)
    (hn : Ow P w0 ops md.next rest (putF f d v) L N) : Ow P w0 ops md (⟨d, .build t parts, ty, ps, af, g⟩ :: rest) f L N := by
  refine Ow.pureV rfl hs (fun w => ?_) hn
  have h' : buildV (plcT P t) (zeroV P t) (parts.map fun (i, x) => (i, ev f x)).toList = some v := by
    rw [Array.toList_map]; exact hv
  simp only [execOp, Sem.run_bind, run_buildV h' w, Result.andThen_ok]
  rfl

/-- A pure value, by its run. -/
theorem Ow.val {o : Oper} {v : Value} {md' : Md} (he : md.turn = some md') (hp : pureK P o.op = false) (hs : skipped ops f o = false) (hv : ∀ w, Hp w0 L w → (execOp (ev f) o).run P w = .ok (.value v) w)
    (hn : Ow P w0 ops md' rest (putF f o.dst v) L N) : Ow P w0 ops md (o :: rest) f L N :=
  Ow.step he hp hs fun w hw => .inl ⟨v, w, L, hv w hw, hw, hn⟩
end

/-! ### Cells that hold bytes and words -/
def a8 (l : List UInt8) : Array Value := (l.map fun x => Value.int .u8 (x.toNat : Int)).toArray
def a32 (l : List UInt32) : Array Value := (l.map fun x => Value.int .u32 (x.toNat : Int)).toArray
end Go.Sx
end
section
namespace Go.Sx
open Go
set_option linter.unusedSimpArgs false

section
variable {P : Program} {w0 : World} {f : Fr} {L : Heap} {K : Kont} {N : Fr → Heap → Prop}
theorem thenK_normal (h : N f L) : thenK N K .normal f L := h
end

/-- A branch, before it is known which way. -/
def CwC (P : Program) (w0 : World) (v : Value) (x y : Code) (f : Fr) (L : Heap) (K : Kont) : Prop := ∃ b, v = .bool b ∧ (b = true → Cw P w0 x f L K) ∧ (b = false → Cw P w0 y f L K)
section
variable {P : Program} {w0 : World} {f : Fr} {L : Heap} {K : Kont} {v : Value} {x y : Code}
theorem CwC.split {b : Bool} (hv : v = .bool b) (ht : b = true → Cw P w0 x f L K) (he : b = false → Cw P w0 y f L K) : CwC P w0 v x y f L K := ⟨b, hv, ht, he⟩
theorem CwC.splitp {p : Prop} [Decidable p] (hv : v = .bool (decide p)) (ht : p → Cw P w0 x f L K) (he : ¬ p → Cw P w0 y f L K) : CwC P w0 v x y f L K :=
  ⟨_, hv, (fun h => ht (of_decide_eq_true h)), (fun h => he (of_decide_eq_false h))⟩
theorem CwC.tt (hv : v = .bool true) (ht : Cw P w0 x f L K) : CwC P w0 v x y f L K := ⟨_, hv, (fun _ => ht), (fun h => by cases h)⟩
theorem CwC.ff (hv : v = .bool false) (he : Cw P w0 y f L K) : CwC P w0 v x y f L K := ⟨_, hv, (fun h => by cases h), (fun _ => he)⟩
theorem CwC.bt {b : Bool} (hv : v = .bool b) (hb : b = true) (ht : Cw P w0 x f L K) : CwC P w0 v x y f L K := CwC.tt (by rw [hv, hb]) ht
theorem CwC.bf {b : Bool} (hv : v = .bool b) (hb : b = false) (he : Cw P w0 y f L K) : CwC P w0 v x y f L K := CwC.ff (by rw [hv, hb]) he
theorem CwC.pt {p : Prop} [Decidable p] (hv : v = .bool (decide p)) (hp : p) (ht : Cw P w0 x f L K) : CwC P w0 v x y f L K := CwC.bt hv (decide_eq_true hp) ht
theorem CwC.it {a b : Int} (hv : v = .bool (a == b)) (hp : a = b) (ht : Cw P w0 x f L K) : CwC P w0 v x y f L K := CwC.bt hv (beq_iff_eq.2 hp) ht
theorem CwC.if {a b : Int} (hv : v = .bool (a == b)) (hp : ¬ a = b) (he : Cw P w0 y f L K) : CwC P w0 v x y f L K := CwC.bf hv (beq_eq_false_iff_ne.2 hp) he
theorem CwC.nt {a b : Int} (hv : v = .bool (a != b)) (hp : ¬ a = b) (ht : Cw P w0 x f L K) : CwC P w0 v x y f L K := CwC.bt hv (bne_iff_ne.2 hp) ht
theorem CwC.nf {a b : Int} (hv : v = .bool (a != b)) (hp : a = b) (he : Cw P w0 y f L K) : CwC P w0 v x y f L K := CwC.bf hv (by rw [hp]; simp) he
end
theorem ev_tmp (f : Fr) (t : Tmp) : ev f (.tmp t) = getF f t := (rfl)
theorem ev_const (f : Fr) (v : Value) : ev f (.const v) = v := (rfl)
theorem ev_global (f : Fr) (g : Nat) : ev f (.global g) = vp g 0 := (rfl)
theorem ev_func (f : Fr) (k : FuncId) : ev f (.func k) = .func (.func k) #[] #[] := (rfl)
theorem getF_0 (v : Value) (r : Fr) : getF (v :: r) 0 = v := (rfl)
theorem getF_s (v : Value) (r : Fr) (n : Nat) : getF (v :: r) (n + 1) = getF r n := (rfl)
theorem setF_0 (v x : Value) (r : Fr) : setF (v :: r) 0 x = x :: r := (rfl)
theorem setF_s (v x : Value) (r : Fr) (n : Nat) : setF (v :: r) (n + 1) x = v :: setF r n x := (rfl)
theorem putF_some (f : Fr) (d : Tmp) (v : Value) : putF f (some d) v = setF f d v := (rfl)
theorem putF_none (f : Fr) (v : Value) : putF f none v = f := (rfl)

/-! ### Texts -/
theorem lit_str (l : List UInt8) : Value.string (ByteArray.mk (List.toArray l)) = vs l := (rfl)
theorem binX_vs (P : Program) (op : BinOp) (t : TypeId) (a b : List UInt8) : binX P op t (vs a) (vs b) = binV op (vs a) (vs b) := (rfl)
theorem size_mk (l : List UInt8) : (ByteArray.mk l.toArray).size = l.length := by simp [ByteArray.size]
theorem toList_mk (l : List UInt8) : (ByteArray.mk l.toArray).toList = l := by rw [ByteArray.toList_eq]
theorem bin_add_s (a b : List UInt8) (h : a.length + b.length ≤ 9223372036854775807) : binV .add (vs a) (vs b) = some (vs (a ++ b)) := by
  simp only [binV, vs, strV, size_mk, h, ↓reduceIte]
  congr 2
theorem bin_eql_s (a b : List UInt8) : binV .eql (vs a) (vs b) = some (.bool (a == b)) := by simp only [binV, vs, strV, toList_mk]
theorem bin_neq_s (a b : List UInt8) : binV .neq (vs a) (vs b) = some (.bool (a != b)) := by simp only [binV, vs, strV, toList_mk]; rfl
theorem bin_lss_s (a b : List UInt8) : binV .lss (vs a) (vs b) = some (.bool (Op.bytesLess a b)) := by simp only [binV, vs, strV, toList_mk]
theorem bin_leq_s (a b : List UInt8) : binV .leq (vs a) (vs b) = some (.bool (Op.bytesLess a b || a == b)) := by simp only [binV, vs, strV, toList_mk]
theorem bin_gtr_s (a b : List UInt8) : binV .gtr (vs a) (vs b) = some (.bool (!(Op.bytesLess a b || a == b))) := by simp only [binV, vs, strV, toList_mk]
theorem bin_geq_s (a b : List UInt8) : binV .geq (vs a) (vs b) = some (.bool (!Op.bytesLess a b)) := by simp only [binV, vs, strV, toList_mk]

theorem index_str (l : List UInt8) (k : Int) (h : 0 ≤ k ∧ k < l.length) : indexV .str (vs l) (some k) = some (v8 (l.getD k.toNat 0)) := by
  have hlt : k.toNat < l.length := by omega
  simp only [indexV, vs, h.1, ↓reduceIte]
  have : (ByteArray.mk l.toArray)[k.toNat]? = some l[k.toNat] := by
    have hs : k.toNat < (ByteArray.mk l.toArray).size := by rw [size_mk]; exact hlt
    rw [ByteArray.getElem?_lt' _ _ hs]; rfl
  rw [this]
  simp [v8, List.getD_eq_getElem?_getD, hlt]
theorem len_str (l : List UInt8) : lenV .str (vs l) = some (vi l.length) := by simp only [lenV, vs, size_mk]; rfl
theorem slice_str (l : List UInt8) (lo hi : Option (Option Int)) (a b : Nat) (h : bndV l.length l.length lo hi = some (a, b)) : sliceV .str (vs l) lo hi = some (vs ((l.take b).drop a)) := by
  simp only [sliceV, vs, size_mk, h]
  rw [ByteArray.extract_mk]
  congr 3
  rw [List.drop_take]
theorem bnd_none (n c : Nat) : bndV n c none none = some (0, n) := (rfl)
theorem bnd_lo (n c : Nat) (l : Int) (h : 0 ≤ l ∧ l ≤ n) : bndV n c (some (some l)) none = some (l.toNat, n) := by simp only [bndV, h, and_self, ↓reduceIte]
theorem bnd_hi (n c : Nat) (l : Int) (h : 0 ≤ l ∧ l ≤ c) : bndV n c none (some (some l)) = some (0, l.toNat) := by simp only [bndV, h, and_self, ↓reduceIte]
theorem bnd_both (n c : Nat) (l k : Int) (h : 0 ≤ l ∧ l ≤ k ∧ k ≤ c) : bndV n c (some (some l)) (some (some k)) = some (l.toNat, k.toNat) := by simp only [bndV, h, and_self, ↓reduceIte]
theorem slice_str_lo (l : List UInt8) (k : Int) (h : 0 ≤ k ∧ k ≤ l.length) : sliceV .str (vs l) (some (some k)) none = some (vs (l.drop k.toNat)) := by
  rw [slice_str l _ _ _ _ (bnd_lo _ _ k h), List.take_length]
theorem slice_str_hi (l : List UInt8) (k : Int) (h : 0 ≤ k ∧ k ≤ l.length) : sliceV .str (vs l) none (some (some k)) = some (vs (l.take k.toNat)) := by
  rw [slice_str l _ _ _ _ (bnd_hi _ _ k h), List.drop_zero]
theorem slice_str_both (l : List UInt8) (j k : Int) (h : 0 ≤ j ∧ j ≤ k ∧ k ≤ l.length) : sliceV .str (vs l) (some (some j)) (some (some k)) = some (vs ((l.take k.toNat).drop j.toNat)) := by
  rw [slice_str l _ _ _ _ (bnd_both _ _ j k h)]

/-! ### Conversions -/
theorem conv_int (w0 : World) (L : Heap) (k : IntKind) (v : Value) : convV w0 L (.int k) v = convI k v := (rfl)
theorem conv_str (w0 : World) (L : Heap) (l : List UInt8) : convV w0 L .str (vs l) = some (vs l) := (rfl)
theorem conv_bytesStr (w0 : World) (L : Heap) (b off n c : Nat) : convV w0 L .bytesStr (vsl b off n c) = textV (readB w0 L b) off n := (rfl)
theorem bytesOf_a8 (l : List UInt8) : bytesOf (l.map fun x => Value.int .u8 (x.toNat : Int)) = some l := by
  induction l with
  | nil => rfl
  | cons x r ih =>
    simp only [List.map_cons, bytesOf, ih, Int.toNat_natCast]
    simp
theorem text_a8 (l : List UInt8) (E : TypeId) (fz : Nat × Nat) (off n : Nat) (h : off + n ≤ l.length) : textV (some (.cells (a8 l) E fz)) off n = some (vs ((l.drop off).take n)) := by
  have hs : off + n ≤ (a8 l).size := by simpa [a8] using h
  simp only [textV, hs, ↓reduceIte]
  have e : ((a8 l).extract off (off + n)).toList = ((l.drop off).take n).map fun x => Value.int .u8 (x.toNat : Int) := by
    simp [a8, List.map_drop, List.map_take, List.take_drop, List.extract_eq_take_drop]
  rw [e, bytesOf_a8]; rfl

/-! ### Addresses -/
theorem fieldAddr_p (off n b o : Nat) (a : Bool) (h : 0 < n) : fieldAddrV (some (off, (a, n))) (vp b o) = some (vp b (o + off)) := by
  have : ¬ n = 0 := by omega
  simp only [fieldAddrV, vp, this, ↓reduceIte, add_spot]
theorem indexAddr_arr (n : Nat) (m : Bool × Nat) (b o : Nat) (k : Int) (h : 0 ≤ k ∧ k < n) : indexAddrV (.arr n m) (vp b o) (some k) = some (vp b (o + k.toNat * m.2)) := by
  simp only [indexAddrV, vp, h, and_self, ↓reduceIte, add_spot]
theorem indexAddr_sl (m : Bool × Nat) (b o n c : Nat) (k : Int) (h : 0 ≤ k ∧ k < n) : indexAddrV (.sl m) (vsl b o n c) (some k) = some (vp b (o + k.toNat * m.2)) := by
  simp only [indexAddrV, vp, vsl, h, and_self, ↓reduceIte, add_spot]
theorem nil_p (b o : Nat) : nilV (vp b o) = some (vp b o) := (rfl)
theorem len_arr (n : Nat) (m : Bool × Nat) (v : Value) : lenV (.arr n m) v = some (vi n) := (rfl)
theorem len_sl (m : Bool × Nat) (b o n c : Nat) : lenV (.sl m) (vsl b o n c) = some (vi n) := (rfl)
theorem cap_sl (m : Bool × Nat) (b o n c : Nat) : capV (.sl m) (vsl b o n c) = some (vi c) := (rfl)
theorem slice_arr_all (n : Nat) (m : Bool × Nat) (b o : Nat) (h : 0 < n) : sliceV (.arr n m) (vp b o) none none = some (vsl b o n n) := by
  have : ¬ n = 0 := by omega
  simp only [sliceV, vp, bnd_none, this, ↓reduceIte, vsl, add_spot, Nat.zero_mul, Nat.add_zero, Nat.sub_zero]
theorem slice_arr_both (n : Nat) (m : Bool × Nat) (b o : Nat) (j k : Int) (h : 0 ≤ j ∧ j ≤ k ∧ k ≤ n ∧ j < n) : sliceV (.arr n m) (vp b o) (some (some j)) (some (some k)) = some (vsl b (o + j.toNat * m.2) (k.toNat - j.toNat) (n - j.toNat)) := by
  have : ¬ n = j.toNat := by omega
  simp only [sliceV, vp, bnd_both n n j k ⟨h.1, h.2.1, h.2.2.1⟩, this, ↓reduceIte, vsl, add_spot]

/-! ### Known blocks -/
theorem look_same (L : Heap) (b : Nat) (o : Obj) : look ((b, o) :: L) b = some o := by simp [look]
theorem look_other (L : Heap) (b c : Nat) (o : Obj) (h : b ≠ c) : look ((b, o) :: L) c = look L c := by simp [look, h]
theorem setB_same (L : Heap) (b : Nat) (o x : Obj) : setB ((b, o) :: L) b x = (b, x) :: L := by simp [setB]
theorem setB_other (L : Heap) (b c : Nat) (o x : Obj) (h : b ≠ c) : setB ((b, o) :: L) c x = (b, o) :: setB L c x := by simp [setB, h]
theorem read_same (w0 : World) (L : Heap) (b : Nat) (o : Obj) : readB w0 ((b, o) :: L) b = some o := by simp [readB, look]
theorem read_other (w0 : World) (L : Heap) (b c : Nat) (o : Obj) (h : b ≠ c) : readB w0 ((b, o) :: L) c = readB w0 L c := by simp [readB, look, h]
theorem read_old (w0 : World) (b : Nat) : readB w0 [] b = w0.heap[b]? := (rfl)
theorem loadAt_p (m : Option (Bool × Nat)) (w0 : World) (L : Heap) (b o : Nat) : loadAtV m w0 L (vp b o) = loadV m (readB w0 L b) o := (rfl)
theorem load_all (cs : Array Value) (E : TypeId) (fz : Nat × Nat) (n : Nat) (h : cs.size = n) : loadV (some (true, n)) (some (.cells cs E fz)) 0 = some (.agg cs) := by
  subst h
  simp [loadV]
theorem size_a8 (l : List UInt8) : (a8 l).size = l.length := by simp [a8]
theorem size_a32 (l : List UInt32) : (a32 l).size = l.length := by simp [a32]
theorem load_a8 (l : List UInt8) (E : TypeId) (fz : Nat × Nat) (n i : Nat) (h : i < l.length) : loadV (some (false, n)) (some (.cells (a8 l) E fz)) i = some (v8 (l.getD i 0)) := by
  simp [loadV, a8, v8, h]
theorem load_a32 (l : List UInt32) (E : TypeId) (fz : Nat × Nat) (n i : Nat) (h : i < l.length) : loadV (some (false, n)) (some (.cells (a32 l) E fz)) i = some (v32 (l.getD i 0)) := by
  simp [loadV, a32, v32, h]
theorem load_all8 (l : List UInt8) (E : TypeId) (fz : Nat × Nat) (n : Nat) (h : l.length = n) : loadV (some (true, n)) (some (.cells (a8 l) E fz)) 0 = some (.agg (a8 l)) := load_all _ E fz n (by rw [size_a8, h])
theorem load_all32 (l : List UInt32) (E : TypeId) (fz : Nat × Nat) (n : Nat) (h : l.length = n) : loadV (some (true, n)) (some (.cells (a32 l) E fz)) 0 = some (.agg (a32 l)) := load_all _ E fz n (by rw [size_a32, h])

theorem cells_agg (cs : Array Value) : (Value.agg cs).cells = cs := (rfl)
theorem all_a8 (l : List UInt8) : (a8 l).toList.all Value.oneCell' = true := by simp [a8, Value.oneCell']
theorem all_a32 (l : List UInt32) : (a32 l).toList.all Value.oneCell' = true := by simp [a32, Value.oneCell']

theorem putC_eq (vs : List Value) : ∀ (pre mid suf : List Value), mid.length = vs.length → putC (pre ++ mid ++ suf).toArray pre.length vs = (pre ++ vs ++ suf).toArray := by
  induction vs with
  | nil =>
    intro pre mid suf h
    cases mid with
    | nil => rfl
    | cons _ _ => cases h
  | cons v r ih =>
    intro pre mid suf h
    cases mid with
    | nil => cases h
    | cons m ms =>
      simp only [List.length_cons, Nat.add_right_cancel_iff] at h
      have := ih (pre ++ [v]) ms suf h
      simp only [putC]
      have e : ((pre ++ m :: ms ++ suf).toArray.setIfInBounds pre.length v) = (pre ++ [v] ++ ms ++ suf).toArray := by
        simp
      rw [e]
      simpa using this

theorem putC_all (cs : Array Value) (vs : List Value) (h : vs.length = cs.size) : putC cs 0 vs = vs.toArray := by
  have := putC_eq vs [] cs.toList [] (by simpa using h.symm)
  simpa using this

/-- A whole variable is stored. -/
theorem store_all (n : Nat) (a : Bool) (cs old : Array Value) (E : TypeId) (h : cs.size = n ∧ old.size = n) (ho : cs.toList.all Value.oneCell' = true) :
    storeV (some (a, n)) (some (.cells old E (0, 0))) 0 (.agg cs) = some (.cells cs E (0, 0)) := by
  obtain ⟨h1, h2⟩ := h
  have hp : putC old 0 cs.toList = cs := by
    rw [putC_all _ _ (by rw [Array.length_toList, h1, h2])]
  have hz : (0 : Nat) + n ≤ old.size := by omega
  simp only [storeV, cells_agg, h1, hz, Nat.le_refl, true_or, ho, and_self, ↓reduceIte, hp]
theorem store_all8 (n : Nat) (a : Bool) (l : List UInt8) (old : Array Value) (E : TypeId) (h : l.length = n ∧ old.size = n) :
    storeV (some (a, n)) (some (.cells old E (0, 0))) 0 (.agg (a8 l)) = some (.cells (a8 l) E (0, 0)) := store_all n a _ _ E (by rw [size_a8]; exact h) (all_a8 l)
theorem store_all32 (n : Nat) (a : Bool) (l : List UInt32) (old : Array Value) (E : TypeId) (h : l.length = n ∧ old.size = n) :
    storeV (some (a, n)) (some (.cells old E (0, 0))) 0 (.agg (a32 l)) = some (.cells (a32 l) E (0, 0)) := store_all n a _ _ E (by rw [size_a32]; exact h) (all_a32 l)
/-- One cell is stored. -/
theorem store_one (a : Bool) (v : Value) (cs : Array Value) (E : TypeId) (i : Nat) (h : i < cs.size) (hv : v.cells = #[v]) (ho : v.oneCell' = true) :
    storeV (some (a, 1)) (some (.cells cs E (0, 0))) i v = some (.cells (cs.setIfInBounds i v) E (0, 0)) := by
  have h1 : i + 1 ≤ cs.size := h
  simp only [storeV, hv, List.size_toArray, List.length_cons, List.length_nil, h1, Nat.le_refl, true_or, List.all_cons, ho, List.all_nil, Bool.and_self, and_self, ↓reduceIte, putC, Nat.zero_add]
theorem a8_set (l : List UInt8) (i : Nat) (x : UInt8) : (a8 l).setIfInBounds i (v8 x) = a8 (l.set i x) := by
  simp [a8, v8, List.map_set]
theorem a32_set (l : List UInt32) (i : Nat) (x : UInt32) : (a32 l).setIfInBounds i (v32 x) = a32 (l.set i x) := by
  simp [a32, v32, List.map_set]
theorem store_a8 (a : Bool) (l : List UInt8) (E : TypeId) (i : Nat) (x : UInt8) (h : i < l.length) : storeV (some (a, 1)) (some (.cells (a8 l) E (0, 0))) i (v8 x) = some (.cells (a8 (l.set i x)) E (0, 0)) := by
  rw [store_one a _ _ E i (by rw [size_a8]; exact h) rfl rfl, a8_set]
theorem store_a32 (a : Bool) (l : List UInt32) (E : TypeId) (i : Nat) (x : UInt32) (h : i < l.length) : storeV (some (a, 1)) (some (.cells (a32 l) E (0, 0))) i (v32 x) = some (.cells (a32 (l.set i x)) E (0, 0)) := by
  rw [store_one a _ _ E i (by rw [size_a32]; exact h) rfl rfl, a32_set]
def upd (L : Heap) (b : Nat) (o : Option Obj) : Option Heap := match o with | some o => some (setB L b o) | none => none
theorem upd_some (L : Heap) (b : Nat) (o : Obj) : upd L b (some o) = some (setB L b o) := (rfl)
theorem storeAt_p (m : Option (Bool × Nat)) (L : Heap) (b o : Nat) (v : Value) : storeAtV m L (vp b o) v = upd L b (storeV m (look L b) o v) := (rfl)

/-! ### Arrays as values -/
theorem index_a8 (n : Nat) (l : List UInt8) (i : Int) (h : 0 ≤ i ∧ i < n) (hl : l.length = n) : indexV (.arr n (false, 1)) (.agg (a8 l)) (some i) = some (v8 (l.getD i.toNat 0)) := by
  have : i.toNat < l.length := by omega
  simp [indexV, h, partV, a8, v8, this]
theorem index_a32 (n : Nat) (l : List UInt32) (i : Int) (h : 0 ≤ i ∧ i < n) (hl : l.length = n) : indexV (.arr n (false, 1)) (.agg (a32 l)) (some i) = some (v32 (l.getD i.toNat 0)) := by
  have : i.toNat < l.length := by omega
  simp [indexV, h, partV, a32, v32, this]
theorem extract_t (vs : Array Value) (i : Nat) : extractV (.tuple vs) i = vs[i]? := (rfl)
theorem pick_t (a b : Value) : pickV (.bool true) a b = some a := (rfl)
theorem pick_f (a b : Value) : pickV (.bool false) a b = some b := (rfl)

/-! ### Numbers of places -/
theorem toNat_add_lit (g n : Nat) : ((g : Int) + no_index (@OfNat.ofNat Int n _)).toNat = g + @OfNat.ofNat Nat n _ := by
  show ((g : Int) + (n : Int)).toNat = g + n
  omega
theorem toNat_lit_mul (g n : Nat) : (no_index (@OfNat.ofNat Int n _) * (g : Int)).toNat = @OfNat.ofNat Nat n _ * g := by
  show ((n : Int) * (g : Int)).toNat = n * g
  rw [← Int.natCast_mul, Int.toNat_natCast]
theorem toNat_lit_mul_add (g n m : Nat) : (no_index (@OfNat.ofNat Int n _) * (g : Int) + no_index (@OfNat.ofNat Int m _)).toNat = @OfNat.ofNat Nat n _ * g + @OfNat.ofNat Nat m _ := by
  show ((n : Int) * (g : Int) + (m : Int)).toNat = n * g + m
  rw [← Int.natCast_mul, ← Int.natCast_add, Int.toNat_natCast]
theorem toNat_subL (g n : Nat) : ((g : Int) - no_index (@OfNat.ofNat Int n _)).toNat = g - @OfNat.ofNat Nat n _ := by
  show ((g : Int) - (n : Int)).toNat = g - n
  omega
theorem toNat_lit_sub (g n : Nat) : (no_index (@OfNat.ofNat Int n _) - (g : Int)).toNat = @OfNat.ofNat Nat n _ - g := by
  show ((n : Int) - (g : Int)).toNat = n - g
  omega
theorem toNat_div_lit (g n : Nat) : ((g : Int) / no_index (@OfNat.ofNat Int n _)).toNat = g / @OfNat.ofNat Nat n _ := by
  show ((g : Int) / (n : Int)).toNat = g / n
  rw [← Int.natCast_ediv, Int.toNat_natCast]
theorem toNat_mod_lit (g n : Nat) : ((g : Int) % no_index (@OfNat.ofNat Int n _)).toNat = g % @OfNat.ofNat Nat n _ := by
  show ((g : Int) % (n : Int)).toNat = g % n
  rw [← Int.natCast_emod, Int.toNat_natCast]
theorem toNat_add_cast (g n : Nat) : ((g : Int) + (n : Int)).toNat = g + n := by omega
theorem toNat_div_add (g n m : Nat) : ((g : Int) / no_index (@OfNat.ofNat Int n _) + no_index (@OfNat.ofNat Int m _)).toNat = g / @OfNat.ofNat Nat n _ + @OfNat.ofNat Nat m _ := by
  show ((g : Int) / (n : Int) + (m : Int)).toNat = g / n + m
  rw [← Int.natCast_ediv, ← Int.natCast_add, Int.toNat_natCast]
theorem toNat_mod_add (g n m : Nat) : ((g : Int) % no_index (@OfNat.ofNat Int n _) + no_index (@OfNat.ofNat Int m _)).toNat = g % @OfNat.ofNat Nat n _ + @OfNat.ofNat Nat m _ := by
  show ((g : Int) % (n : Int) + (m : Int)).toNat = g % n + m
  rw [← Int.natCast_emod, ← Int.natCast_add, Int.toNat_natCast]
theorem shl_i_64 (a : Int) (c : UInt64) (h : c.toNat < 63 ∧ 0 ≤ a ∧ a * 2 ^ c.toNat ≤ 9223372036854775807) : binV .shl (vi a) (v64 c) = some (vi (a * 2 ^ c.toNat)) := shl_i_v a _ _ h
theorem shr_i_64 (a : Int) (c : UInt64) (h : c.toNat < 64 ∧ 0 ≤ a) : binV .shr (vi a) (v64 c) = some (vi (a / 2 ^ c.toNat)) := shr_i_v a _ _ h
theorem or_i (a b : Int) (h : 0 ≤ a ∧ 0 ≤ b ∧ a ≤ 9223372036854775807 ∧ b ≤ 9223372036854775807) : binV .or (vi a) (vi b) = some (vi ((a.toNat ||| b.toNat : Nat) : Int)) := by
  obtain ⟨h1, h2, h3, h4⟩ := h
  obtain ⟨n, rfl⟩ := Int.eq_ofNat_of_zero_le h1
  obtain ⟨m, rfl⟩ := Int.eq_ofNat_of_zero_le h2
  have hn : n < 2 ^ 63 := by omega
  have hm : m < 2 ^ 63 := by omega
  have hlt := Nat.or_lt_two_pow hn hm
  simp only [binV, vi, intV, bitV, ↓reduceIte, Option.map_some, Int.toNat_natCast]
  have e : (BitVec.ofInt (IntKind.bits .i64) (n : Int) ||| BitVec.ofInt (IntKind.bits .i64) (m : Int)).toNat = n ||| m := by
    show (BitVec.ofInt 64 (n : Int) ||| BitVec.ofInt 64 (m : Int)).toNat = _
    rw [BitVec.toNat_or, BitVec.ofInt_natCast, BitVec.ofInt_natCast, BitVec.toNat_ofNat, BitVec.toNat_ofNat, Nat.mod_eq_of_lt (by omega), Nat.mod_eq_of_lt (by omega)]
  rw [e, wrap_i64 _ ⟨by omega, by omega⟩]
theorem and_i (a b : Int) (h : 0 ≤ a ∧ 0 ≤ b ∧ a ≤ 9223372036854775807 ∧ b ≤ 9223372036854775807) : binV .and (vi a) (vi b) = some (vi ((a.toNat &&& b.toNat : Nat) : Int)) := by
  obtain ⟨h1, h2, h3, h4⟩ := h
  obtain ⟨n, rfl⟩ := Int.eq_ofNat_of_zero_le h1
  obtain ⟨m, rfl⟩ := Int.eq_ofNat_of_zero_le h2
  have hlt : n &&& m ≤ n := Nat.and_le_left
  simp only [binV, vi, intV, bitV, ↓reduceIte, Option.map_some, Int.toNat_natCast]
  have e : (BitVec.ofInt (IntKind.bits .i64) (n : Int) &&& BitVec.ofInt (IntKind.bits .i64) (m : Int)).toNat = n &&& m := by
    show (BitVec.ofInt 64 (n : Int) &&& BitVec.ofInt 64 (m : Int)).toNat = _
    rw [BitVec.toNat_and, BitVec.ofInt_natCast, BitVec.ofInt_natCast, BitVec.toNat_ofNat, BitVec.toNat_ofNat, Nat.mod_eq_of_lt (by omega), Nat.mod_eq_of_lt (by omega)]
  rw [e, wrap_i64 _ ⟨by omega, by omega⟩]
theorem binX_v8_v8 (P : Program) (op : BinOp) (t : TypeId) (x : UInt8) (y : UInt8) : binX P op t (v8 x) (v8 y) = binV op (v8 x) (v8 y) := (rfl)
theorem binX_v8_v16 (P : Program) (op : BinOp) (t : TypeId) (x : UInt8) (y : UInt16) : binX P op t (v8 x) (v16 y) = binV op (v8 x) (v16 y) := (rfl)
theorem binX_v8_v32 (P : Program) (op : BinOp) (t : TypeId) (x : UInt8) (y : UInt32) : binX P op t (v8 x) (v32 y) = binV op (v8 x) (v32 y) := (rfl)
theorem binX_v8_v64 (P : Program) (op : BinOp) (t : TypeId) (x : UInt8) (y : UInt64) : binX P op t (v8 x) (v64 y) = binV op (v8 x) (v64 y) := (rfl)
theorem binX_v8_vi (P : Program) (op : BinOp) (t : TypeId) (x : UInt8) (y : Int) : binX P op t (v8 x) (vi y) = binV op (v8 x) (vi y) := (rfl)
theorem binX_v16_v8 (P : Program) (op : BinOp) (t : TypeId) (x : UInt16) (y : UInt8) : binX P op t (v16 x) (v8 y) = binV op (v16 x) (v8 y) := (rfl)
theorem binX_v16_v16 (P : Program) (op : BinOp) (t : TypeId) (x : UInt16) (y : UInt16) : binX P op t (v16 x) (v16 y) = binV op (v16 x) (v16 y) := (rfl)
theorem binX_v16_v32 (P : Program) (op : BinOp) (t : TypeId) (x : UInt16) (y : UInt32) : binX P op t (v16 x) (v32 y) = binV op (v16 x) (v32 y) := (rfl)
theorem binX_v16_v64 (P : Program) (op : BinOp) (t : TypeId) (x : UInt16) (y : UInt64) : binX P op t (v16 x) (v64 y) = binV op (v16 x) (v64 y) := (rfl)
theorem binX_v16_vi (P : Program) (op : BinOp) (t : TypeId) (x : UInt16) (y : Int) : binX P op t (v16 x) (vi y) = binV op (v16 x) (vi y) := (rfl)
theorem binX_v32_v8 (P : Program) (op : BinOp) (t : TypeId) (x : UInt32) (y : UInt8) : binX P op t (v32 x) (v8 y) = binV op (v32 x) (v8 y) := (rfl)
theorem binX_v32_v16 (P : Program) (op : BinOp) (t : TypeId) (x : UInt32) (y : UInt16) : binX P op t (v32 x) (v16 y) = binV op (v32 x) (v16 y) := (rfl)
theorem binX_v32_v32 (P : Program) (op : BinOp) (t : TypeId) (x : UInt32) (y : UInt32) : binX P op t (v32 x) (v32 y) = binV op (v32 x) (v32 y) := (rfl)
theorem binX_v32_v64 (P : Program) (op : BinOp) (t : TypeId) (x : UInt32) (y : UInt64) : binX P op t (v32 x) (v64 y) = binV op (v32 x) (v64 y) := (rfl)
theorem binX_v32_vi (P : Program) (op : BinOp) (t : TypeId) (x : UInt32) (y : Int) : binX P op t (v32 x) (vi y) = binV op (v32 x) (vi y) := (rfl)
theorem binX_v64_v8 (P : Program) (op : BinOp) (t : TypeId) (x : UInt64) (y : UInt8) : binX P op t (v64 x) (v8 y) = binV op (v64 x) (v8 y) := (rfl)
theorem binX_v64_v16 (P : Program) (op : BinOp) (t : TypeId) (x : UInt64) (y : UInt16) : binX P op t (v64 x) (v16 y) = binV op (v64 x) (v16 y) := (rfl)
theorem binX_v64_v32 (P : Program) (op : BinOp) (t : TypeId) (x : UInt64) (y : UInt32) : binX P op t (v64 x) (v32 y) = binV op (v64 x) (v32 y) := (rfl)
theorem binX_v64_v64 (P : Program) (op : BinOp) (t : TypeId) (x : UInt64) (y : UInt64) : binX P op t (v64 x) (v64 y) = binV op (v64 x) (v64 y) := (rfl)
theorem binX_v64_vi (P : Program) (op : BinOp) (t : TypeId) (x : UInt64) (y : Int) : binX P op t (v64 x) (vi y) = binV op (v64 x) (vi y) := (rfl)
theorem binX_vi_v8 (P : Program) (op : BinOp) (t : TypeId) (x : Int) (y : UInt8) : binX P op t (vi x) (v8 y) = binV op (vi x) (v8 y) := (rfl)
theorem binX_vi_v16 (P : Program) (op : BinOp) (t : TypeId) (x : Int) (y : UInt16) : binX P op t (vi x) (v16 y) = binV op (vi x) (v16 y) := (rfl)
theorem binX_vi_v32 (P : Program) (op : BinOp) (t : TypeId) (x : Int) (y : UInt32) : binX P op t (vi x) (v32 y) = binV op (vi x) (v32 y) := (rfl)
theorem binX_vi_v64 (P : Program) (op : BinOp) (t : TypeId) (x : Int) (y : UInt64) : binX P op t (vi x) (v64 y) = binV op (vi x) (v64 y) := (rfl)
theorem binX_vi_vi (P : Program) (op : BinOp) (t : TypeId) (x : Int) (y : Int) : binX P op t (vi x) (vi y) = binV op (vi x) (vi y) := (rfl)
theorem ixI_v8 (x : UInt8) : ixI (v8 x) = some (x.toNat : Int) := (rfl)
theorem one_v8 (x : UInt8) : Value.oneCell' (v8 x) = true := (rfl)
theorem cells_v8 (x : UInt8) : (v8 x).cells = #[v8 x] := (rfl)
theorem ixI_v16 (x : UInt16) : ixI (v16 x) = some (x.toNat : Int) := (rfl)
theorem one_v16 (x : UInt16) : Value.oneCell' (v16 x) = true := (rfl)
theorem cells_v16 (x : UInt16) : (v16 x).cells = #[v16 x] := (rfl)
theorem ixI_v32 (x : UInt32) : ixI (v32 x) = some (x.toNat : Int) := (rfl)
theorem one_v32 (x : UInt32) : Value.oneCell' (v32 x) = true := (rfl)
theorem cells_v32 (x : UInt32) : (v32 x).cells = #[v32 x] := (rfl)
theorem ixI_v64 (x : UInt64) : ixI (v64 x) = some (x.toNat : Int) := (rfl)
theorem one_v64 (x : UInt64) : Value.oneCell' (v64 x) = true := (rfl)
theorem cells_v64 (x : UInt64) : (v64 x).cells = #[v64 x] := (rfl)
theorem ixI_vi (x : Int) : ixI (vi x) = some x := (rfl)
theorem one_vi (x : Int) : Value.oneCell' (vi x) = true := (rfl)
theorem cells_vi (x : Int) : (vi x).cells = #[vi x] := (rfl)
end Go.Sx
end
namespace Go.Sx
open Go
section
variable {P : Program} {w0 : World} {f : Fr} {L : Heap} {N : Fr → Heap → Prop} {ops : Array Oper} {rest : List Oper} {md : Md}
  {d : Option Tmp} {ty : TypeId} {ps : String} {af : Array Edge} {g : Option (Nat × Bool)}
/-- A call whose callee turns one known block. -/
theorem Ow.callM {l : List Operand} {ts : Array TypeId} {k : FuncId} {b : Nat} {v : Value} {o : Obj} {md' : Md} (he : md.turn = some md')
    (hs : skipped ops f ⟨d, .call ⟨.value (.func k), l.toArray, ts⟩, ty, ps, af, g⟩ = false)
    (hk : ∀ a w, (callFunc k a).run P w = .ok (.enter k a) w) (hb : b ∈ keys L)
    (hc : ∀ w, Hp w0 L w → Rets P k (l.map (ev f)).toArray w (fun v' D => ∃ o', D = [(b, o')] ∧ v' = v ∧ o' = o))
    (hn : Ow P w0 ops md' rest (putF f d v) (setB L b o) N) :
    Ow P w0 ops md (⟨d, .call ⟨.value (.func k), l.toArray, ts⟩, ty, ps, af, g⟩ :: rest) f L N :=
  Ow.callF (S := fun _ v' D => ∃ o', D = [(b, o')] ∧ v' = v ∧ o' = o) he hs hk hc (by
    rintro _ _ _ - - ⟨_, rfl, rfl, rfl⟩
    exact ⟨_, Mrg.set hb, hn⟩)
end

/-- The cells of a slice that is written out. -/
def sliceB (P : Program) (t : TypeId) (len : Nat) (parts : List (Nat × Value)) : Option (TypeId × Array Value) :=
  match P.underlying t with
  | some (.slice e) => match aggT P e with
    | some m => if len * m.2 > 2 ^ 24 then none else
      match (if len * m.2 = 0 then some #[] else (zeroV P e).map Value.cells) with
      | some zero => (Instr.fill (fun i => some (i * m.2, m.2)) ((Array.range (len * m.2)).map (zero[· % zero.size]!)) parts).map fun c => (e, c)
      | none => none
    | none => none
  | _ => none
theorem run_buildSlice {P : Program} {t e : TypeId} {len : Nat} {parts : Array (Nat × Value)} {cells : Array Value} (h : sliceB P t len parts.toList = some (e, cells)) (w : World) :
    (Instr.buildSlice t len parts).run P w = .ok (vsl w.heap.size 0 len len) (w.alloc (.cells cells e)) := by
  unfold sliceB at h
  split at h
  · rename_i el hu
    split at h
    · rename_i m hm
      split at h
      · cases h
      · rename_i hbig
        split at h
        · rename_i zero hz
          cases hf : Instr.fill (fun i => some (i * m.2, m.2)) ((Array.range (len * m.2)).map (zero[· % zero.size]!)) parts.toList with
          | none => rw [hf] at h; cases h
          | some c =>
            rw [hf] at h
            cases h
            simp only [Instr.buildSlice, Sem.run_bind, run_underlying hu w, Result.andThen_ok, run_sizeOf hm w, hbig, if_false]
            split at hz
            · rename_i h0
              cases hz
              have e1 : ∀ (k : Array Value → World → Result Value), (Sem.run P (pure (#[] : Array Value)) w).andThen k = k #[] w := fun _ => rfl
              simp only [h0, if_true] at hf ⊢
              rw [Sem.run_bind, e1]
              simp only [hf, Sem.run_bind]
              rfl
            · rename_i h0
              cases hzv : zeroV P e with
              | none => rw [hzv] at hz; cases hz
              | some z =>
                rw [hzv] at hz
                cases hz
                simp only [h0, if_false, Sem.run_bind, run_zeroV hzv w, Result.andThen_ok, Sem.run_pure, hf]
                rfl
        · cases h
    · cases h
  · cases h
section
variable {P : Program} {w0 : World} {f : Fr} {L : Heap} {N : Fr → Heap → Prop} {ops : Array Oper} {rest : List Oper} {md : Md}
  {d : Option Tmp} {ty : TypeId} {ps : String} {af : Array Edge} {g : Option (Nat × Bool)}
theorem Ow.buildSlice {t e : TypeId} {len : Nat} {parts : Array (Nat × Operand)} (cells : Array Value) {md' : Md} (he : md.turn = some md') (hs : skipped ops f ⟨d, .buildSlice t len parts, ty, ps, af, g⟩ = false)
    (hv : sliceB P t len (parts.toList.map fun p => (p.1, ev f p.2)) = some (e, cells))
    (hn : ∀ b, Above L b → w0.heap.size ≤ b → Ow P w0 ops md' rest (putF f d (vsl b 0 len len)) (L ++ [(b, .cells cells e)]) N) :
    Ow P w0 ops md (⟨d, .buildSlice t len parts, ty, ps, af, g⟩ :: rest) f L N := by
  refine Ow.step he rfl hs fun w hw => .inl ⟨vsl w.heap.size 0 len len, w.alloc (.cells cells e), _, ?_, hw.alloc _, hn _ (above_of fun b hb => hw.lt hb) hw.size⟩
  have h' : sliceB P t len (parts.map fun (i, x) => (i, ev f x)).toList = some (e, cells) := by
    rw [Array.toList_map]; exact hv
  simp only [execOp, Sem.run_bind, run_buildSlice h' w, Result.andThen_ok]
  rfl
end
/-! ### '==' of arrays of bytes -/
theorem eqItems_all {f : Nat → Option Bool} {g : Nat → Bool} (is : List Nat) (h : ∀ i, i ∈ is → f i = some (g i)) : eqItemsV f is = some (is.all g) := by
  induction is with
  | nil => rfl
  | cons i r ih =>
    unfold eqItemsV
    rw [h i List.mem_cons_self, List.all_cons]
    cases g i
    · rfl
    · simpa using ih fun j hj => h j (List.mem_cons_of_mem _ hj)
theorem all_getD_eq (l l' : List UInt8) (n : Nat) (h : l.length = n) (h' : l'.length = n) : ((List.range n).all fun i => l.getD i 0 == l'.getD i 0) = (l == l') := by
  rw [Bool.eq_iff_iff, List.all_eq_true, beq_iff_eq]
  constructor
  · intro ha
    apply List.ext_getElem (by omega)
    intro i h1 h2
    have := ha i (List.mem_range.2 (by omega))
    rw [beq_iff_eq, List.getD_eq_getElem?_getD, List.getD_eq_getElem?_getD, List.getElem?_eq_getElem h1, List.getElem?_eq_getElem h2] at this
    exact this
  · rintro rfl i _
    simp
theorem eqD_a8 {P : Program} {t e : TypeId} {n d : Nat} (hu : P.underlying t = some (.array n e)) (he : P.underlying e = some (.int .u8)) (hm : aggT P e = some (false, 1)) (l l' : List UInt8) (hl : l.length = n) (hl' : l'.length = n) :
    eqD P (d + 2) t (.agg (a8 l)) (.agg (a8 l')) = some (l == l') := by
  rw [← all_getD_eq l l' n hl hl']
  unfold eqD
  rw [hu]
  simp only [hm]
  apply eqItems_all
  intro i hi
  have hi := List.mem_range.1 hi
  have p : ∀ (x : List UInt8), x.length = n → partV (false, 1) (a8 x) (i * 1) = some (v8 (x.getD i 0)) := by
    intro x hx
    simp [partV, a8, v8, hx, hi]
  simp only [eqPartV, p l hl, p l' hl']
  unfold eqD
  rw [he]
  simp only [v8, ↓reduceIte, Option.some.injEq]
  rw [Bool.eq_iff_iff, beq_iff_eq, beq_iff_eq, ← UInt8.toNat_inj]
  omega
theorem binX_a8 {P : Program} {t e : TypeId} {n : Nat} (hu : P.underlying t = some (.array n e)) (he : P.underlying e = some (.int .u8)) (hm : aggT P e = some (false, 1)) (hg : P.eqGuardType P.depth t = false) (l l' : List UInt8) (hl : l.length = n ∧ l'.length = n) :
    binX P .eql t (.agg (a8 l)) (.agg (a8 l')) = some (.bool (l == l')) := by
  unfold binX eqX
  rw [hg]
  simp [plainV, eqD_a8 (d := 6) hu he hm l l' hl.1 hl.2]
theorem binX_a8n {P : Program} {t e : TypeId} {n : Nat} (hu : P.underlying t = some (.array n e)) (he : P.underlying e = some (.int .u8)) (hm : aggT P e = some (false, 1)) (hg : P.eqGuardType P.depth t = false) (l l' : List UInt8) (hl : l.length = n ∧ l'.length = n) :
    binX P .neq t (.agg (a8 l)) (.agg (a8 l')) = some (.bool (!(l == l'))) := by
  unfold binX eqX
  rw [hg]
  simp [plainV, eqD_a8 (d := 6) hu he hm l l' hl.1 hl.2]

theorem tup2_0 (a b : Value) : (#[a, b] : Array Value)[0]? = some a := (rfl)
theorem tup2_1 (a b : Value) : (#[a, b] : Array Value)[1]? = some b := (rfl)
theorem tup3_0 (a b c : Value) : (#[a, b, c] : Array Value)[0]? = some a := (rfl)
theorem tup3_1 (a b c : Value) : (#[a, b, c] : Array Value)[1]? = some b := (rfl)
theorem tup3_2 (a b c : Value) : (#[a, b, c] : Array Value)[2]? = some c := (rfl)

/-- A slice of texts in a world. -/
structure StrS (w : World) (v : Value) (l : List (List UInt8)) (b off : Nat) (arr : Array Value) (E : TypeId) (fz : Nat × Nat) : Prop where
  len : ∀ m, lenV (.sl m) v = some (vi l.length)
  idx : ∀ m (k : Nat), k < l.length → indexAddrV (.sl m) v (some (k : Int)) = some (vp b (off + k * m.2))
  has : 0 < l.length → w.heap[b]? = some (.cells arr E fz)
  get : ∀ k, k < l.length → arr[off + k]? = some (vs (l.getD k []))
theorem StrS.sl {w : World} {l : List (List UInt8)} {b off n c : Nat} {arr : Array Value} {E : TypeId} {fz : Nat × Nat} (hn : n = l.length)
    (has : w.heap[b]? = some (.cells arr E fz)) (get : ∀ k, k < l.length → arr[off + k]? = some (vs (l.getD k []))) : StrS w (vsl b off n c) l b off arr E fz := by
  subst hn
  exact ⟨fun _ => rfl, fun m k h => by rw [indexAddr_sl _ _ _ _ _ _ (by omega)]; simp, fun _ => has, get⟩
theorem StrS.none (w : World) (n c : Nat) (hn : n = 0) : StrS w (.slice none n c) [] 0 0 #[] 0 (0, 0) := by
  subst hn
  exact ⟨fun _ => rfl, fun _ _ h => absurd h (Nat.not_lt_zero _), fun h => absurd h (Nat.not_lt_zero _), fun _ h => absurd h (Nat.not_lt_zero _)⟩
theorem StrS.old {w w' : World} {v : Value} {l : List (List UInt8)} {b off : Nat} {arr : Array Value} {E : TypeId} {fz : Nat × Nat} {L : Heap} (h : StrS w v l b off arr E fz) (hw : Hp w L w') (hb : 0 < l.length → b ∉ keys L) : StrS w' v l b off arr E fz := by
  refine ⟨h.len, h.idx, fun h0 => ?_, h.get⟩
  rw [hw.old b (Array.getElem?_eq_some_iff.1 (h.has h0)).1 (hb h0)]
  exact h.has h0
theorem loadV_one (cs : Array Value) (E : TypeId) (fz : Nat × Nat) (n i : Nat) : loadV (some (false, n)) (some (.cells cs E fz)) i = cs[i]? := (rfl)
end Go.Sx
namespace Go.Sx
open Go

/-- The rest of a region that asks the tape: n operations, of which these are listed. -/
def OwK (P : Program) (w0 : World) (ops : Array Oper) (n : Nat) (listed : List Bool) (f : Fr) (L : Heap) (N : Fr → Heap → Prop) : Prop :=
  ∀ w, Hp w0 L w → wpAny P .any ops (postN w0 N) n listed.toArray (act f) w

section
variable {P : Program} {w0 : World} {f : Fr} {L : Heap} {N : Fr → Heap → Prop} {K : Kont} {l : List Oper} {n : Nat} {listed : List Bool}

theorem Cw.regionK {id : Nat} (m : Nat) (hl : l.length = m) (hm : P.follows .mixedOrders = true) (h : OwK P w0 l.toArray m (List.replicate m false) f L (K .normal)) : Cw P w0 (.region id l.toArray true) f L K := fun w hw => by
  subst hl
  refine wp_mono (wp_region_any hm ?_) fun _ _ _ h => postN_post h
  have := h _ hw.drew
  simpa using this

theorem OwK.done {ops : Array Oper} (hr : Region.ready .any ops listed.toArray = []) (h : N f L) : OwK P w0 ops n listed f L N :=
  fun w hw => wpAny_done hr ⟨rfl, rfl, L, hw, by simpa [act] using h⟩ n

theorem upon_mono {o : Oper} {a : Act} {next next' : Act → World → Prop} {Q Q' : Exit → Act → World → Prop} (hn : ∀ a w, next a w → next' a w) (hQ : ∀ e a w, e ≠ .normal → Q e a w → False) {r : Result Next}
    (h : o.upon P a next Q r) : o.upon P a next' Q' r := by
  cases r with
  | ok x w' =>
    cases x <;> simp only [Oper.upon] at h ⊢ <;>
      first
        | exact hn _ _ h
        | exact Calls.mono h (fun e w'' he => by
            cases e <;> first | exact hn _ _ he | exact (hQ _ _ _ (by simp) he).elim | (obtain ⟨a, w, h⟩ := he; exact (hQ _ _ _ (by simp) h).elim))
        | exact Rows.mono h (fun _ _ he => hn _ _ he)
        | exact h.elim
  | halt x w' =>
    cases x <;> simp only [Oper.upon] at h ⊢ <;> first | exact (hQ _ _ _ (by simp) h).elim | exact h.elim

theorem postN_no {N : Fr → Heap → Prop} {e : Exit} {a : Act} {w : World} (he : e ≠ .normal) (h : postN w0 N e a w) : False := he h.1

/-- One operation, by the calculus for a list. -/
theorem wpOp_of {ops : Array Oper} {k : Nat} {o : Oper} (hk : ops[k]? = some o) {X : Act → World → Prop}
    (h : Ow P w0 ops .seq [o] f L (fun f' L' => ∀ w, Hp w0 L' w → X (act f') w)) {w : World} (hw : Hp w0 L w) : wpOp P ops (postN w0 N) k X (act f) w := by
  have h1 := h w hw
  unfold wpList at h1
  unfold wpOp
  simp only [hk]
  have hX : ∀ a w, wpList P ops (postN w0 fun f' L' => ∀ w, Hp w0 L' w → X (act f') w) [] a w → X a w := by
    intro a w' hx
    obtain ⟨-, hd, L', hp, hh⟩ := (show postN w0 _ _ a w' from hx)
    have := hh w' hp
    obtain ⟨t, d⟩ := a
    simp only at hd
    subst hd
    simpa [act] using this
  cases hwn : Region.wanted o (yielded ops (act f).tmps) with
  | true =>
    rw [hwn] at h1
    simp only [↓reduceIte] at h1 ⊢
    rcases h1 with h1 | ⟨-, a, w', h1⟩
    · exact .inl (upon_mono hX (fun e a w he h => postN_no he h) h1)
    · exact (postN_no (by simp) h1).elim
  | false =>
    rw [hwn] at h1
    simp only [Bool.false_eq_true, ↓reduceIte] at h1 ⊢
    exact hX _ _ h1

theorem wpList_mono1 {ops : Array Oper} {o : Oper} {N N' : Fr → Heap → Prop} (hN : ∀ f L, N f L → N' f L) {w : World} {a : Act} (h : wpList P ops (postN w0 N) [o] a w) : wpList P ops (postN w0 N') [o] a w := by
  have hm : ∀ a w, postN w0 N .normal a w → postN w0 N' .normal a w := fun a w ⟨h1, h2, L', h3, h4⟩ => ⟨h1, h2, L', h3, hN _ _ h4⟩
  unfold wpList at h ⊢
  cases hwn : Region.wanted o (yielded ops a.tmps) with
  | true =>
    rw [hwn] at h
    simp only [↓reduceIte] at h ⊢
    rcases h with h | ⟨-, a, w', h1⟩
    · exact .inl (upon_mono (fun a w h => hm a w h) (fun e a w he h => postN_no he h) h)
    · exact (postN_no (by simp) h1).elim
  | false =>
    rw [hwn] at h
    simp only [Bool.false_eq_true, ↓reduceIte] at h ⊢
    exact hm _ _ h

theorem set_toArray (l : List Bool) (i : Nat) : l.toArray.setIfInBounds i true = (l.set i true).toArray := by simp

/-- One operation alone is next. -/
theorem OwK.one (k : Nat) (o : Oper) (hr : Region.ready .any l.toArray listed.toArray = [k]) (hk : nthO l k = some o)
    (h : Ow P w0 l.toArray .seq [o] f L (fun f' L' => OwK P w0 l.toArray n (listed.set k true) f' L' N)) : OwK P w0 l.toArray (n + 1) listed f L N := by
  intro w hw
  refine wpAny_all hr (by simp) ?_
  intro i hi
  simp only [List.mem_singleton] at hi
  subst hi
  rw [set_toArray]
  exact wpOp_of (by rw [nthO_eq] at hk; simpa using hk) h hw

/-- Two operations may be next. -/
theorem OwK.two (i j : Nat) (oi oj : Oper) (hr : Region.ready .any l.toArray listed.toArray = [i, j]) (hi : nthO l i = some oi) (hj : nthO l j = some oj)
    (h1 : Ow P w0 l.toArray .seq [oi] f L (fun f' L' => OwK P w0 l.toArray n (listed.set i true) f' L' N))
    (h2 : Ow P w0 l.toArray .seq [oj] f L (fun f' L' => OwK P w0 l.toArray n (listed.set j true) f' L' N)) : OwK P w0 l.toArray (n + 1) listed f L N := by
  intro w hw
  refine wpAny_all hr (by simp) ?_
  intro k hk
  rw [set_toArray]
  simp only [List.mem_cons, List.not_mem_nil, or_false] at hk
  rcases hk with rfl | rfl
  · exact wpOp_of (by rw [nthO_eq] at hi; simpa using hi) h1 hw
  · exact wpOp_of (by rw [nthO_eq] at hj; simpa using hj) h2 hw

/-- Operations that can be carried out at once: their values hang on their operands alone. -/
def chkK (P : Program) (l : List Oper) : List Nat → List Bool → Option (List Bool)
  | [], listed => some listed
  | k :: is, listed =>
    match nthO l k with
    | some o => if (Region.ready .any l.toArray listed.toArray).contains k && Region.free .any l.toArray listed.toArray k && pureK P o.op then chkK P l is (listed.set k true) else none
    | none => none

theorem OwK.runs {k : Md → List Oper → Fr → Heap → Prop} (hns : Region.noSelect l.toArray = true) : ∀ (is : List Nat) {listed listed' : List Bool} {f : Fr} {L : Heap}, chkK P l is listed = some listed' →
    (∀ md r f' L', k md r f' L' → r = [] ∧ OwK P w0 l.toArray n listed' f' L' N) → vcL P w0 l.toArray false .seq (pickL l is) f L k → OwK P w0 l.toArray (is.length + n) listed f L N
  | [], listed, listed', f, L, hc, hk, h => by
    cases hc
    rw [List.length_nil, Nat.zero_add]
    exact (hk _ _ _ _ h).2
  | i :: is, listed, listed', f, L, hc, hk, h => by
    unfold chkK at hc
    rw [pickL_cons] at h
    cases ho : nthO l i with
    | none => rw [ho] at hc; cases hc
    | some o =>
      rw [ho] at hc h
      simp only at hc
      split at hc
      · rename_i hcc
        simp only [Bool.and_eq_true] at hcc
        obtain ⟨⟨hc1, hc2⟩, hc3⟩ := hcc
        rw [consO_some] at h
        have hoi : l.toArray[i]? = some o := by rw [nthO_eq] at ho; simpa using ho
        unfold vcL at h
        rw [List.length_cons, show is.length + 1 + n = (is.length + n) + 1 by omega]
        cases hs : skipped l.toArray f o with
        | true =>
          rw [hs] at h
          have hw0 : Region.wanted o (yielded l.toArray (act f).tmps) = false := by rw [wanted_eq, hs]; rfl
          intro w hw
          refine wpAny_take (v := undef) hoi hns hc2 hc1 (fun c a w h => postN_panic h) (.inr ⟨hw0, rfl⟩) ?_
          rw [act_put, set_toArray]
          exact OwK.runs hns is hc hk h w hw
        | false =>
          rw [hs] at h
          have hw0 : Region.wanted o (yielded l.toArray (act f).tmps) = true := by rw [wanted_eq, hs]; rfl
          simp only [ib, vcB] at h
          split at h
          · have hrd : rdOk .seq f o.op = true := by
              cases o.op <;> rfl
            rw [hrd] at h
            simp only at h
            cases hv : evalV P w0 L f o.op with
            | none => rw [hv] at h; exact absurd (hk _ _ _ _ h).1 (by simp)
            | some v =>
              rw [hv] at h
              intro w hw
              refine wpAny_take (v := v) hoi hns hc2 hc1 (fun c a w h => postN_panic h) (.inl ⟨hw0, fun w => ?_⟩) ?_
              · rw [act_eval']; exact run_evalV (Hp.refl w) (evalV_pure hc3 hv w)
              · rw [act_put, set_toArray]
                exact OwK.runs hns is hc hk h w hw
          · exact absurd (hk _ _ _ _ h).1 (by simp)
          · exact absurd (hk _ _ _ _ h).1 (by simp)
      · cases hc

theorem OwK.run (is : List Nat) (listed' : List Bool) (n : Nat) {m : Nat} (hm : m = is.length + n) (hns : Region.noSelect l.toArray = true) (hc : chkK P l is listed = some listed')
    (h : ∀ k : Md → List Oper → Fr → Heap → Prop, (∀ md f L, OwK P w0 l.toArray n listed' f L N → k md [] f L) → nl (pickL l is) fun l' => vcL P w0 l.toArray false .seq l' f L k) : OwK P w0 l.toArray m listed f L N := by
  subst hm
  refine OwK.runs (k := fun _ r f' L' => r = [] ∧ OwK P w0 l.toArray n listed' f' L' N) hns is hc (fun _ _ _ _ h => h) ?_
  exact h _ fun _ _ _ h => ⟨rfl, h⟩

/-- An operation that turns nothing of what is read later, where the order is open. -/
theorem Ow.soft {ops : Array Oper} {R is ts : List Nat} {k : Nat} {o : Oper} {rest : List Oper} (hp : pureK P o.op = false) (hr0 : readK o.op = false) (hkt : ts.contains k = false)
    (h : Ow P w0 ops .seq [o] f L (fun f' L' => (∀ b, b ∈ R → readB w0 L' b = readB w0 L b) ∧ Ow P w0 ops (.sof R is ts) rest f' L' N)) : Ow P w0 ops (.sof R (k :: is) ts) (o :: rest) f L N := by
  intro listed hF ht w hw
  obtain ⟨k', is', hki, hk, hF', hpt, hc⟩ := hF.cons
  cases hki
  have hit : k ∉ ts := by simpa using hkt
  have hr : Region.ready .any ops listed = [k] := by
    rcases hc with hc | ⟨_, _, _, hc | ⟨hc, _⟩⟩
    · exact hc
    · rw [hp] at hc; cases hc
    · rw [hr0] at hc; cases hc
  refine ⟨fun _ => SR.of hw, (fun h => by rw [hr] at h; cases h), ?_⟩
  intro i hi
  rw [hr, List.mem_singleton] at hi
  subst hi
  refine wpOp_of hk (X := wpAnyG P ops (postN w0 N) ts (SR w0 R L) rest.length (listed.setIfInBounds i true)) ?_ hw
  intro w' hw'
  have h1 := h w' hw'
  refine wpList_mono1 ?_ h1
  rintro f' L' ⟨hS, hO⟩ w'' hw''
  have e : SR w0 R L = SR w0 R L' := by
    funext v
    unfold SR
    apply propext
    constructor
    · intro hh b hb o ho; exact hh b hb o (by rw [← hS b hb]; exact ho)
    · intro hh b hb o ho; exact hh b hb o (by rw [hS b hb]; exact ho)
  rw [e]
  exact hO _ hF' (still_no hit ht) w'' hw''

/-- A region that asks the tape: by one order, where what is turned is not read later. -/
theorem Cw.regionS {id : Nat} (R is ts : List Nat) (hm : P.follows .mixedOrders = true) (hB : orderOk P l is ts = true) (hl : is.map (fun i : Nat => l[i]?) = (pickL l is).map some)
    (h : nl (pickL l is) fun l' => Ow P w0 l.toArray (.sof R is ts) l' f L (K .normal)) : Cw P w0 (.region id l.toArray true) f L K := by
  revert hl h
  generalize pickL l is = l'
  intro hl h w hw
  simp only [orderOk, Bool.and_eq_true, beq_iff_eq, List.all_eq_true, decide_eq_true_eq] at hB
  obtain ⟨⟨⟨h1, h2⟩, h3⟩, h4⟩ := hB
  have hlen : is.length = l'.length := by have := congrArg List.length hl; simpa using this
  refine wp_mono (wp_region_any hm ?_) fun _ _ _ h => postN_post h
  have hF : Fits P l.toArray ts is l' (Array.replicate l.length false) := ⟨hlen, fun j => by
    have := congrArg (·[j]?) hl
    simp only [List.getElem?_map] at this
    cases hj : is[j]? with
    | none =>
      rw [hj] at this
      simp only [Option.map_none] at this
      cases hj' : l'[j]? with
      | none => rfl
      | some x => rw [hj'] at this; cases this
    | some i =>
      rw [hj] at this
      simp only [Option.map_some] at this
      cases hj' : l'[j]? with
      | none => rw [hj'] at this; cases this
      | some x =>
        rw [hj'] at this
        simp only [Option.map_some, Option.some.injEq] at this
        simp [this], h1, h4⟩
  have := (h : Ow P w0 l.toArray (.sof R is ts) l' f L (K .normal)) (Array.replicate l.length false) hF (fun t ht => by have := h3 t ht; simp [this]) _ hw.drew
  rw [← hlen, h2] at this
  have := wpAny_of_G _ _ _ _ this
  simpa using this

/-- The check of an order from here. -/
def restOk (P : Program) (l : List Oper) (is ts : List Nat) (listed : List Bool) : Bool :=
  Region.noSelect l.toArray && orderB P l.toArray ts is listed.toArray && ts.any fun t => listed.toArray.getD t true
/-- From here in one order. -/
theorem OwK.rest (is ts : List Nat) {m : Nat} (hm : m = is.length) (hB : restOk P l is ts listed = true) (hl : is.map (fun i : Nat => l[i]?) = (pickL l is).map some)
    (h : nl (pickL l is) fun l' => Ow P w0 l.toArray (.any is ts) l' f L N) : OwK P w0 l.toArray m listed f L N := by
  subst hm
  revert hl h
  generalize pickL l is = l'
  intro hl h w hw
  simp only [restOk, Bool.and_eq_true] at hB
  obtain ⟨⟨h1, h4⟩, h5⟩ := hB
  have hlen : is.length = l'.length := by have := congrArg List.length hl; simpa using this
  have hF : Fits P l.toArray ts is l' listed.toArray := ⟨hlen, fun j => by
    have := congrArg (·[j]?) hl
    simp only [List.getElem?_map] at this
    cases hj : is[j]? with
    | none =>
      rw [hj] at this
      simp only [Option.map_none] at this
      cases hj' : l'[j]? with
      | none => rfl
      | some x => rw [hj'] at this; cases this
    | some i =>
      rw [hj] at this
      simp only [Option.map_some] at this
      cases hj' : l'[j]? with
      | none => rw [hj'] at this; cases this
      | some x =>
        rw [hj'] at this
        simp only [Option.map_some, Option.some.injEq] at this
        simp [this], h1, h4⟩
  obtain ⟨t, ht, ht2⟩ := List.any_eq_true.1 h5
  rw [hlen]
  exact (h : Ow P w0 l.toArray (.any is ts) l' f L N) listed.toArray hF ⟨t, ht, ht2⟩ w hw
end
/-! ### Small slices of texts -/
theorem StrS.lit {w : World} {b n c : Nat} {E : TypeId} {fz : Nat × Nat} {arr : Array Value} (l : List (List UInt8)) (hn : n = l.length) (ha : arr = (l.map vs).toArray) (has : w.heap[b]? = some (.cells arr E fz)) : StrS w (vsl b 0 n c) l b 0 arr E fz :=
  StrS.sl hn has (by intro k hk; rw [ha, Nat.zero_add, List.getElem?_toArray, List.getElem?_map, List.getD_eq_getElem?_getD, List.getElem?_eq_getElem hk]; rfl)
end Go.Sx
namespace Go.Sx
open Go

/-- As Q; by a goto to a label: J of it. -/
def exitJ (J : Nat → Act → World → Prop) (Q : Exit → Act → World → Prop) : Exit → Act → World → Prop
  | .goto l, a, w => J l a w
  | e, a, w => Q e a w

theorem wp_scope_all {P : Program} {a : Act} {w : World} {Q : Exit → Act → World → Prop} {c : Code} (J : Nat → Nat → Act → World → Prop)
    (first : c.wp P (exitJ (fun l a w => ∃ n, J n l a w) Q) a w)
    (pass : ∀ n l a w, J n l a w → ∃ rest, findLabel c l = some rest ∧ rest.wp P (exitJ (fun l' a' w' => ∃ n', n' < n ∧ J n' l' a' w') Q) a w) : (Code.scope c).wp P Q a w := by
  intro b k cs
  have hg : ∀ {l rest}, findLabel c l = some rest → gotoIn l (.inScope c :: k) = some (.code rest :: .inScope c :: k) := by intro l rest hf; simp [gotoIn, hf]
  have key : ∀ n l a w, J n l a w → ∃ rest, findLabel c l = some rest ∧ ∃ e a' w', Q e a' w' ∧ Arrives P (lone (b.at a (.code rest :: .inScope c :: k)) cs w) b k cs e a' w' := by
    intro n
    induction n using Nat.strongRecOn with
    | _ n ih =>
      intro l a w hJ
      obtain ⟨rest, hf, hp⟩ := pass n l a w hJ
      refine ⟨rest, hf, ?_⟩
      obtain ⟨e, a₁, w₁, hq, harr⟩ := hp b (.inScope c :: k) cs
      cases e with
      | normal => exact ⟨.normal, a₁, w₁, hq, Steps.trans harr (.one step_inScope)⟩
      | exit id => exact ⟨.exit id, a₁, w₁, hq, fun k' hk => harr k' (by simp [exitTo, hk])⟩
      | goto l' =>
        obtain ⟨n', hlt, hJ'⟩ := hq
        obtain ⟨rest', hf', e₂, a₂, w₂, hq₂, harr₂⟩ := ih n' hlt l' a₁ w₁ hJ'
        exact ⟨e₂, a₂, w₂, hq₂, .of_steps (harr _ (hg hf')) harr₂⟩
      | ret => exact ⟨_, a₁, w₁, hq, harr⟩
      | panic ch => exact ⟨_, a₁, w₁, hq, harr⟩
      | outgrown => exact ⟨_, a₁, w₁, hq, harr⟩
  obtain ⟨e, a₁, w₁, hq, harr⟩ := first b (.inScope c :: k) cs
  cases e with
  | normal => exact ⟨.normal, a₁, w₁, hq, .head step_scope (Steps.trans harr (.one step_inScope))⟩
  | exit id => exact ⟨.exit id, a₁, w₁, hq, fun k' hk => .head step_scope (harr k' (by simp [exitTo, hk]))⟩
  | goto l' =>
    obtain ⟨n, hJ'⟩ := hq
    obtain ⟨rest', hf', e₂, a₂, w₂, hq₂, harr₂⟩ := key n l' a₁ w₁ hJ'
    exact ⟨e₂, a₂, w₂, hq₂, .of_steps (.head step_scope (harr _ (hg hf'))) harr₂⟩
  | ret => exact ⟨_, a₁, w₁, hq, .of_steps (.one step_scope) harr⟩
  | panic ch => exact ⟨_, a₁, w₁, hq, .of_steps (.one step_scope) harr⟩
  | outgrown => exact ⟨_, a₁, w₁, hq, .of_steps (.one step_scope) harr⟩

def scopeK (A : Nat → Fr → Heap → Prop) (K : Kont) : Kont
  | .normal => K .normal
  | .exit i => K (.exit i)
  | .goto i => A i
  | .ret => K .ret
  | .panic c => K (.panic c)
  | .outgrown => K .outgrown

/-- What must hold at a jump. -/
def Jump {G : Type} (lab : G → Nat) (M : List Nat) (S : G → List (Nat × Value)) (H : G → Heap) (J B : G → Prop) (f : Fr) (i : Nat) (f' : Fr) (L' : Heap) : Prop :=
  ∃ g', lab g' = i ∧ B g' ∧ J g' ∧ L' = H g' ∧ f' = pin (overFrom (getF f') M 0 f) (S g')
theorem Jump.mk {G : Type} {lab : G → Nat} {M : List Nat} {S : G → List (Nat × Value)} {H : G → Heap} {J B : G → Prop} {f : Fr} {i : Nat} {f' : Fr} {L' : Heap} (g' : G) (hl : lab g' = i)
    (hB : B g') (hJ : J g') (hL : L' = H g') (hf : f' = pin (overFrom (getF f') M 0 f) (S g')) : Jump lab M S H J B f i f' L' := ⟨g', hl, hB, hJ, hL, hf⟩

section
variable {P : Program} {w0 : World} {f : Fr} {L : Heap} {K : Kont} {A : Nat → Fr → Heap → Prop}
theorem Cw.scopeG {c : Code} {G : Type} (lab : G → Nat) (M : List Nat) (S : G → List (Nat × Value)) (H : G → Heap) (J : G → Prop) (μ : G → Nat)
    (first : Cw P w0 c f L (scopeK (Jump lab M S H J (fun _ => True) f) K))
    (pass : ∀ (g : G) (j : Nat → Value), J g → ∃ rest, findLabel c (lab g) = some rest ∧ Cw P w0 rest (pin (overFrom j M 0 f) (S g)) (H g) (scopeK (Jump lab M S H J (fun g' => μ g' < μ g) f) K)) : Cw P w0 (.scope c) f L K := by
  intro w hw
  refine wp_scope_all (fun n l a w => ∃ g j, lab g = l ∧ μ g = n ∧ J g ∧ a = act (pin (overFrom j M 0 f) (S g)) ∧ Hp w0 (H g) w) ?_ ?_
  · refine wp_mono (first w hw) ?_
    rintro e a w' ⟨hd, L', hp, k⟩
    cases e with
    | goto i =>
      obtain ⟨g', h1, -, h2, h3, h4⟩ := k
      subst h3
      refine ⟨μ g', g', getF a.tmps.toList, h1, rfl, h2, ?_, hp⟩
      rw [← h4]
      exact act_of hd
    | _ => exact ⟨hd, L', hp, k⟩
  · rintro n l a w' ⟨g, j, h1, h2, h3, rfl, hp⟩
    obtain ⟨rest, hf, hc⟩ := pass g j h3
    subst h1
    refine ⟨rest, hf, ?_⟩
    refine wp_mono (hc w' hp) ?_
    rintro e a w' ⟨hd, L', hp, k⟩
    cases e with
    | goto i =>
      obtain ⟨g', h1, h0, h2', h3, h4⟩ := k
      subst h3
      refine ⟨μ g', by omega, g', getF a.tmps.toList, h1, rfl, h2', ?_, hp⟩
      rw [← h4]
      exact act_of hd
    | _ => exact ⟨hd, L', hp, k⟩
/-- Does the label stand in a row of statements? -/
def hasL : Code → Nat → Bool
  | .seq a b, l => hasL a l || hasL b l
  | .label l', l => l' == l
  | _, _ => false
/-- What is to be shown behind a label. -/
def contP (P : Program) (w0 : World) : Code → Nat → Kont → Fr → Heap → Prop
  | .seq a b, l, K => if hasL a l = true then contP P w0 a l (thenK (fun f L => Cw P w0 b f L K) K) else contP P w0 b l K
  | .label _, _, K => K .normal
  | _, _, _ => fun _ _ => False
theorem find_none : ∀ (c : Code) (l : Nat), hasL c l = false → findLabel c l = none
  | .seq a b, l, h => by
    simp only [hasL, Bool.or_eq_false_iff] at h
    simp only [findLabel, find_none a l h.1, find_none b l h.2]
  | .label l', l, h => by
    simp only [hasL] at h
    simp [findLabel, h]
  | .skip, _, _ => rfl | .region .., _, _ => rfl | .cond .., _, _ => rfl | .block .., _, _ => rfl | .loop _, _, _ => rfl | .rangeFunc .., _, _ => rfl
  | .exit _, _, _ => rfl | .scope _, _, _ => rfl | .goto _, _, _ => rfl | .ret, _, _ => rfl | .refuse _, _, _ => rfl
theorem contP_find : ∀ (c : Code) (l : Nat) (K : Kont), hasL c l = true → contP P w0 c l K f L → ∃ rest, findLabel c l = some rest ∧ Cw P w0 rest f L K
  | .seq a b, l, K, hh, h => by
    unfold contP at h
    split at h
    · rename_i ha
      obtain ⟨rest, h1, h2⟩ := contP_find a l _ ha h
      exact ⟨.seq rest b, by simp [findLabel, h1], Cw.seq h2⟩
    · rename_i ha
      have ha' : hasL a l = false := by simpa using ha
      have hb : hasL b l = true := by simpa [hasL, ha'] using hh
      obtain ⟨rest, h1, h2⟩ := contP_find b l K hb h
      exact ⟨rest, by simp [findLabel, find_none a l ha', h1], h2⟩
  | .label l', l, K, hh, h => by
    simp only [hasL] at hh
    exact ⟨.skip, by simp [findLabel, hh], Cw.skip h⟩
  | .skip, _, _, h, _ => by cases h
  | .region .., _, _, h, _ => by cases h
  | .cond .., _, _, h, _ => by cases h
  | .block .., _, _, h, _ => by cases h
  | .loop _, _, _, h, _ => by cases h
  | .rangeFunc .., _, _, h, _ => by cases h
  | .exit _, _, _, h, _ => by cases h
  | .scope _, _, _, h, _ => by cases h
  | .goto _, _, _, h, _ => by cases h
  | .ret, _, _, h, _ => by cases h
  | .refuse _, _, _, h, _ => by cases h
theorem contP_mono : ∀ (c : Code) (l : Nat) (K K' : Kont), (∀ e f L, K e f L → K' e f L) → ∀ f L, contP P w0 c l K f L → contP P w0 c l K' f L
  | .seq a b, l, K, K', hK, f, L, h => by
    unfold contP at h ⊢
    split at h
    · rename_i ha
      rw [if_pos ha]
      refine contP_mono a l _ _ ?_ f L h
      intro e f L hh
      cases e with
      | normal => exact Cw.mono hh hK
      | _ => exact hK _ _ _ hh
    · rename_i ha
      rw [if_neg ha]
      exact contP_mono b l K K' hK f L h
  | .label l', l, K, K', hK, f, L, h => hK _ _ _ h
  | .skip, _, _, _, _, _, _, h => h.elim
  | .region .., _, _, _, _, _, _, h => h.elim
  | .cond .., _, _, _, _, _, _, h => h.elim
  | .block .., _, _, _, _, _, _, h => h.elim
  | .loop _, _, _, _, _, _, _, h => h.elim
  | .rangeFunc .., _, _, _, _, _, _, h => h.elim
  | .exit _, _, _, _, _, _, _, h => h.elim
  | .scope _, _, _, _, _, _, _, h => h.elim
  | .goto _, _, _, _, _, _, _, h => h.elim
  | .ret, _, _, _, _, _, _, h => h.elim
  | .refuse _, _, _, _, _, _, _, h => h.elim

/-- A scope: what holds at its labels; the way to the first one is walked by itself. -/
theorem Cw.scopeL {c : Code} {G : Type} (lab : G → Nat) (M : List Nat) (S : G → List (Nat × Value)) (H : G → Heap) (J : G → Prop) (μ : G → Nat) (hl : ∀ g, hasL c (lab g) = true)
    (pass : ∀ (g : G) (j : Nat → Value), J g → contP P w0 c (lab g) (scopeK (Jump lab M S H J (fun g' => μ g' < μ g) f) K) (pin (overFrom j M 0 f) (S g)) (H g))
    (first : (∀ (g : G) (f' : Fr), J g → f' = pin (overFrom (getF f') M 0 f) (S g) → contP P w0 c (lab g) (scopeK (Jump lab M S H J (fun _ => True) f) K) f' (H g)) →
      Cw P w0 c f L (scopeK (Jump lab M S H J (fun _ => True) f) K)) : Cw P w0 (.scope c) f L K := by
  refine Cw.scopeG lab M S H J μ (first fun g f' hg hf => ?_) fun g j hg => contP_find c _ _ (hl g) (pass g j hg)
  have := pass g (getF f') hg
  rw [← hf] at this
  refine contP_mono c _ _ _ ?_ _ _ this
  intro e f L hh
  cases e with
  | goto i => obtain ⟨g', h1, -, h3⟩ := hh; exact ⟨g', h1, trivial, h3⟩
  | _ => exact hh

/-- A scope through which the run goes without a goto. -/
theorem Cw.scopeS {c : Code} (h : Cw P w0 c f L (scopeK (fun _ _ _ => False) K)) : Cw P w0 (.scope c) f L K := by
  intro w hw
  refine wp_scope_straight (wp_mono (h w hw) ?_)
  rintro e a w' ⟨hd, L', hp, k⟩
  cases e with
  | goto i => exact k.elim
  | _ => exact ⟨hd, L', hp, k⟩
end
end Go.Sx
