/-
  The first part of a small calculus over the model's code: a call's triple in which the world is hidden behind a list of known blocks.
  No conditions.
-/
import Derived.WalkKit
import Derived.Deep.LoopGhost
namespace Go.Sx
open Go

/-! ### Blocks that are known -/
abbrev Heap := List (Nat × Obj)
def keys (L : Heap) : List Nat := L.map Prod.fst

def look : Heap → Nat → Option Obj
  | [], _ => none
  | (b, o) :: r, k => if b = k then some o else look r k

def setB : Heap → Nat → Obj → Heap
  | [], _, _ => []
  | (b, o) :: r, k, x => if b = k then (b, x) :: r else (b, o) :: setB r k x

theorem look_mem {L : Heap} {k : Nat} {o : Obj} (h : look L k = some o) : (k, o) ∈ L := by
  induction L with
  | nil => cases h
  | cons p r ih =>
    obtain ⟨b, x⟩ := p
    unfold look at h
    split at h
    · rename_i e
      cases h; subst e; exact List.mem_cons_self
    · exact List.mem_cons_of_mem _ (ih h)

theorem look_none {L : Heap} {k : Nat} (h : look L k = none) : k ∉ keys L := by
  induction L with
  | nil => intro h; cases h
  | cons p r ih =>
    obtain ⟨b, x⟩ := p
    unfold look at h
    split at h
    · cases h
    · rename_i e
      intro hm
      rcases List.mem_cons.1 hm with h' | h'
      · exact e h'.symm
      · exact ih h h'

theorem keys_setB (L : Heap) (k : Nat) (x : Obj) : keys (setB L k x) = keys L := by
  induction L with
  | nil => rfl
  | cons p r ih =>
    obtain ⟨b, o⟩ := p
    unfold setB
    split
    · rfl
    · simp only [keys, List.map_cons] at ih ⊢
      rw [ih]

theorem mem_setB {L : Heap} (hn : (keys L).Nodup) {k b : Nat} {x o : Obj} (h : (b, o) ∈ setB L k x) : (b = k ∧ o = x) ∨ (b ≠ k ∧ (b, o) ∈ L) := by
  induction L with
  | nil => cases h
  | cons p r ih =>
    obtain ⟨c, y⟩ := p
    simp only [keys, List.map_cons, List.nodup_cons] at hn
    unfold setB at h
    split at h
    · rename_i e
      rcases List.mem_cons.1 h with h' | h'
      · simp only [Prod.mk.injEq] at h'
        exact .inl ⟨h'.1.trans e, h'.2⟩
      · refine .inr ⟨?_, List.mem_cons_of_mem _ h'⟩
        intro e2
        exact hn.1 (by rw [e, ← e2]; exact List.mem_map.2 ⟨_, h', rfl⟩)
    · rename_i e
      rcases List.mem_cons.1 h with h' | h'
      · simp only [Prod.mk.injEq] at h'
        refine .inr ⟨by rw [h'.1]; exact e, ?_⟩
        rw [h'.1, h'.2]; exact List.mem_cons_self
      · rcases ih hn.2 h' with h2 | h2
        · exact .inl h2
        · exact .inr ⟨h2.1, List.mem_cons_of_mem _ h2.2⟩

/-- In the world w, L's blocks hold what L says; of what there was in w0 all else is as it was. -/
structure Hp (w0 : World) (L : Heap) (w : World) : Prop where
  has : ∀ b o, (b, o) ∈ L → w.heap[b]? = some o
  nodup : (keys L).Nodup
  old : ∀ b, b < w0.heap.size → b ∉ keys L → w.heap[b]? = w0.heap[b]?
  size : w0.heap.size ≤ w.heap.size
  tape : w.tape = w0.tape
  os : w.os = w0.os
  output : w.output = w0.output

theorem Hp.refl (w : World) : Hp w [] w :=
  ⟨fun _ _ h => (by cases h), List.nodup_nil, fun _ _ _ => rfl, Nat.le_refl _, rfl, rfl, rfl⟩

theorem Hp.lt {w0 w : World} {L : Heap} (h : Hp w0 L w) {b : Nat} (hb : b ∈ keys L) : b < w.heap.size := by
  obtain ⟨p, hp, rfl⟩ := List.mem_map.1 hb
  have := h.has p.1 p.2 hp
  exact (Array.getElem?_eq_some_iff.1 this).1

/-- Draws do not count. -/
theorem Hp.of_heap {w0 w w' : World} {L : Heap} (h : Hp w0 L w) (hh : w'.heap = w.heap) (ht : w'.tape = w.tape) (ho : w'.os = w.os) (hu : w'.output = w.output) : Hp w0 L w' :=
  ⟨by rw [hh]; exact h.has, h.nodup, by rw [hh]; exact h.old, by rw [hh]; exact h.size, ht.trans h.tape, ho.trans h.os, hu.trans h.output⟩

theorem Hp.drew {w0 w : World} {L : Heap} (h : Hp w0 L w) : Hp w0 L w.drew := h.of_heap rfl rfl rfl rfl

/-- A new block. -/
theorem Hp.alloc {w0 w : World} {L : Heap} (h : Hp w0 L w) (o : Obj) : Hp w0 (L ++ [(w.heap.size, o)]) (w.alloc o) := by
  have hk : ∀ b, b ∈ keys (L ++ [(w.heap.size, o)]) → b ∈ keys L ∨ b = w.heap.size := by
    intro b hb
    simp only [keys, List.map_append, List.map_cons, List.map_nil, List.mem_append, List.mem_singleton] at hb
    exact hb
  refine ⟨?_, ?_, ?_, ?_, h.tape, h.os, h.output⟩
  · intro b x hm
    rcases List.mem_append.1 hm with hm | hm
    · have hlt : b < w.heap.size := h.lt (List.mem_map.2 ⟨_, hm, rfl⟩)
      rw [RowKit.Below.heap_alloc w o b hlt]; exact h.has b x hm
    · simp only [List.mem_singleton, Prod.mk.injEq] at hm
      rw [hm.1, hm.2]; exact (by show (w.heap.push o)[w.heap.size]? = some o; simp)
  · simp only [keys, List.map_append, List.map_cons, List.map_nil]
    refine List.nodup_append.2 ⟨h.nodup, List.pairwise_singleton _ _, ?_⟩
    intro a ha b hb
    simp only [List.mem_singleton] at hb
    have := h.lt ha
    omega
  · intro b hb hn
    rw [RowKit.Below.heap_alloc w o b (Nat.lt_of_lt_of_le hb h.size)]
    refine h.old b hb (fun hm => hn ?_)
    simp only [keys, List.map_append, List.mem_append]
    exact .inl hm
  · rw [World.size_alloc]; have := h.size; omega

/-- What a block comes to hold. -/
theorem Hp.set {w0 w w' : World} {L : Heap} (h : Hp w0 L w) {b : Nat} {x : Obj} (hb : b ∈ keys L) (hh : w'.heap = w.heap.setIfInBounds b x)
    (ht : w'.tape = w.tape) (ho : w'.os = w.os) (hu : w'.output = w.output) : Hp w0 (setB L b x) w' := by
  have hlt := h.lt hb
  refine ⟨?_, by rw [keys_setB]; exact h.nodup, ?_, ?_, ht.trans h.tape, ho.trans h.os, hu.trans h.output⟩
  · intro c o hm
    rw [hh]
    rcases mem_setB h.nodup hm with ⟨rfl, rfl⟩ | ⟨hne, hm'⟩
    · simp [hlt]
    · rw [Array.getElem?_setIfInBounds_ne (Ne.symm hne)]; exact h.has c o hm'
  · intro c hc hn
    rw [keys_setB] at hn
    have hne : b ≠ c := fun e => hn (e ▸ hb)
    rw [hh, Array.getElem?_setIfInBounds_ne hne]
    exact h.old c hc hn
  · rw [hh]; simpa using h.size

/-- An old block is made known. -/
theorem Hp.own {w0 w : World} {L : Heap} (h : Hp w0 L w) {b : Nat} {o : Obj} (hb : w0.heap[b]? = some o) (hn : b ∉ keys L) : Hp w0 (L ++ [(b, o)]) w := by
  have hlt : b < w0.heap.size := (Array.getElem?_eq_some_iff.1 hb).1
  refine ⟨?_, ?_, ?_, h.size, h.tape, h.os, h.output⟩
  · intro c x hm
    rcases List.mem_append.1 hm with hm | hm
    · exact h.has c x hm
    · simp only [List.mem_singleton, Prod.mk.injEq] at hm
      rw [hm.1, hm.2, h.old b hlt hn]; exact hb
  · simp only [keys, List.map_append, List.map_cons, List.map_nil]
    refine List.nodup_append.2 ⟨h.nodup, List.pairwise_singleton _ _, ?_⟩
    intro a ha c hc
    simp only [List.mem_singleton] at hc
    subst hc
    exact fun e => hn (e ▸ ha)
  · intro c hc hm
    exact h.old c hc (fun hm' => hm (by simp only [keys, List.map_append, List.mem_append]; exact .inl hm'))

/-- What is not asked of any more: new blocks. -/
theorem Hp.drop {w0 w : World} {L M : Heap} (h : Hp w0 L w) (hM : ∀ p ∈ M, p ∈ L) (hn : (keys M).Nodup) (hold : ∀ p ∈ L, p.1 < w0.heap.size → p.1 ∉ keys M → w0.heap[p.1]? = some p.2) : Hp w0 M w := by
  refine ⟨fun b o hm => h.has b o (hM _ hm), hn, ?_, h.size, h.tape, h.os, h.output⟩
  intro b hb hm
  by_cases hk : b ∈ keys L
  · obtain ⟨p, hp, rfl⟩ := List.mem_map.1 hk
    rw [h.has _ _ hp, hold p hp hb hm]
  · exact h.old b hb hk

/-- Two worlds, one behind the other. -/
theorem Hp.trans {w0 w w' : World} {L D : Heap} (h : Hp w0 L w) (k : Hp w D w') : Hp w0 (L.filter (fun p => !(keys D).contains p.1) ++ D) w' := by
  have hf : ∀ b, b ∈ keys (L.filter (fun p => !(keys D).contains p.1)) ↔ b ∈ keys L ∧ b ∉ keys D := by
    intro b
    constructor
    · intro hb
      obtain ⟨p, hp, rfl⟩ := List.mem_map.1 hb
      have := List.mem_filter.1 hp
      refine ⟨List.mem_map.2 ⟨p, this.1, rfl⟩, ?_⟩
      simpa using this.2
    · rintro ⟨hb, hn⟩
      obtain ⟨p, hp, rfl⟩ := List.mem_map.1 hb
      exact List.mem_map.2 ⟨p, List.mem_filter.2 ⟨hp, by simpa using hn⟩, rfl⟩
  refine ⟨?_, ?_, ?_, Nat.le_trans h.size k.size, k.tape.trans h.tape, k.os.trans h.os, k.output.trans h.output⟩
  · intro b o hm
    rcases List.mem_append.1 hm with hm | hm
    · have hb : b ∈ keys (L.filter (fun p => !(keys D).contains p.1)) := List.mem_map.2 ⟨_, hm, rfl⟩
      have hb' := (hf b).1 hb
      rw [k.old b (h.lt hb'.1) hb'.2]
      exact h.has b o (List.mem_filter.1 hm).1
    · exact k.has b o hm
  · simp only [keys, List.map_append]
    refine List.nodup_append.2 ⟨?_, k.nodup, ?_⟩
    · exact List.Nodup.sublist (List.Sublist.map _ List.filter_sublist) h.nodup
    · intro a ha b hb e
      exact ((hf a).1 ha).2 (e ▸ hb)
  · intro b hb hn
    have hn' : b ∉ keys L ∧ b ∉ keys D := by
      simp only [keys, List.map_append, List.mem_append, not_or] at hn
      have hD : b ∉ keys D := hn.2
      exact ⟨fun hm => hn.1 ((hf b).2 ⟨hm, hD⟩), hD⟩
    rw [k.old b (Nat.lt_of_lt_of_le hb h.size) hn'.2]
    exact h.old b hb hn'.1

theorem Hp.trans_nil {w0 w w' : World} {L : Heap} (h : Hp w0 L w) (k : Hp w [] w') : Hp w0 L w' := by
  have := h.trans k
  rwa [show L.filter (fun p => !(keys ([] : Heap)).contains p.1) ++ [] = L from by simp [keys]] at this

/-- What L says of a block, or, if it says nothing of it, what w0 had there. -/
def readB (w0 : World) (L : Heap) (b : Nat) : Option Obj :=
  match look L b with
  | some o => some o
  | none => w0.heap[b]?

theorem Hp.read {w0 w : World} {L : Heap} (h : Hp w0 L w) {b : Nat} {o : Obj} (hr : readB w0 L b = some o) : w.heap[b]? = some o := by
  unfold readB at hr
  split at hr
  · rename_i o' hl
    cases hr
    exact h.has _ _ (look_mem hl)
  · rename_i hl
    rw [h.old b (Array.getElem?_eq_some_iff.1 hr).1 (look_none hl)]
    exact hr

/-! ### Frames -/
abbrev Fr := List Value
def getF : Fr → Nat → Value
  | [], _ => undef
  | v :: _, 0 => v
  | _ :: r, n + 1 => getF r n
def setF : Fr → Nat → Value → Fr
  | [], _, _ => []
  | _ :: r, 0, x => x :: r
  | v :: r, n + 1, x => v :: setF r n x
def putF (f : Fr) : Option Tmp → Value → Fr
  | some d, v => setF f d v
  | none, _ => f
def ev (f : Fr) : Operand → Value
  | .tmp t => getF f t
  | .const v => v
  | .global g => .pointer (some ⟨g, 0, none⟩)
  | .func k => .func (.func k) #[] #[]

theorem getF_eq (f : Fr) (t : Nat) : f.toArray.getD t undef = getF f t := by
  rw [Array.getD_eq_getD_getElem?, List.getElem?_toArray]
  induction f generalizing t with
  | nil => rfl
  | cons v r ih => cases t <;> simp [getF, ih]

theorem setF_eq (f : Fr) (d : Nat) (v : Value) : f.toArray.setIfInBounds d v = (setF f d v).toArray := by
  rw [List.setIfInBounds_toArray]
  congr 1
  induction f generalizing d with
  | nil => rfl
  | cons x r ih => cases d <;> simp [setF, ih]

def act (f : Fr) : Act := ⟨f.toArray, []⟩

theorem act_eval (f : Fr) (x : Operand) : (act f).eval x = ev f x := by
  cases x with
  | tmp t => exact getF_eq f t
  | _ => rfl

theorem act_eval' (f : Fr) : (act f).eval = ev f := funext (act_eval f)

theorem act_put (f : Fr) (d : Option Tmp) (v : Value) : (act f).put d v = act (putF f d v) := by
  cases d with
  | none => rfl
  | some d => simp only [act, Act.put, putF, setF_eq]

theorem act_of {a : Act} (h : a.defers = []) : a = act a.tmps.toList := by
  cases a with
  | mk t d => simp only at h; subst h; simp [act]

/-! ### Code -/
abbrev Kont := Exit → Fr → Heap → Prop

def post (w0 : World) (K : Kont) (e : Exit) (a : Act) (w : World) : Prop := a.defers = [] ∧ ∃ L, Hp w0 L w ∧ K e a.tmps.toList L

/-- From a frame f, in any world that L tells: the code ends, and K holds of how it ends, of the frame and of what is known then. -/
def Cw (P : Program) (w0 : World) (c : Code) (f : Fr) (L : Heap) (K : Kont) : Prop :=
  ∀ w, Hp w0 L w → c.wp P (post w0 K) (act f) w

def thenK (N : Fr → Heap → Prop) (K : Kont) : Kont
  | .normal => N
  | .exit i => K (.exit i)
  | .goto i => K (.goto i)
  | .ret => K .ret
  | .panic c => K (.panic c)
  | .outgrown => K .outgrown

def blockK (id : Nat) (K : Kont) : Kont
  | .normal => K .normal
  | .exit i => if i = id then K .normal else K (.exit i)
  | .goto i => K (.goto i)
  | .ret => K .ret
  | .panic c => K (.panic c)
  | .outgrown => K .outgrown

section
variable {P : Program} {w0 : World} {f : Fr} {L : Heap} {K : Kont}

theorem Cw.mono {c : Code} {K' : Kont} (h : Cw P w0 c f L K) (hk : ∀ e f L, K e f L → K' e f L) : Cw P w0 c f L K' :=
  fun w hw => wp_mono (h w hw) fun _ _ _ ⟨hd, L', hp, k⟩ => ⟨hd, L', hp, hk _ _ _ k⟩

theorem Cw.seq {x y : Code} (h : Cw P w0 x f L (thenK (fun f L => Cw P w0 y f L K) K)) : Cw P w0 (.seq x y) f L K := by
  intro w hw
  refine wp_seq (wp_mono (h w hw) ?_)
  rintro e a w' ⟨hd, L', hp, k⟩
  cases e with
  | normal =>
    have := k w' hp
    rw [← act_of hd] at this
    exact this
  | _ => exact ⟨hd, L', hp, k⟩

theorem Cw.skip (h : K .normal f L) : Cw P w0 .skip f L K := fun w hw => wp_skip ⟨rfl, L, hw, by simpa [act] using h⟩
theorem Cw.label {l : Nat} (h : K .normal f L) : Cw P w0 (.label l) f L K := fun w hw => wp_label ⟨rfl, L, hw, by simpa [act] using h⟩
theorem Cw.exit {i : Nat} (h : K (.exit i) f L) : Cw P w0 (.exit i) f L K := fun w hw => wp_exit ⟨rfl, L, hw, by simpa [act] using h⟩
theorem Cw.goto {i : Nat} (h : K (.goto i) f L) : Cw P w0 (.goto i) f L K := fun w hw => wp_goto ⟨rfl, L, hw, by simpa [act] using h⟩
theorem Cw.ret (h : K .ret f L) : Cw P w0 .ret f L K := fun w hw => wp_ret ⟨rfl, L, hw, by simpa [act] using h⟩

theorem Cw.cond {c : Operand} {x y : Code} {b : Bool} (hc : ev f c = .bool b) (ht : b = true → Cw P w0 x f L K) (he : b = false → Cw P w0 y f L K) : Cw P w0 (.cond c x y) f L K := by
  intro w hw
  have hc' : (act f).eval c = .bool b := (act_eval f c).trans hc
  cases b with
  | true => exact wp_cond_true hc' (ht rfl w hw)
  | false => exact wp_cond_false hc' (he rfl w hw)

theorem Cw.cond_t {c : Operand} {x y : Code} (hc : ev f c = .bool true) (h : Cw P w0 x f L K) : Cw P w0 (.cond c x y) f L K :=
  Cw.cond hc (fun _ => h) (fun e => by cases e)
theorem Cw.cond_f {c : Operand} {x y : Code} (hc : ev f c = .bool false) (h : Cw P w0 y f L K) : Cw P w0 (.cond c x y) f L K :=
  Cw.cond hc (fun e => by cases e) (fun _ => h)

theorem Cw.block {id : Nat} {c : Code} (h : Cw P w0 c f L (blockK id K)) : Cw P w0 (.block id c) f L K := by
  intro w hw
  refine wp_block (wp_mono (h w hw) ?_)
  rintro e a w' ⟨hd, L', hp, k⟩
  cases e with
  | exit i =>
    simp only [Exit.inBlock]
    simp only [blockK] at k
    split
    · rename_i e; rw [if_pos e] at k; exact ⟨hd, L', hp, k⟩
    · rename_i e; rw [if_neg e] at k; exact ⟨hd, L', hp, k⟩
  | _ => exact ⟨hd, L', hp, k⟩

/-- A loop: what holds at each round's head, by a number that every round lowers. -/
theorem Cw.loop {c : Code} (I : Nat → Fr → Heap → Prop) (n0 : Nat) (h0 : I n0 f L)
    (round : ∀ n f L, I n f L → Cw P w0 c f L (thenK (fun f' L' => ∃ n', n' < n ∧ I n' f' L') K)) : Cw P w0 (.loop c) f L K := by
  intro w hw
  refine wp_loop_ghost (fun n a w => a.defers = [] ∧ ∃ L, Hp w0 L w ∧ I n a.tmps.toList L) n0 ⟨rfl, L, hw, by simpa [act] using h0⟩ ?_
  rintro n a w ⟨hd, L, hp, hI⟩
  have := round n _ _ hI w hp
  rw [← act_of hd] at this
  refine wp_mono this ?_
  rintro e a' w' ⟨hd', L', hp', k⟩
  cases e with
  | normal =>
    obtain ⟨n', hlt, hI'⟩ := k
    exact ⟨n', hlt, hd', L', hp', hI'⟩
  | _ => exact ⟨hd', L', hp', k⟩
end

/-! ### A loop told by a ghost: which slots are turned, what the pinned ones hold, what the blocks hold -/
def over (j : Nat → Value) (M : List Nat) (f : Fr) : Fr := f.zipIdx.map fun p => if M.contains p.2 then j p.2 else p.1
def pin (f : Fr) : List (Nat × Value) → Fr
  | [] => f
  | (t, v) :: r => pin (setF f t v) r

def overFrom (j : Nat → Value) (M : List Nat) : Nat → Fr → Fr
  | _, [] => []
  | n, v :: r => (if M.contains n then j n else v) :: overFrom j M (n + 1) r

/-- What a round must hand on. -/
def Again {G : Type} (M : List Nat) (S : G → List (Nat × Value)) (H : G → Heap) (J : G → Prop) (μ : G → Nat) (f : Fr) (g : G) (f' : Fr) (L' : Heap) : Prop :=
  ∃ g', μ g' < μ g ∧ J g' ∧ L' = H g' ∧ f' = pin (overFrom (getF f') M 0 f) (S g')
theorem Again.mk {G : Type} {M : List Nat} {S : G → List (Nat × Value)} {H : G → Heap} {J : G → Prop} {μ : G → Nat} {f : Fr} {g : G} {f' : Fr} {L' : Heap} (g' : G)
    (hμ : μ g' < μ g) (hJ : J g') (hL : L' = H g') (hf : f' = pin (overFrom (getF f') M 0 f) (S g')) : Again M S H J μ f g f' L' := ⟨g', hμ, hJ, hL, hf⟩

section
variable {P : Program} {w0 : World} {f : Fr} {L : Heap} {K : Kont}
theorem Cw.loopG {c : Code} {G : Type} (M : List Nat) (S : G → List (Nat × Value)) (H : G → Heap) (J : G → Prop) (μ : G → Nat) (g0 : G)
    (hf : f = pin (overFrom (getF f) M 0 f) (S g0)) (hL : L = H g0) (hJ : J g0)
    (round : ∀ (g : G) (j : Nat → Value), J g → Cw P w0 c (pin (overFrom j M 0 f) (S g)) (H g)
      (thenK (Again M S H J μ f g) K)) : Cw P w0 (.loop c) f L K := by
  refine Cw.loop (fun n f' L' => ∃ g j, n = μ g ∧ J g ∧ L' = H g ∧ f' = pin (overFrom j M 0 f) (S g)) (μ g0) ⟨g0, getF f, rfl, hJ, hL, hf⟩ ?_
  rintro n f' L' ⟨g, j, rfl, hg, rfl, rfl⟩
  refine (round g j hg).mono ?_
  intro e f'' L'' k
  cases e with
  | normal =>
    obtain ⟨g', h1, h2, h3, h4⟩ := k
    exact ⟨_, h1, g', getF f'', rfl, h2, h3, h4⟩
  | _ => exact k
end

end Go.Sx
