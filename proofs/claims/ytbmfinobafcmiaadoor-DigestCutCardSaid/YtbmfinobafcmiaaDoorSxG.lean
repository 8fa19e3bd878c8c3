/-
  Regions whose order is open: till something is turned, a class of worlds is kept; what only reads may then come first.
  No conditions.
-/
import Derived.WalkKit
namespace Go.Sx
open Go

section
variable {P : Program} {ops : Array Oper} {Q : Exit → Act → World → Prop}

/-- What an operation leaves of the frame: its own slot, and perhaps a deferred call. -/
def Left (o : Oper) (a a' : Act) : Prop := ∃ u ds, a' = ({ a with defers := ds } : Act).put o.dst u

theorem upon_shift {o : Oper} {a : Act} {d : Option Tmp} {v : Value} {K : Act → World → Prop} (hd : ∀ t, d = some t → o.dst ≠ some t)
    (hQ : ∀ c a w, Q (.panic c) (a.put d v) w → Q (.panic c) a w) (r : Result Next) (h : o.upon P (a.put d v) K Q r) :
    o.upon P a (fun a' w' => Left o a a' ∧ K (a'.put d v) w') Q r := by
  have comm : ∀ u, (a.put o.dst u).put d v = (a.put d v).put o.dst u := fun u => (Act.put_comm a v u hd).symm
  have hl : ∀ u, Left o a (a.put o.dst u) := fun u => ⟨u, a.defers, rfl⟩
  match r, h with
  | .ok (.value u) _, h => exact ⟨hl u, by rw [comm]; exact h⟩
  | .ok .skip _, h => exact ⟨hl undef, by rw [comm]; exact h⟩
  | .ok (.defer e) _, h =>
    refine ⟨⟨undef, e :: a.defers, rfl⟩, ?_⟩
    rw [← Act.put_comm _ v undef hd, ← Act.put_defers]
    exact h
  | .ok (.enter f args) _, h =>
    refine Calls.mono h fun e w'' he => ?_
    match e, he with
    | .returned u, he => exact ⟨hl u, by rw [comm]; exact he⟩
    | .panicked c, he => exact hQ _ _ _ he
    | .outgrown, he => exact he
  | .ok (.row row args) _, h => exact Rows.mono h fun u w'' he => ⟨hl u, by rw [comm]; exact he⟩
  | .halt (.panic u) _, h => exact hQ _ _ _ h

theorem wpOp_shift {j : Nat} {oi oj : Oper} {v : Value} (hj : ops[j]? = some oj) (hap : oi.apart ops oj = true) (hsj : ∀ cs b, oj.op ≠ .select cs b)
    (hQ : ∀ c a w, Q (.panic c) (a.put oi.dst v) w → Q (.panic c) a w) {K : Act → World → Prop} {a : Act} {w : World}
    (h : wpOp P ops Q j K (a.put oi.dst v) w) : wpOp P ops Q j (fun a' w' => Left oj a a' ∧ K (a'.put oi.dst v) w') a w := by
  obtain ⟨h1, h2, h3⟩ := Oper.apart_spec hap
  unfold wpOp at h ⊢
  simp only [hj] at h ⊢
  rw [wanted_put oj a oi.dst v h1] at h
  cases hw : Region.wanted oj (yielded ops a.tmps) with
  | true =>
    rw [hw] at h
    simp only [if_true] at h ⊢
    rcases h with h | ⟨hasks, hl⟩
    · left
      unfold Oper.wp at h ⊢
      rw [execOp_put oj hsj a oi.dst v h1] at h
      exact upon_shift h2 hQ _ h
    · right
      exact ⟨by unfold Oper.asks at *; rwa [execOp_put oj hsj a oi.dst v h1] at hasks, hl⟩
  | false =>
    rw [hw] at h
    simp only [Bool.false_eq_true, if_false] at h ⊢
    exact ⟨⟨undef, a.defers, rfl⟩, by rw [← Act.put_comm a v undef h2]; exact h⟩

/-- Whatever order is picked; and till something of 'ts' has come up, 'C' holds of the world. -/
def wpAnyG (P : Program) (ops : Array Oper) (Q : Exit → Act → World → Prop) (ts : List Nat) (C : World → Prop) : Nat → Array Bool → Act → World → Prop
  | 0, listed, a, w => ((∀ t, t ∈ ts → listed.getD t true = false) → C w) ∧ Region.ready .any ops listed = [] ∧ Q .normal a w
  | n + 1, listed, a, w =>
    ((∀ t, t ∈ ts → listed.getD t true = false) → C w) ∧ (Region.ready .any ops listed = [] → Q .normal a w) ∧
    ∀ i ∈ Region.ready .any ops listed, wpOp P ops Q i (wpAnyG P ops Q ts C n (listed.setIfInBounds i true)) a w

variable {ts : List Nat} {C : World → Prop}
theorem getD_keep {listed : Array Bool} {i t : Nat} (h : listed.getD t true = true) : (listed.setIfInBounds i true).getD t true = true := by
  by_cases he : i = t
  · subst he
    rw [Array.getD_eq_getD_getElem?, Array.getElem?_setIfInBounds_self]
    split <;> rfl
  · rw [getD_set_ne true he]; exact h

theorem wpAny_of_G : ∀ (n : Nat) (listed : Array Bool) (a : Act) (w : World), wpAnyG P ops Q ts C n listed a w → wpAny P .any ops Q n listed a w
  | 0, _, _, _, h => h.2
  | n + 1, _, _, _, h => ⟨h.2.1, fun i hi => wpOp_mono (fun a w k => wpAny_of_G n _ a w k) (h.2.2 i hi)⟩

theorem G_here {n : Nat} {listed : Array Bool} {a : Act} {w : World} (h : wpAnyG P ops Q ts C n listed a w) (ht : ∀ t, t ∈ ts → listed.getD t true = false) : C w := by
  cases n with
  | zero => exact h.1 ht
  | succ n => exact h.1 ht

/-- Behind the first of 'ts' nothing more is asked. -/
theorem G_of_any : ∀ (n : Nat) (listed : Array Bool) (a : Act) (w : World), (∃ t ∈ ts, listed.getD t true = true) → wpAny P .any ops Q n listed a w → wpAnyG P ops Q ts C n listed a w
  | 0, _, _, _, ⟨t, ht, hl⟩, h => ⟨fun hn => (by rw [hn t ht] at hl; cases hl), h.1, h.2⟩
  | n + 1, _, _, _, ⟨t, ht, hl⟩, h =>
    ⟨fun hn => (by rw [hn t ht] at hl; cases hl), h.1, fun i hi => wpOp_mono (fun a w k => G_of_any n _ a w ⟨t, ht, getD_keep hl⟩ k) (h.2 i hi)⟩

/-- What an operation i asks to come first: what it may disturb, or be disturbed by. -/
structure First (ops : Array Oper) (ts : List Nat) (i : Nat) (oi : Oper) (pure : Prop) (listed : Array Bool) : Prop where
  ready : i ∈ Region.ready .any ops listed
  free : ∀ j oj, ops[j]? = some oj → j ≠ i → listed.getD j true = false → (∀ e ∈ oj.after, Region.binds .any e = true → e.on ≠ i) → oi.apart ops oj = true
  waits : pure ∨ ∀ j oj, ops[j]? = some oj → j ≠ i → listed.getD j true = false → (∀ e ∈ oj.after, Region.binds .any e = true → e.on ≠ i) → j ∉ ts

/-- In every world (of the class, if it is not pure) the operation yields v and leaves that very world. -/
def YieldsC (P : Program) (ops : Array Oper) (C : World → Prop) (pure : Prop) (o : Oper) (v : Value) (a : Act) : Prop :=
  (Region.wanted o (yielded ops a.tmps) = true ∧ ∀ w, (pure ∨ C w) → (execOp a.eval o).run P w = .ok (.value v) w) ∨
  (Region.wanted o (yielded ops a.tmps) = false ∧ v = undef)

theorem YieldsC.wpOp {pure : Prop} {i : Nat} {o : Oper} {v : Value} {a : Act} (hi : ops[i]? = some o) (hy : YieldsC P ops C pure o v a)
    {K : Act → World → Prop} {w : World} (hw : pure ∨ C w) (h : K (a.put o.dst v) w) : Go.wpOp P ops Q i K a w := by
  unfold Go.wpOp
  simp only [hi]
  rcases hy with ⟨h1, hv⟩ | ⟨h1, rfl⟩
  · simp only [h1, if_true, Oper.wp, hv w hw, Oper.upon]; exact .inl h
  · simp only [h1, Bool.false_eq_true, if_false]; exact h

theorem YieldsC.left {pure : Prop} {oi oj : Oper} {v : Value} {a a' : Act} (hy : YieldsC P ops C pure oi v a) (hsi : ∀ cs b, oi.op ≠ .select cs b)
    (h3 : ∀ d, oj.dst = some d → d ∉ oi.looksAt ops) (hl : Left oj a a') : YieldsC P ops C pure oi v a' := by
  obtain ⟨u, ds, rfl⟩ := hl
  have e1 : execOp (({ a with defers := ds } : Act).put oj.dst u).eval oi = execOp a.eval oi := execOp_put oi hsi ({ a with defers := ds } : Act) oj.dst u h3
  have e2 : Region.wanted oi (yielded ops (({ a with defers := ds } : Act).put oj.dst u).tmps) = Region.wanted oi (yielded ops a.tmps) := wanted_put oi ({ a with defers := ds } : Act) oj.dst u h3
  unfold YieldsC
  rw [e1, e2]
  exact hy

theorem G_first {pure : Prop} {i : Nat} {oi : Oper} {v : Value} (hi : ops[i]? = some oi) (hit : i ∉ ts) (hsel : ∀ (j : Nat) (o : Oper) cs b, ops[j]? = some o → o.op ≠ .select cs b)
    (hQ : ∀ c a w, Q (.panic c) (a.put oi.dst v) w → Q (.panic c) a w) :
    ∀ (fuel : Nat) (listed : Array Bool) (a : Act) (w : World), First ops ts i oi pure listed → (pure ∨ ∀ t, t ∈ ts → listed.getD t true = false) → YieldsC P ops C pure oi v a →
      wpAnyG P ops Q ts C fuel (listed.setIfInBounds i true) (a.put oi.dst v) w → wpAnyG P ops Q ts C (fuel + 1) listed a w := by
  intro fuel
  induction fuel with
  | zero =>
    intro listed a w hF hn hy H
    have hset : ∀ t, t ∈ ts → (listed.setIfInBounds i true).getD t true = listed.getD t true := fun t ht => getD_set_ne true (fun e => hit (e ▸ ht))
    have hC : (∀ t, t ∈ ts → listed.getD t true = false) → C w := fun h => H.1 fun t ht => (hset t ht).trans (h t ht)
    refine ⟨hC, fun h => (by have := hF.ready; rw [h] at this; cases this), fun j hj => ?_⟩
    by_cases hji : j = i
    · subst hji; exact hy.wpOp hi (hn.imp id hC) H
    · have := ready_mono hj hji
      rw [H.2.1] at this
      cases this
  | succ fuel ih =>
    intro listed a w hF hn hy H
    have hset : ∀ t, t ∈ ts → (listed.setIfInBounds i true).getD t true = listed.getD t true := fun t ht => getD_set_ne true (fun e => hit (e ▸ ht))
    have hC : (∀ t, t ∈ ts → listed.getD t true = false) → C w := fun h => H.1 fun t ht => (hset t ht).trans (h t ht)
    refine ⟨hC, fun h => (by have := hF.ready; rw [h] at this; cases this), fun j hj => ?_⟩
    by_cases hji : j = i
    · subst hji; exact hy.wpOp hi (hn.imp id hC) H
    · have h1 := H.2.2 j (ready_mono hj hji)
      obtain ⟨hjun, oj, hoj, hall⟩ := mem_ready.1 hj
      have hnot : ∀ e ∈ oj.after, Region.binds .any e = true → e.on ≠ i := fun e he hb heq => by
        have h2 := hall e he hb
        have h0 := (mem_ready.1 hF.ready).1
        rw [heq] at h2
        rcases Nat.lt_or_ge i listed.size with h' | h'
        · simp [h'] at h0 h2; rw [h0] at h2; cases h2
        · simp [Array.getElem?_eq_none h'] at h2
      have hap := hF.free j oj hoj hji hjun hnot
      have h2 := wpOp_shift hoj hap (fun cs b => hsel j oj cs b hoj) hQ h1
      have old : ∀ k, (listed.setIfInBounds j true).getD k true = false → listed.getD k true = false := fun k hk => by
        by_cases hjk : j = k
        · subst hjk; exact hjun
        · rwa [getD_set_ne true hjk] at hk
      have hF' : First ops ts i oi pure (listed.setIfInBounds j true) :=
        ⟨ready_mono hF.ready (Ne.symm hji), fun k ok hk hki hun hno => hF.free k ok hk hki (old k hun) hno, hF.waits.imp id fun hw k ok hk hki hun hno => hw k ok hk hki (old k hun) hno⟩
      have hn' : pure ∨ ∀ t, t ∈ ts → (listed.setIfInBounds j true).getD t true = false := by
        rcases hF.waits with h | hw
        · exact .inl h
        · rcases hn with h | hn
          · exact .inl h
          · refine .inr fun t ht => ?_
            have hjt : j ∉ ts := hw j oj hoj hji hjun hnot
            rw [getD_set_ne true (fun (e : j = t) => hjt (by rw [e]; exact ht))]
            exact hn t ht
      refine wpOp_mono (fun a' w' h3 => ih (listed.setIfInBounds j true) a' w' hF' hn' (hy.left (fun cs b => hsel i oi cs b hi) (Oper.apart_spec hap).2.2 h3.1) ?_) h2
      rw [Array.setIfInBounds_comm _ _ hji]
      exact h3.2
end
end Go.Sx
