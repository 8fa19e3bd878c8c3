/-
  Regions in which more than one operation that turns something may come next.
  No conditions.
-/
import Derived.Test.YtbmfinobafcmiaaDoorSx8
namespace Go.Sx
open Go

/-- The rest of a region that asks the tape: n operations, of which these are listed. -/
def OwK (P : Program) (w0 : World) (ops : Array Oper) (n : Nat) (listed : List Bool) (f : Fr) (L : Heap) (N : Fr → Heap → Prop) : Prop :=
  ∀ w, Hp w0 L w → wpAny P .any ops (postN w0 N) n listed.toArray (act f) w

section
variable {P : Program} {w0 : World} {f : Fr} {L : Heap} {N : Fr → Heap → Prop} {K : Kont} {l : List Oper} {n : Nat} {listed : List Bool}

theorem Cw.regionK {id : Nat} (m : Nat) (hl : l.length = m) (hm : P.follows .mixedOrders = true) (h : OwK P w0 l.toArray m (List.replicate m false) f L (K .normal)) : Cw P w0 (.region id l.toArray true) f L K := fun w hw => by
  subst hl
  refine wp_mono (wp_region_any hm ?_) fun _ _ _ h => postN_post h
  have := h _ hw.drew
  simpa using this

theorem OwK.done {ops : Array Oper} (hr : Region.ready .any ops listed.toArray = []) (h : N f L) : OwK P w0 ops n listed f L N :=
  fun w hw => wpAny_done hr ⟨rfl, rfl, L, hw, by simpa [act] using h⟩ n

theorem upon_mono {o : Oper} {a : Act} {next next' : Act → World → Prop} {Q Q' : Exit → Act → World → Prop} (hn : ∀ a w, next a w → next' a w) (hQ : ∀ e a w, e ≠ .normal → Q e a w → False) {r : Result Next}
    (h : o.upon P a next Q r) : o.upon P a next' Q' r := by
  cases r with
  | ok x w' =>
    cases x <;> simp only [Oper.upon] at h ⊢ <;>
      first
        | exact hn _ _ h
        | exact Calls.mono h (fun e w'' he => by
            cases e <;> first | exact hn _ _ he | exact (hQ _ _ _ (by simp) he).elim | (obtain ⟨a, w, h⟩ := he; exact (hQ _ _ _ (by simp) h).elim))
        | exact Rows.mono h (fun _ _ he => hn _ _ he)
        | exact h.elim
  | halt x w' =>
    cases x <;> simp only [Oper.upon] at h ⊢ <;> first | exact (hQ _ _ _ (by simp) h).elim | exact h.elim

theorem postN_no {N : Fr → Heap → Prop} {e : Exit} {a : Act} {w : World} (he : e ≠ .normal) (h : postN w0 N e a w) : False := he h.1

/-- One operation, by the calculus for a list. -/
theorem wpOp_of {ops : Array Oper} {k : Nat} {o : Oper} (hk : ops[k]? = some o) {X : Act → World → Prop}
    (h : Ow P w0 ops .seq [o] f L (fun f' L' => ∀ w, Hp w0 L' w → X (act f') w)) {w : World} (hw : Hp w0 L w) : wpOp P ops (postN w0 N) k X (act f) w := by
  have h1 := h w hw
  unfold wpList at h1
  unfold wpOp
  simp only [hk]
  have hX : ∀ a w, wpList P ops (postN w0 fun f' L' => ∀ w, Hp w0 L' w → X (act f') w) [] a w → X a w := by
    intro a w' hx
    obtain ⟨-, hd, L', hp, hh⟩ := (show postN w0 _ _ a w' from hx)
    have := hh w' hp
    obtain ⟨t, d⟩ := a
    simp only at hd
    subst hd
    simpa [act] using this
  cases hwn : Region.wanted o (yielded ops (act f).tmps) with
  | true =>
    rw [hwn] at h1
    simp only [↓reduceIte] at h1 ⊢
    rcases h1 with h1 | ⟨-, a, w', h1⟩
    · exact .inl (upon_mono hX (fun e a w he h => postN_no he h) h1)
    · exact (postN_no (by simp) h1).elim
  | false =>
    rw [hwn] at h1
    simp only [Bool.false_eq_true, ↓reduceIte] at h1 ⊢
    exact hX _ _ h1

theorem set_toArray (l : List Bool) (i : Nat) : l.toArray.setIfInBounds i true = (l.set i true).toArray := by simp

/-- One operation alone is next. -/
theorem OwK.one (k : Nat) (o : Oper) (hr : Region.ready .any l.toArray listed.toArray = [k]) (hk : nthO l k = some o)
    (h : Ow P w0 l.toArray .seq [o] f L (fun f' L' => OwK P w0 l.toArray n (listed.set k true) f' L' N)) : OwK P w0 l.toArray (n + 1) listed f L N := by
  intro w hw
  refine wpAny_all hr (by simp) ?_
  intro i hi
  simp only [List.mem_singleton] at hi
  subst hi
  rw [set_toArray]
  exact wpOp_of (by rw [nthO_eq] at hk; simpa using hk) h hw

/-- Two operations may be next. -/
theorem OwK.two (i j : Nat) (oi oj : Oper) (hr : Region.ready .any l.toArray listed.toArray = [i, j]) (hi : nthO l i = some oi) (hj : nthO l j = some oj)
    (h1 : Ow P w0 l.toArray .seq [oi] f L (fun f' L' => OwK P w0 l.toArray n (listed.set i true) f' L' N))
    (h2 : Ow P w0 l.toArray .seq [oj] f L (fun f' L' => OwK P w0 l.toArray n (listed.set j true) f' L' N)) : OwK P w0 l.toArray (n + 1) listed f L N := by
  intro w hw
  refine wpAny_all hr (by simp) ?_
  intro k hk
  rw [set_toArray]
  simp only [List.mem_cons, List.not_mem_nil, or_false] at hk
  rcases hk with rfl | rfl
  · exact wpOp_of (by rw [nthO_eq] at hi; simpa using hi) h1 hw
  · exact wpOp_of (by rw [nthO_eq] at hj; simpa using hj) h2 hw

/-- Operations that can be carried out at once: their values hang on their operands alone. -/
def chkK (P : Program) (l : List Oper) : List Nat → List Bool → Option (List Bool)
  | [], listed => some listed
  | k :: is, listed =>
    match nthO l k with
    | some o => if (Region.ready .any l.toArray listed.toArray).contains k && Region.free .any l.toArray listed.toArray k && pureK P o.op then chkK P l is (listed.set k true) else none
    | none => none

theorem OwK.runs {k : Md → List Oper → Fr → Heap → Prop} (hns : Region.noSelect l.toArray = true) : ∀ (is : List Nat) {listed listed' : List Bool} {f : Fr} {L : Heap}, chkK P l is listed = some listed' →
    (∀ md r f' L', k md r f' L' → r = [] ∧ OwK P w0 l.toArray n listed' f' L' N) → vcL P w0 l.toArray false .seq (pickL l is) f L k → OwK P w0 l.toArray (is.length + n) listed f L N
  | [], listed, listed', f, L, hc, hk, h => by
    cases hc
    rw [List.length_nil, Nat.zero_add]
    exact (hk _ _ _ _ h).2
  | i :: is, listed, listed', f, L, hc, hk, h => by
    unfold chkK at hc
    rw [pickL_cons] at h
    cases ho : nthO l i with
    | none => rw [ho] at hc; cases hc
    | some o =>
      rw [ho] at hc h
      simp only at hc
      split at hc
      · rename_i hcc
        simp only [Bool.and_eq_true] at hcc
        obtain ⟨⟨hc1, hc2⟩, hc3⟩ := hcc
        rw [consO_some] at h
        have hoi : l.toArray[i]? = some o := by rw [nthO_eq] at ho; simpa using ho
        unfold vcL at h
        rw [List.length_cons, show is.length + 1 + n = (is.length + n) + 1 by omega]
        cases hs : skipped l.toArray f o with
        | true =>
          rw [hs] at h
          have hw0 : Region.wanted o (yielded l.toArray (act f).tmps) = false := by rw [wanted_eq, hs]; rfl
          intro w hw
          refine wpAny_take (v := undef) hoi hns hc2 hc1 (fun c a w h => postN_panic h) (.inr ⟨hw0, rfl⟩) ?_
          rw [act_put, set_toArray]
          exact OwK.runs hns is hc hk h w hw
        | false =>
          rw [hs] at h
          have hw0 : Region.wanted o (yielded l.toArray (act f).tmps) = true := by rw [wanted_eq, hs]; rfl
          simp only [ib, vcB] at h
          split at h
          · cases hv : evalV P w0 L f o.op with
            | none => rw [hv] at h; exact h.elim
            | some v =>
              rw [hv] at h
              intro w hw
              refine wpAny_take (v := v) hoi hns hc2 hc1 (fun c a w h => postN_panic h) (.inl ⟨hw0, fun w => ?_⟩) ?_
              · rw [act_eval']; exact run_evalV (Hp.refl w) (evalV_pure hc3 hv w)
              · rw [act_put, set_toArray]
                exact OwK.runs hns is hc hk h w hw
          · exact absurd (hk _ _ _ _ h).1 (by simp)
          · exact absurd (hk _ _ _ _ h).1 (by simp)
      · cases hc

theorem OwK.run (is : List Nat) (listed' : List Bool) (n : Nat) {m : Nat} (hm : m = is.length + n) (hns : Region.noSelect l.toArray = true) (hc : chkK P l is listed = some listed')
    (h : ∀ k : Md → List Oper → Fr → Heap → Prop, (∀ md f L, OwK P w0 l.toArray n listed' f L N → k md [] f L) → nl (pickL l is) fun l' => vcL P w0 l.toArray false .seq l' f L k) : OwK P w0 l.toArray m listed f L N := by
  subst hm
  refine OwK.runs (k := fun _ r f' L' => r = [] ∧ OwK P w0 l.toArray n listed' f' L' N) hns is hc (fun _ _ _ _ h => h) ?_
  exact h _ fun _ _ _ h => ⟨rfl, h⟩

/-- The check of an order from here. -/
def restOk (P : Program) (l : List Oper) (is ts : List Nat) (listed : List Bool) : Bool :=
  Region.noSelect l.toArray && orderB P l.toArray ts is listed.toArray && ts.any fun t => listed.toArray.getD t true
/-- From here in one order. -/
theorem OwK.rest (is ts : List Nat) {m : Nat} (hm : m = is.length) (hB : restOk P l is ts listed = true) (hl : is.map (fun i : Nat => l[i]?) = (pickL l is).map some)
    (h : nl (pickL l is) fun l' => Ow P w0 l.toArray (.any is ts) l' f L N) : OwK P w0 l.toArray m listed f L N := by
  subst hm
  revert hl h
  generalize pickL l is = l'
  intro hl h w hw
  simp only [restOk, Bool.and_eq_true] at hB
  obtain ⟨⟨h1, h4⟩, h5⟩ := hB
  have hlen : is.length = l'.length := by have := congrArg List.length hl; simpa using this
  have hF : Fits P l.toArray ts is l' listed.toArray := ⟨hlen, fun j => by
    have := congrArg (·[j]?) hl
    simp only [List.getElem?_map] at this
    cases hj : is[j]? with
    | none =>
      rw [hj] at this
      simp only [Option.map_none] at this
      cases hj' : l'[j]? with
      | none => rfl
      | some x => rw [hj'] at this; cases this
    | some i =>
      rw [hj] at this
      simp only [Option.map_some] at this
      cases hj' : l'[j]? with
      | none => rw [hj'] at this; cases this
      | some x =>
        rw [hj'] at this
        simp only [Option.map_some, Option.some.injEq] at this
        simp [this], h1, h4⟩
  obtain ⟨t, ht, ht2⟩ := List.any_eq_true.1 h5
  rw [hlen]
  exact (h : Ow P w0 l.toArray (.any is ts) l' f L N) listed.toArray hF ⟨t, ht, ht2⟩ w hw
end
/-! ### Small slices of texts -/
theorem StrS.lit {w : World} {b n c : Nat} {E : TypeId} {fz : Nat × Nat} {arr : Array Value} (l : List (List UInt8)) (hn : n = l.length) (ha : arr = (l.map vs).toArray) (has : w.heap[b]? = some (.cells arr E fz)) : StrS w (vsl b 0 n c) l b 0 arr E fz :=
  StrS.sl hn has (by intro k hk; rw [ha, Nat.zero_add, List.getElem?_toArray, List.getElem?_map, List.getD_eq_getElem?_getD, List.getElem?_eq_getElem hk]; rfl)
theorem all_le {l : List (List UInt8)} {n : Nat} (h : ∀ a, a ∈ l → a.length < n) : ∀ i, i < l.length → (l.getD i []).length < n := by
  intro i hi
  refine h _ ?_
  rw [List.getD_eq_getElem?_getD, List.getElem?_eq_getElem hi]
  exact List.getElem_mem hi
end Go.Sx
