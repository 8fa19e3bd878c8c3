/-
  The eighth part: callees that turn one known block; texts in slices; '==' of arrays.
  No conditions.
-/
import Derived.Test.YtbmfinobafcmiaaDoorSx7
namespace Go.Sx
open Go
section
variable {P : Program} {w0 : World} {f : Fr} {L : Heap} {N : Fr → Heap → Prop} {ops : Array Oper} {rest : List Oper} {md : Md}
  {d : Option Tmp} {ty : TypeId} {ps : String} {af : Array Edge} {g : Option (Nat × Bool)}
/-- A call whose callee turns one known block. -/
theorem Ow.callM {l : List Operand} {ts : Array TypeId} {k : FuncId} {b : Nat} {v : Value} {o : Obj} {md' : Md} (he : md.turn = some md')
    (hs : skipped ops f ⟨d, .call ⟨.value (.func k), l.toArray, ts⟩, ty, ps, af, g⟩ = false)
    (hk : ∀ a w, (callFunc k a).run P w = .ok (.enter k a) w) (hb : b ∈ keys L)
    (hc : ∀ w, Hp w0 L w → Rets P k (l.map (ev f)).toArray w (fun v' D => ∃ o', D = [(b, o')] ∧ v' = v ∧ o' = o))
    (hn : Ow P w0 ops md' rest (putF f d v) (setB L b o) N) :
    Ow P w0 ops md (⟨d, .call ⟨.value (.func k), l.toArray, ts⟩, ty, ps, af, g⟩ :: rest) f L N :=
  Ow.callF (S := fun _ v' D => ∃ o', D = [(b, o')] ∧ v' = v ∧ o' = o) he hs hk hc (by
    rintro _ _ _ - - ⟨_, rfl, rfl, rfl⟩
    exact ⟨_, Mrg.set hb, hn⟩)
end

/-- The cells of a slice that is written out. -/
def sliceB (P : Program) (t : TypeId) (len : Nat) (parts : List (Nat × Value)) : Option (TypeId × Array Value) :=
  match P.underlying t with
  | some (.slice e) => match aggT P e with
    | some m => if len * m.2 > 2 ^ 24 then none else
      match (if len * m.2 = 0 then some #[] else (zeroV P e).map Value.cells) with
      | some zero => (Instr.fill (fun i => some (i * m.2, m.2)) ((Array.range (len * m.2)).map (zero[· % zero.size]!)) parts).map fun c => (e, c)
      | none => none
    | none => none
  | _ => none
theorem run_buildSlice {P : Program} {t e : TypeId} {len : Nat} {parts : Array (Nat × Value)} {cells : Array Value} (h : sliceB P t len parts.toList = some (e, cells)) (w : World) :
    (Instr.buildSlice t len parts).run P w = .ok (vsl w.heap.size 0 len len) (w.alloc (.cells cells e)) := by
  unfold sliceB at h
  split at h
  · rename_i el hu
    split at h
    · rename_i m hm
      split at h
      · cases h
      · rename_i hbig
        split at h
        · rename_i zero hz
          cases hf : Instr.fill (fun i => some (i * m.2, m.2)) ((Array.range (len * m.2)).map (zero[· % zero.size]!)) parts.toList with
          | none => rw [hf] at h; cases h
          | some c =>
            rw [hf] at h
            cases h
            simp only [Instr.buildSlice, Sem.run_bind, run_underlying hu w, Result.andThen_ok, run_sizeOf hm w, hbig, if_false]
            split at hz
            · rename_i h0
              cases hz
              have e1 : ∀ (k : Array Value → World → Result Value), (Sem.run P (pure (#[] : Array Value)) w).andThen k = k #[] w := fun _ => rfl
              simp only [h0, if_true] at hf ⊢
              rw [Sem.run_bind, e1]
              simp only [hf, Sem.run_bind]
              rfl
            · rename_i h0
              cases hzv : zeroV P e with
              | none => rw [hzv] at hz; cases hz
              | some z =>
                rw [hzv] at hz
                cases hz
                simp only [h0, if_false, Sem.run_bind, run_zeroV hzv w, Result.andThen_ok, Sem.run_pure, hf]
                rfl
        · cases h
    · cases h
  · cases h
section
variable {P : Program} {w0 : World} {f : Fr} {L : Heap} {N : Fr → Heap → Prop} {ops : Array Oper} {rest : List Oper} {md : Md}
  {d : Option Tmp} {ty : TypeId} {ps : String} {af : Array Edge} {g : Option (Nat × Bool)}
theorem Ow.buildSlice {t e : TypeId} {len : Nat} {parts : Array (Nat × Operand)} (cells : Array Value) {md' : Md} (he : md.turn = some md') (hs : skipped ops f ⟨d, .buildSlice t len parts, ty, ps, af, g⟩ = false)
    (hv : sliceB P t len (parts.toList.map fun p => (p.1, ev f p.2)) = some (e, cells))
    (hn : ∀ b, Above L b → w0.heap.size ≤ b → Ow P w0 ops md' rest (putF f d (vsl b 0 len len)) (L ++ [(b, .cells cells e)]) N) :
    Ow P w0 ops md (⟨d, .buildSlice t len parts, ty, ps, af, g⟩ :: rest) f L N := by
  refine Ow.step he rfl hs fun w hw => .inl ⟨vsl w.heap.size 0 len len, w.alloc (.cells cells e), _, ?_, hw.alloc _, hn _ (above_of fun b hb => hw.lt hb) hw.size⟩
  have h' : sliceB P t len (parts.map fun (i, x) => (i, ev f x)).toList = some (e, cells) := by
    rw [Array.toList_map]; exact hv
  simp only [execOp, Sem.run_bind, run_buildSlice h' w, Result.andThen_ok]
  rfl
end
/-! ### '==' of arrays of bytes -/
theorem eqItems_all {f : Nat → Option Bool} {g : Nat → Bool} (is : List Nat) (h : ∀ i, i ∈ is → f i = some (g i)) : eqItemsV f is = some (is.all g) := by
  induction is with
  | nil => rfl
  | cons i r ih =>
    unfold eqItemsV
    rw [h i List.mem_cons_self, List.all_cons]
    cases g i
    · rfl
    · simpa using ih fun j hj => h j (List.mem_cons_of_mem _ hj)
theorem all_getD_eq (l l' : List UInt8) (n : Nat) (h : l.length = n) (h' : l'.length = n) : ((List.range n).all fun i => l.getD i 0 == l'.getD i 0) = (l == l') := by
  rw [Bool.eq_iff_iff, List.all_eq_true, beq_iff_eq]
  constructor
  · intro ha
    apply List.ext_getElem (by omega)
    intro i h1 h2
    have := ha i (List.mem_range.2 (by omega))
    rw [beq_iff_eq, List.getD_eq_getElem?_getD, List.getD_eq_getElem?_getD, List.getElem?_eq_getElem h1, List.getElem?_eq_getElem h2] at this
    exact this
  · rintro rfl i _
    simp
theorem eqD_a8 {P : Program} {t e : TypeId} {n d : Nat} (hu : P.underlying t = some (.array n e)) (he : P.underlying e = some (.int .u8)) (hm : aggT P e = some (false, 1)) (l l' : List UInt8) (hl : l.length = n) (hl' : l'.length = n) :
    eqD P (d + 2) t (.agg (a8 l)) (.agg (a8 l')) = some (l == l') := by
  rw [← all_getD_eq l l' n hl hl']
  unfold eqD
  rw [hu]
  simp only [hm]
  apply eqItems_all
  intro i hi
  have hi := List.mem_range.1 hi
  have p : ∀ (x : List UInt8), x.length = n → partV (false, 1) (a8 x) (i * 1) = some (v8 (x.getD i 0)) := by
    intro x hx
    simp [partV, a8, v8, hx, hi]
  simp only [eqPartV, p l hl, p l' hl']
  unfold eqD
  rw [he]
  simp only [v8, ↓reduceIte, Option.some.injEq]
  rw [Bool.eq_iff_iff, beq_iff_eq, beq_iff_eq, ← UInt8.toNat_inj]
  omega
theorem binX_a8 {P : Program} {t e : TypeId} {n : Nat} (hu : P.underlying t = some (.array n e)) (he : P.underlying e = some (.int .u8)) (hm : aggT P e = some (false, 1)) (hg : P.eqGuardType P.depth t = false) (l l' : List UInt8) (hl : l.length = n ∧ l'.length = n) :
    binX P .eql t (.agg (a8 l)) (.agg (a8 l')) = some (.bool (l == l')) := by
  unfold binX eqX
  rw [hg]
  simp [plainV, eqD_a8 (d := 6) hu he hm l l' hl.1 hl.2]
theorem binX_a8n {P : Program} {t e : TypeId} {n : Nat} (hu : P.underlying t = some (.array n e)) (he : P.underlying e = some (.int .u8)) (hm : aggT P e = some (false, 1)) (hg : P.eqGuardType P.depth t = false) (l l' : List UInt8) (hl : l.length = n ∧ l'.length = n) :
    binX P .neq t (.agg (a8 l)) (.agg (a8 l')) = some (.bool (!(l == l'))) := by
  unfold binX eqX
  rw [hg]
  simp [plainV, eqD_a8 (d := 6) hu he hm l l' hl.1 hl.2]

theorem tup2_0 (a b : Value) : (#[a, b] : Array Value)[0]? = some a := (rfl)
theorem tup2_1 (a b : Value) : (#[a, b] : Array Value)[1]? = some b := (rfl)
theorem tup3_0 (a b c : Value) : (#[a, b, c] : Array Value)[0]? = some a := (rfl)
theorem tup3_1 (a b c : Value) : (#[a, b, c] : Array Value)[1]? = some b := (rfl)
theorem tup3_2 (a b c : Value) : (#[a, b, c] : Array Value)[2]? = some c := (rfl)

/-- A slice of texts in a world. -/
structure StrS (w : World) (v : Value) (l : List (List UInt8)) (b off : Nat) (arr : Array Value) (E : TypeId) (fz : Nat × Nat) : Prop where
  len : ∀ m, lenV (.sl m) v = some (vi l.length)
  idx : ∀ m (k : Nat), k < l.length → indexAddrV (.sl m) v (some (k : Int)) = some (vp b (off + k * m.2))
  has : 0 < l.length → w.heap[b]? = some (.cells arr E fz)
  get : ∀ k, k < l.length → arr[off + k]? = some (vs (l.getD k []))
theorem StrS.sl {w : World} {l : List (List UInt8)} {b off n c : Nat} {arr : Array Value} {E : TypeId} {fz : Nat × Nat} (hn : n = l.length)
    (has : w.heap[b]? = some (.cells arr E fz)) (get : ∀ k, k < l.length → arr[off + k]? = some (vs (l.getD k []))) : StrS w (vsl b off n c) l b off arr E fz := by
  subst hn
  exact ⟨fun _ => rfl, fun m k h => by rw [indexAddr_sl _ _ _ _ _ _ (by omega)]; simp, fun _ => has, get⟩
theorem StrS.none (w : World) (n c : Nat) (hn : n = 0) : StrS w (.slice none n c) [] 0 0 #[] 0 (0, 0) := by
  subst hn
  exact ⟨fun _ => rfl, fun _ _ h => absurd h (Nat.not_lt_zero _), fun h => absurd h (Nat.not_lt_zero _), fun _ h => absurd h (Nat.not_lt_zero _)⟩
theorem StrS.old {w w' : World} {v : Value} {l : List (List UInt8)} {b off : Nat} {arr : Array Value} {E : TypeId} {fz : Nat × Nat} {L : Heap} (h : StrS w v l b off arr E fz) (hw : Hp w L w') (hb : 0 < l.length → b ∉ keys L) : StrS w' v l b off arr E fz := by
  refine ⟨h.len, h.idx, fun h0 => ?_, h.get⟩
  rw [hw.old b (Array.getElem?_eq_some_iff.1 (h.has h0)).1 (hb h0)]
  exact h.has h0
theorem loadV_one (cs : Array Value) (E : TypeId) (fz : Nat × Nat) (n i : Nat) : loadV (some (false, n)) (some (.cells cs E fz)) i = cs[i]? := (rfl)
end Go.Sx
