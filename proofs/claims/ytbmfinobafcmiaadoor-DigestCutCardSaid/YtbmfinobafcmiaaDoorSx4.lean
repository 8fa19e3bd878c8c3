/-
  The fourth part: what the evaluator says is what the model does; stores; a list of operations.
  No conditions.
-/
import Derived.Test.YtbmfinobafcmiaaDoorSx3
namespace Go.Sx
open Go
set_option linter.unusedSimpArgs false

section
variable {P : Program} {w0 w : World} {L : Heap}

theorem run_underlying' {t : TypeId} {d : TypeDesc} (h : P.underlying t = some d) (w : World) : (underlying t).run P w = .ok d w := run_underlying h w

theorem run_asIntOf {v : Value} {i : Int} (h : ixI v = some i) : ∃ k, v = .int k i := by
  cases v <;> simp only [ixI, reduceCtorEq, Option.some.injEq] at h
  subst h; exact ⟨_, rfl⟩

theorem run_indexV {t : TypeId} {x i v : Value} (h : indexV (ixT P t) x (ixI i) = some v) (w : World) : (Instr.index t x i).run P w = .ok v w := by
  unfold indexV at h
  split at h
  · rename_i n m cs k hx hi
    split at h
    · rename_i hk
      obtain ⟨kk, rfl⟩ := run_asIntOf hi
      unfold ixT at hx
      split at hx
      · rename_i n' e hu
        split at hx
        · rename_i m' hm
          cases hx
          simp only [Instr.index, asIntOf, Sem.run_bind, Sem.run_pure, Result.andThen_ok, run_underlying hu w, hk, and_self, ↓reduceIte, run_sizeOf hm w]
          exact run_part hm h w
        · cases hx
      · split at hx <;> cases hx
      · cases hx
      · cases hx
    · cases h
  · rename_i s k hx hi
    split at h
    · rename_i hk
      obtain ⟨kk, rfl⟩ := run_asIntOf hi
      unfold ixT at hx
      split at hx
      · split at hx <;> cases hx
      · split at hx <;> cases hx
      · rename_i hu
        cases hs : s[k.toNat]? with
        | none => rw [hs] at h; cases h
        | some b =>
          rw [hs] at h
          simp only [Option.map_some, Option.some.injEq] at h; subst h
          simp only [Instr.index, asIntOf, Sem.run_bind, Sem.run_pure, Result.andThen_ok, run_underlying hu w, hk, ↓reduceIte, hs]
      · cases hx
    · cases h
  · cases h

theorem run_indexAddrV {t : TypeId} {x i v : Value} (h : indexAddrV (ixT P t) x (ixI i) = some v) (w : World) : (Instr.indexAt t x i).run P w = .ok v w := by
  unfold indexAddrV at h
  split at h
  · rename_i n m a k hx hi
    split at h
    · rename_i hk
      obtain ⟨kk, rfl⟩ := run_asIntOf hi
      unfold ixT at hx
      split at hx
      · rename_i n' e hu
        split at hx
        · rename_i m' hm
          cases hx
          cases h
          simp only [Instr.indexAt, asIntOf, Sem.run_bind, Sem.run_pure, Result.andThen_ok, run_underlying hu w, Instr.sureAddr, hk, and_self, ↓reduceIte, run_sizeOf hm w]
        · cases hx
      · split at hx <;> cases hx
      · cases hx
      · cases hx
    · cases h
  · rename_i m a n c k hx hi
    split at h
    · rename_i hk
      obtain ⟨kk, rfl⟩ := run_asIntOf hi
      unfold ixT at hx
      split at hx
      · split at hx <;> cases hx
      · rename_i e hu
        split at hx
        · rename_i m' hm
          cases hx
          cases h
          simp only [Instr.indexAt, asIntOf, Sem.run_bind, Sem.run_pure, Result.andThen_ok, run_underlying hu w, hk, and_self, ↓reduceIte, run_sizeOf hm w]
        · cases hx
      · cases hx
      · cases hx
    · cases h
  · cases h

theorem run_fieldAddrV {t : TypeId} {x v : Value} {i : Nat} (h : fieldAddrV (fldT P t i) x = some v) (w : World) : (Instr.fieldAt t x i).run P w = .ok v w := by
  unfold fieldAddrV at h
  split at h
  · rename_i off m a hx
    split at h
    · cases h
    · rename_i hm0
      unfold fldT at hx
      split at hx
      · rename_i fs hu
        split at hx
        · rename_i fd hf
          split at hx
          · rename_i m' hm
            cases hx
            cases h
            simp only [Instr.fieldAt, Sem.run_bind, Sem.run_pure, Result.andThen_ok, run_underlying hu w, hf, Instr.sureAddr, fieldPlace, run_sizeOf hm w, hm0, ↓reduceIte]
          · cases hx
        · cases hx
      · cases hx
  · cases h

theorem run_fieldV {t : TypeId} {x v : Value} {i : Nat} (h : fieldV (fldT P t i) x = some v) (w : World) : (Instr.field t x i).run P w = .ok v w := by
  unfold fieldV at h
  split at h
  · rename_i off m cs hx
    unfold fldT at hx
    split at hx
    · rename_i fs hu
      split at hx
      · rename_i fd hf
        split at hx
        · rename_i m' hm
          cases hx
          simp only [Instr.field, Sem.run_bind, Result.andThen_ok, run_underlying hu w, hf, asAgg, Sem.run_pure]
          exact run_part hm h w
        · cases hx
      · cases hx
    · cases hx
  · cases h

theorem ixT_arr {t : TypeId} {n : Nat} {m : Bool × Nat} (h : ixT P t = .arr n m) : ∃ e, P.underlying t = some (.array n e) ∧ aggT P e = some m := by
  unfold ixT at h
  split at h
  · rename_i n' e hu
    split at h
    · rename_i m' hm; cases h; exact ⟨e, hu, hm⟩
    · cases h
  · split at h <;> cases h
  · cases h
  · cases h
theorem ixT_sl {t : TypeId} {m : Bool × Nat} (h : ixT P t = .sl m) : ∃ e, P.underlying t = some (.slice e) ∧ aggT P e = some m := by
  unfold ixT at h
  split at h
  · split at h <;> cases h
  · rename_i e hu
    split at h
    · rename_i m' hm; cases h; exact ⟨e, hu, hm⟩
    · cases h
  · cases h
  · cases h
theorem ixT_str {t : TypeId} (h : ixT P t = .str) : P.underlying t = some .string := by
  unfold ixT at h
  split at h
  · split at h <;> cases h
  · split at h <;> cases h
  · assumption
  · cases h

theorem run_lenV {t : TypeId} {x v : Value} (h : lenV (ixT P t) x = some v) (y : TypeId) (ts : Array TypeId) (vs : Array Value) (h1 : vs[0]? = some x) (h2 : ts[0]? = some t) (w : World) :
    (Builtin.len_ ts y vs).run P w = .ok v w := by
  unfold lenV at h
  split at h
  · rename_i s hx
    cases h
    simp only [Builtin.len_, h1, h2, Sem.run_bind, run_underlying (ixT_str hx) w, Result.andThen_ok]; rfl
  · rename_i n m hx
    cases h
    obtain ⟨e, hu, _⟩ := ixT_arr hx
    simp only [Builtin.len_, h1, h2, Sem.run_bind, run_underlying hu w, Result.andThen_ok]; rfl
  · rename_i m a n c hx
    cases h
    obtain ⟨e, hu, _⟩ := ixT_sl hx
    simp only [Builtin.len_, h1, h2, Sem.run_bind, run_underlying hu w, Result.andThen_ok]; rfl
  · cases h

theorem run_capV {t : TypeId} {x v : Value} (h : capV (ixT P t) x = some v) (y : TypeId) (ts : Array TypeId) (vs : Array Value) (h1 : vs[0]? = some x) (h2 : ts[0]? = some t) (w : World) :
    (Builtin.cap_ ts y vs).run P w = .ok v w := by
  unfold capV at h
  split at h
  · rename_i n m hx
    cases h
    obtain ⟨e, hu, _⟩ := ixT_arr hx
    simp only [Builtin.cap_, h1, h2, Sem.run_bind, run_underlying hu w, Result.andThen_ok]; rfl
  · rename_i m a n c hx
    cases h
    obtain ⟨e, hu, _⟩ := ixT_sl hx
    simp only [Builtin.cap_, h1, h2, Sem.run_bind, run_underlying hu w, Result.andThen_ok]; rfl
  · cases h

theorem run_bound {x : Value} {i : Int} (h : ixI x = some i) {y : Nat} (hi : 0 ≤ i ∧ i ≤ y) (code : BoundsCode) (w : World) : (Instr.sliceBound x y code).run P w = .ok i.toNat w := by
  obtain ⟨k, rfl⟩ := run_asIntOf h
  simp only [Instr.sliceBound, asIntOf, Sem.run_bind, Sem.run_pure, Result.andThen_ok, hi, and_self, ↓reduceIte]

theorem run_bounds {b : Bool} {n c l h : Nat} {lo hi : Option Value} (hh : bndV n c (lo.map ixI) (hi.map ixI) = some (l, h)) (w : World) :
    (Instr.sliceBounds b n c lo hi none).run P w = .ok (l, h, c) w := by
  unfold bndV at hh
  cases lo with
  | none =>
    cases hi with
    | none =>
      simp only [Option.map_none, Option.some.injEq, Prod.mk.injEq] at hh
      obtain ⟨rfl, rfl⟩ := hh
      simp [Instr.sliceBounds]
    | some hv =>
      simp only [Option.map_none, Option.map_some] at hh
      split at hh
      · cases ‹some (ixI hv) = none›
      · cases ‹_ = none›
      · rename_i h' e1 e2
        split at hh
        · rename_i hb
          cases hh
          simp only [Option.some.injEq] at e2
          simp [Instr.sliceBounds, run_bound e2 hb]
        · cases hh
      · cases ‹none = some (some _)›
      · cases hh
  | some lv =>
    cases hi with
    | none =>
      simp only [Option.map_none, Option.map_some] at hh
      split at hh
      · cases ‹some (ixI lv) = none›
      · rename_i l' e1 e2
        split at hh
        · rename_i hb
          cases hh
          simp only [Option.some.injEq] at e1
          simp [Instr.sliceBounds, run_bound e1 hb]
        · cases hh
      · cases ‹some (ixI lv) = none›
      · cases ‹none = some (some _)›
      · cases hh
    | some hv =>
      simp only [Option.map_some] at hh
      split at hh
      · cases ‹some (ixI lv) = none›
      · cases ‹some (ixI hv) = none›
      · cases ‹some (ixI lv) = none›
      · rename_i l' h' e1 e2
        split at hh
        · rename_i hb
          cases hh
          simp only [Option.some.injEq] at e1 e2
          simp [Instr.sliceBounds, run_bound e2 (⟨by omega, hb.2.2⟩ : 0 ≤ h' ∧ h' ≤ (c : Int)), run_bound e1 (y := h'.toNat) ⟨hb.1, by omega⟩]
        · cases hh
      · cases hh

theorem run_sliceV {t : TypeId} {x v : Value} {lo hi : Option Value} (h : sliceV (ixT P t) x (lo.map ixI) (hi.map ixI) = some v) (w : World) : (Instr.sliceAt t x lo hi none).run P w = .ok v w := by
  unfold sliceV at h
  split at h
  · rename_i s hx
    split at h
    · rename_i l hi' hb
      cases h
      have hu := ixT_str hx
      simp only [Instr.sliceAt, Instr.slice, Sem.run_bind, run_underlying hu w, Result.andThen_ok, Option.isSome_none, Bool.false_eq_true, ↓reduceIte, run_bounds hb w, Sem.run_pure]
    · cases h
  · rename_i m a n c hx
    split at h
    · rename_i l hi' hb
      cases h
      obtain ⟨e, hu, hm⟩ := ixT_sl hx
      simp only [Instr.sliceAt, Instr.slice, Sem.run_bind, run_underlying hu w, Result.andThen_ok, run_bounds hb w, run_sizeOf hm w, Sem.run_pure]
    · cases h
  · rename_i n m a hx
    split at h
    · rename_i l hi' hb
      cases h
      obtain ⟨e, hu, hm⟩ := ixT_arr hx
      simp only [Instr.sliceAt, Instr.sureAddr, Sem.run_bind, run_underlying hu w, Result.andThen_ok, run_bounds hb w, run_sizeOf hm w, Sem.run_pure]
    · cases h
  · cases h

theorem run_eqNilV {t : TypeId} {x y : Value} {b : Bool} (d : Nat) (h : eqNilV (P.underlying t) x y = some b) (w : World) : (Op.equalIn (d + 1) t x y).run P w = .ok b w := by
  unfold eqNilV at h
  split at h <;> first
    | (rename_i hu
       simp only [Option.some.injEq] at h
       subst h
       simp only [Op.equalIn, Sem.run_bind, run_underlying hu w, Result.andThen_ok]
       rfl)
    | cases h

theorem run_eqD (P : Program) : ∀ (d k : Nat) (t : TypeId) (x y : Value) (b : Bool), eqD P d t x y = some b → ∀ w, (Op.equalIn (d + k) t x y).run P w = .ok b w := by
  intro d
  induction d with
  | zero => intro k t x y b h; cases h
  | succ d ih =>
    intro k t x y b h w
    have e : d + 1 + k = (d + k) + 1 := by omega
    rw [e]
    unfold eqD at h
    split at h
    · rename_i k0 k1 a k2 c hu
      split at h
      · rename_i hk
        cases h
        subst hk
        simp [Op.equalIn, run_underlying hu w]
      · cases h
    · rename_i a c hu
      cases h
      simp [Op.equalIn, run_underlying hu w]
    · rename_i n el xs ys hu
      split at h
      · rename_i m hm
        simp only [Op.equalIn, Sem.run_bind, run_underlying hu w, Result.andThen_ok, run_sizeOf hm w]
        simp only [Std.Legacy.Range.forIn_eq_forIn_range', Std.Legacy.Range.size, Nat.sub_zero, Nat.add_one_sub_one, Nat.div_one]
        rw [List.range_eq_range'] at h
        generalize List.range' 0 n = is at h ⊢
        induction is with
        | nil => cases h; simp
        | cons j is ihl =>
          unfold eqItemsV at h
          simp only [List.forIn_cons, Sem.run_bind]
          split at h
          · rename_i h1
            unfold eqPartV at h1
            split at h1
            · rename_i m' he
              cases he
              split at h1
              · rename_i a c ha hc
                simp only [run_part hm ha w, run_part hm hc w, Result.andThen_ok, ih k el a c true h1 w, Bool.not_true, Bool.false_eq_true, if_false, Sem.run_pure]
                exact ihl h
              · cases h1
            · cases h1
          · rename_i h1
            cases h
            unfold eqPartV at h1
            split at h1
            · rename_i m' he
              cases he
              split at h1
              · rename_i a c ha hc
                simp only [run_part hm ha w, run_part hm hc w, Result.andThen_ok, ih k el a c false h1 w, Bool.not_false, if_true, Sem.run_pure]
              · cases h1
            · cases h1
          · cases h
      · cases h
    · rename_i fs xs ys hu
      split at h
      · cases h
      · rename_i hst
        have hst' : P.stoodInHeld t = false := by simpa using hst
        simp only [Op.equalIn, Sem.run_bind, run_underlying hu w, Result.andThen_ok, run_program, hst', Bool.false_eq_true, if_false]
        rw [← Array.forIn_toList]
        generalize fs.toList = l at h ⊢
        clear hu
        induction l with
        | nil => cases h; simp
        | cons f l ihl =>
          unfold eqFieldsV at h
          simp only [List.forIn_cons, Sem.run_bind, Sem.run_ite]
          split at h
          · rename_i hne
            rw [if_pos hne]
            split at h
            · rename_i h1
              unfold eqPartV at h1
              split at h1
              · rename_i m' hm
                split at h1
                · rename_i a c ha hc
                  simp only [run_part hm ha w, run_part hm hc w, Result.andThen_ok, ih k f.type a c true h1 w, Bool.not_true, Bool.false_eq_true, if_false, Sem.run_pure]
                  exact ihl h
                · cases h1
              · cases h1
            · rename_i h1
              cases h
              unfold eqPartV at h1
              split at h1
              · rename_i m' hm
                split at h1
                · rename_i a c ha hc
                  simp only [run_part hm ha w, run_part hm hc w, Result.andThen_ok, ih k f.type a c false h1 w, Bool.not_false, if_true, Sem.run_pure]
                · cases h1
              · cases h1
            · cases h
          · rename_i hne
            rw [if_neg hne]
            simp only [Sem.run_pure, Result.andThen_ok]
            exact ihl h
    · exact run_eqNilV (d + k) h w

theorem run_eqX {op : BinOp} {t : TypeId} {x y : Operand} {a b : Value} {r : Bool} (hp : (plainV a && plainV b) ≠ true) (hr : eqX P t a b = some r) (w : World) :
    (eqGuard op t x y a b).run P w = .ok () w ∧ (Op.equal t a b).run P w = .ok r w ∧ binOp .eql t a b = (do pure (.bool (← Op.equal t a b)) : Sem Value) ∧ binOp .neq t a b = (do pure (.bool (!(← Op.equal t a b))) : Sem Value) := by
  unfold eqX at hr
  split at hr
  · rename_i xs ys
    split at hr
    · cases hr
    · rename_i hg
      have hg' : P.eqGuardType P.depth t = false := by simpa using hg
      refine ⟨?_, run_eqD P 8 9992 t _ _ r hr w, rfl, rfl⟩
      unfold eqGuard
      cases op <;> first
        | rfl
        | simp [Sem.run_bind, run_program, hg']
  · refine ⟨?_, run_eqNilV 9999 hr w, ?_, ?_⟩
    · unfold eqNilV at hr
      split at hr <;> first | (unfold eqGuard; cases op <;> rfl) | cases hr
    · unfold eqNilV at hr
      split at hr <;> first | rfl | cases hr
    · unfold eqNilV at hr
      split at hr <;> first | rfl | cases hr

theorem run_binX {op : BinOp} {t : TypeId} {x y : Operand} {a b v : Value} (h : binX P op t a b = some v) (w : World) :
    (do eqGuard op t x y a b; binOp op t a b : Sem Value).run P w = .ok v w := by
  unfold binX at h
  split at h
  · rename_i hp
    have hg : (eqGuard op t x y a b).run P w = .ok () w := by
      unfold eqGuard
      cases a <;> simp only [plainV, Bool.false_and, Bool.false_eq_true] at hp <;>
        (split <;> rfl)
    rw [Sem.run_bind, hg]
    exact run_binV w h
  · rename_i hp
    split at h
    · cases hr : eqX P t a b with
      | none => rw [hr] at h; cases h
      | some r =>
        rw [hr] at h
        simp only [Option.map_some, Option.some.injEq] at h; subst h
        obtain ⟨h1, h2, e, -⟩ := run_eqX (op := .eql) (x := x) (y := y) hp hr w
        rw [Sem.run_bind, h1]
        simp only [Result.andThen_ok]
        rw [e, Sem.run_bind, h2]; rfl
    · cases hr : eqX P t a b with
      | none => rw [hr] at h; cases h
      | some r =>
        rw [hr] at h
        simp only [Option.map_some, Option.some.injEq] at h; subst h
        obtain ⟨h1, h2, -, e⟩ := run_eqX (op := .neq) (x := x) (y := y) hp hr w
        rw [Sem.run_bind, h1]
        simp only [Result.andThen_ok]
        rw [e, Sem.run_bind, h2]; rfl
    · cases h

theorem cvT_int {s d : TypeId} {k : IntKind} (h : cvT P s d = .int k) : ∃ k', P.underlying s = some (.int k') ∧ P.underlying d = some (.int k) := by
  unfold cvT at h
  split at h
  · rename_i a b; cases h; exact ⟨_, a, b⟩
  · cases h
  · split at h <;> cases h
  · split at h <;> cases h
  · cases h

theorem run_convV {s d : TypeId} {x v : Value} (hw : Hp w0 L w) (h : convV w0 L (cvT P s d) x = some v) : (convert s d x).run P w = .ok v w := by
  unfold convV at h
  split at h
  · rename_i k hc
    obtain ⟨k', h1, h2⟩ := cvT_int hc
    unfold convI at h
    split at h
    · cases h
      simp only [convert, Sem.run_bind, run_underlying h1 w, run_underlying h2 w, Result.andThen_ok, Conv.intToInt, Sem.run_pure]
    · cases h
  · rename_i hc
    unfold cvT at hc
    split at hc
    · cases hc
    · rename_i h1 h2
      split at h
      · cases h
        simp only [convert, Sem.run_bind, run_underlying h1 w, run_underlying h2 w, Result.andThen_ok, Sem.run_pure]
      · cases h
    · split at hc <;> cases hc
    · split at hc <;> cases hc
    · cases hc
  · rename_i hc
    unfold cvT at hc
    split at hc
    · cases hc
    · cases hc
    · rename_i e h1 h2
      split at hc
      · rename_i h3
        unfold textAtV at h
        split at h
        · cases h
          simp only [convert, Sem.run_bind, run_underlying h1 w, run_underlying h2 w, run_underlying h3 w, Result.andThen_ok]; rfl
        · simp only [convert, Sem.run_bind, run_underlying h1 w, run_underlying h2 w, run_underlying h3 w, Result.andThen_ok]
          exact run_bytesToString hw h
        · cases h
      · cases hc
    · split at hc <;> cases hc
    · cases hc
  · cases h

theorem run_evalV {f : Fr} {o : Oper} {v : Value} (hw : Hp w0 L w) (h : evalV P w0 L f o.op = some v) : (execOp (ev f) o).run P w = .ok (.value v) w := by
  obtain ⟨dst, op, ty, pos, after, guard⟩ := o
  simp only at h
  unfold evalV at h
  split at h <;> simp only [execOp]
  · cases h; rfl
  · cases h; rfl
  · rename_i c a b
    cases hc : ev f c <;> rw [hc] at h <;> simp only [pickV, reduceCtorEq] at h
    rename_i t
    cases t <;> simp only [Option.some.injEq] at h <;> subst h <;> rfl
  · rw [Sem.run_bind, run_binX h w]; rfl
  · rw [Sem.run_bind, run_unV w h]; rfl
  · rw [Sem.run_bind, run_convV hw h]; rfl
  · rename_i x
    unfold nilV at h
    split at h
    · rename_i a hx; cases h; simp only [hx]; rfl
    · rename_i k a b hx; cases h; simp only [hx]; rfl
    · cases h
  · rw [Sem.run_bind, run_fieldAddrV h w]; rfl
  · rw [Sem.run_bind, run_fieldV h w]; rfl
  · rw [Sem.run_bind, run_indexAddrV h w]; rfl
  · rw [Sem.run_bind, run_indexV h w]; rfl
  · rename_i t x
    unfold loadAtV at h
    split at h
    · rename_i b off hx
      simp only [Instr.loadAt, hx, Instr.sureAddr, Sem.run_bind, Sem.run_pure, Result.andThen_ok, run_loadVar hw h]
    · cases h
  · rename_i x i
    unfold extractV at h
    split at h
    · rename_i vs hx
      simp only [Instr.extract, hx, h]; rfl
    · cases h
  · rename_i t x lo hi
    have h' : sliceV (ixT P t) (ev f x) ((lo.map (ev f)).map ixI) ((hi.map (ev f)).map ixI) = some v := by
      rw [Option.map_map, Option.map_map]; exact h
    rw [Sem.run_bind]
    simp only [Option.map_none]
    rw [run_sliceV h' w]; rfl
  · cases h; rfl
  · rename_i args ts
    split at h
    · rename_i x t hx ht
      have h1 : (args.map (ev f))[0]? = some (ev f x) := by simp [hx]
      simp only [resolve, Sem.run_bind, Sem.run_pure, Result.andThen_ok, invoke, builtin]
      rw [run_lenV h _ _ _ h1 ht w]; rfl
    · cases h
  · rename_i args ts
    split at h
    · rename_i x t hx ht
      have h1 : (args.map (ev f))[0]? = some (ev f x) := by simp [hx]
      simp only [resolve, Sem.run_bind, Sem.run_pure, Result.andThen_ok, invoke, builtin]
      rw [run_capV h _ _ _ h1 ht w]; rfl
    · cases h
  · cases h
end
end Go.Sx
